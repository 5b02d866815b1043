-- Made by a program of this session (wip/gen)
import Derived.Test.YtdifpehainbkmaaDoorPAllx0
import Derived.Test.YtdifpehainbkmaaDoorPAllx1
namespace Go.Proofs.YtdifpehainbkmaaDoor.PAll
open Go.RowKit Go.Proofs.YtdifpehainbkmaaDoorW.PrintWords Go.Proofs.YtdifpehainbkmaaDoorW.PrintLast Go.Proofs.YtdifpehainbkmaaDoorW.PrintMore
attribute [local go_sem] max2_int min2_int max_two min_two max_three min_three max_four min_four   -- for this text's walks alone
set_option linter.unusedVariables false
set_option linter.unusedSimpArgs false

/-! ### label_Signs: function 17 -/
def label_Signs.f (a0 : ByteArray) : Option (Int) := if a0.size ≤ 140737488351232 then some (Go.Proofs.YtdifpehainbkmaaDoor.Lab.signs a0) else none
theorem label_letter_nat (c : Nat) : label_letter.f (c : Int) = some (Go.Proofs.YtdifpehainbkmaaDoor.Lab.letter c) := by
  unfold label_letter.f Go.Proofs.YtdifpehainbkmaaDoor.Lab.letter
  by_cases h1 : 97 ≤ c
  · rw [if_pos (by omega)]
    by_cases h2 : c ≤ 122
    · rw [if_pos (by omega)]; simp [h1, h2]
    · rw [if_neg (by omega)]
      by_cases h3 : 945 ≤ c
      · rw [if_pos (by omega)]; simp [h2, h3]; omega
      · rw [if_neg (by omega)]; simp [h2, h3]
  · rw [if_neg (by omega), if_neg (by omega)]
    have h3 : ¬ 945 ≤ c := by omega
    simp [h1, h3]
theorem label_digit_nat (c : Nat) : label_digit.f (c : Int) = some (decide (48 ≤ c) && decide (c ≤ 57)) := by
  unfold label_digit.f
  by_cases h1 : 48 ≤ c
  · rw [if_pos (by omega)]; simp [h1]; omega
  · rw [if_neg (by omega)]; simp [h1]
set_option maxHeartbeats 8000000 in
set_option maxRecDepth 100000 in
theorem label_Signs.calls (a0 : ByteArray) (r : Int) (w : World) (hT : Tabs w) (h : label_Signs.f a0 = some r) :
    Calls Tryd.prog 17 #[.string a0] w fun e w' => e = .returned (.int .i64 r) ∧ Below w.heap.size w w' := by
  have hsz : a0.size ≤ 140737488351232 := by
    by_cases c : a0.size ≤ 140737488351232
    · exact c
    · rw [label_Signs.f, if_neg c] at h; cases h
  obtain rfl : Go.Proofs.YtdifpehainbkmaaDoor.Lab.signs a0 = r := by rw [label_Signs.f, if_pos hsz] at h; exact Option.some.inj h
  clear h
  unfold Go.Proofs.YtdifpehainbkmaaDoor.Lab.signs
  obtain ⟨ANS, hANS⟩ : ∃ ANS, Go.Proofs.YtdifpehainbkmaaDoor.Lab.scan a0 a0.size 0 0 = ANS := ⟨_, rfl⟩
  have hA0 : -1 ≤ ANS ∧ ANS ≤ 140737488351232 := by
    rw [← hANS]; have := Go.Proofs.YtdifpehainbkmaaDoor.Lab.scan_le a0 a0.size 0 0; omega
  rw [hANS]
  obtain ⟨RES, hRES⟩ : ∃ RES : Int, (if ANS ≤ 0 ∨ 16 < ANS ∨ Lib.validD a0.data.toList = false then -1 else ANS) = RES := ⟨_, rfl⟩
  rw [hRES]
  have HR := Aside0.mk hRES
  clear hRES
  have HTA := Aside0.mk hT
  clear hT
  go_enter Tryd.func17, Tryd.ntmps17
  go_wp2
  go_loopg [3] a0.size (fun g s3 wx => ∃ (v : World) (pos n : Nat), wx = v.iter a0 pos ∧ v.heap.size = w.heap.size ∧ Below w.heap.size w v ∧ s3 = .int .i64 (n : Int) ∧ n ≤ pos ∧ a0.size ≤ pos + g ∧ Go.Proofs.YtdifpehainbkmaaDoor.Lab.scan a0 g pos n = ANS)
  case atStart => exact ⟨w, 0, 0, rfl, rfl, Below.refl _ _, rfl, by omega, by omega, hANS⟩
  case round =>
    obtain ⟨v, pos, n, rfl, hv, hbv, rfl, hnp, hpg, hsc⟩ := hrel
    clear hANS
    by_cases hp : pos < a0.size
    · obtain ⟨g', rfl⟩ : ∃ g', gk = g' + 1 := ⟨gk - 1, by omega⟩
      rw [Go.Proofs.YtdifpehainbkmaaDoor.Lab.scan_step a0 g' pos n hp] at hsc
      have hnx := fun ty => run_next_any (P := Tryd.prog) v a0 pos ty hp
      rw [hv] at hnx
      have hw1 := Lib.width_pos a0 pos
      generalize Utf8.decode a0 pos = d at hsc hnx hw1
      obtain ⟨c, wd⟩ := d
      have hL := label_letter_nat c
      have hD := label_digit_nat c
      simp only at hsc hnx hw1
      have Hsc := Aside0.mk hsc
      clear hsc
      have Hbv := Aside0.mk hbv
      clear hbv
      have hwr : IntKind.i64.wrap ((n : Int) + 1) = (n : Int) + 1 := by rw [IntKind.wrap_i64]; omega
      cases cL : Go.Proofs.YtdifpehainbkmaaDoor.Lab.letter c
      · rw [cL] at hL
        have Hc := Aside0.mk cL
        clear cL
        by_cases n0 : n = 0
        · subst n0
          go_wp2_with (first | (go_at_call 29; refine (label_letter.calls (c : Int) _ _ hL).mono ?_; rintro e w' ⟨rfl, nd, rfl⟩) | (go_at_call 30; refine (label_digit.calls (c : Int) _ _ hD).mono ?_; rintro e w' ⟨rfl, nd2, rfl⟩))
          go_ret
          have h2 := Hsc.out
          rw [Hc.out] at h2
          simp at h2
          have h3 := HR.out
          rw [if_pos (by omega)] at h3
          subst h3
          exact ⟨rfl, pw_below_drewN (show Below w.heap.size w (v.iter a0 (pos + wd)) from Hbv.out.alloc (Nat.le_of_eq hv.symm) _) nd⟩
        · have n1 : ((n : Int) == 0) = false := by simp [n0]
          have HN := Aside0.mk (show decide (0 < n) = true by simp; omega)
          cases cD : (decide (48 ≤ c) && decide (c ≤ 57))
          · rw [cD] at hD
            have Hd := Aside0.mk cD
            clear cD
            by_cases c45 : c = 45
            · have m1 : ((c : Int) != 45) = false := by simp [c45]
              have H45 := Aside0.mk c45
              clear c45
              go_wp2_with (first | (go_at_call 29; refine (label_letter.calls (c : Int) _ _ hL).mono ?_; rintro e w' ⟨rfl, nd, rfl⟩) | (go_at_call 30; refine (label_digit.calls (c : Int) _ _ hD).mono ?_; rintro e w' ⟨rfl, nd2, rfl⟩))
              go_roundg g'
              case measure => omega
              case rel => exact ⟨v.drewN (nd + nd2), pos + wd, n + 1, rfl, hv, pw_below_drewN Hbv.out (nd + nd2), congrArg (Value.int .i64) (by omega), by omega, by omega, by have h2 := Hsc.out; rw [Hc.out, HN.out, show Go.Proofs.YtdifpehainbkmaaDoor.Lab.behind c = true by unfold Go.Proofs.YtdifpehainbkmaaDoor.Lab.behind; rw [Hd.out, H45.out]; rfl] at h2; exact h2⟩
            · have m1 : ((c : Int) != 45) = true := by simp; omega
              have H45 := Aside0.mk c45
              clear c45
              go_wp2_with (first | (go_at_call 29; refine (label_letter.calls (c : Int) _ _ hL).mono ?_; rintro e w' ⟨rfl, nd, rfl⟩) | (go_at_call 30; refine (label_digit.calls (c : Int) _ _ hD).mono ?_; rintro e w' ⟨rfl, nd2, rfl⟩))
              go_ret
              have h2 := Hsc.out
              rw [Hc.out, HN.out, show Go.Proofs.YtdifpehainbkmaaDoor.Lab.behind c = false by unfold Go.Proofs.YtdifpehainbkmaaDoor.Lab.behind; rw [Hd.out, decide_eq_false H45.out]; rfl] at h2
              simp at h2
              have h3 := HR.out
              rw [if_pos (by omega)] at h3
              subst h3
              exact ⟨rfl, pw_below_drewN (show Below w.heap.size w (v.iter a0 (pos + wd)) from Hbv.out.alloc (Nat.le_of_eq hv.symm) _) (nd + nd2)⟩
          · rw [cD] at hD
            have Hd := Aside0.mk cD
            clear cD
            go_wp2_with (first | (go_at_call 29; refine (label_letter.calls (c : Int) _ _ hL).mono ?_; rintro e w' ⟨rfl, nd, rfl⟩) | (go_at_call 30; refine (label_digit.calls (c : Int) _ _ hD).mono ?_; rintro e w' ⟨rfl, nd2, rfl⟩))
            go_roundg g'
            case measure => omega
            case rel => exact ⟨v.drewN (nd + nd2), pos + wd, n + 1, rfl, hv, pw_below_drewN Hbv.out (nd + nd2), congrArg (Value.int .i64) (by omega), by omega, by omega, by have h2 := Hsc.out; rw [Hc.out, HN.out, show Go.Proofs.YtdifpehainbkmaaDoor.Lab.behind c = true by unfold Go.Proofs.YtdifpehainbkmaaDoor.Lab.behind; rw [Hd.out]; rfl] at h2; exact h2⟩
      · rw [cL] at hL
        have Hc := Aside0.mk cL
        clear cL
        go_wp2_with (first | (go_at_call 29; refine (label_letter.calls (c : Int) _ _ hL).mono ?_; rintro e w' ⟨rfl, nd, rfl⟩) | (go_at_call 30; refine (label_digit.calls (c : Int) _ _ hD).mono ?_; rintro e w' ⟨rfl, nd2, rfl⟩))
        go_roundg g'
        case measure => omega
        case rel => exact ⟨v.drewN nd, pos + wd, n + 1, rfl, hv, pw_below_drewN Hbv.out nd, congrArg (Value.int .i64) (by omega), by omega, by omega, by have h2 := Hsc.out; rw [Hc.out] at h2; exact h2⟩
    · have hnx := fun ty => run_next_end (P := Tryd.prog) v a0 pos ty hp
      rw [hv] at hnx
      rw [Go.Proofs.YtdifpehainbkmaaDoor.Lab.scan_end a0 gk pos n hp] at hsc
      have Hbv := Aside0.mk hbv
      clear hbv
      have Hb2 := Aside0.mk (show Below w.heap.size w (v.iter a0 pos) from Hbv.out.alloc (Nat.le_of_eq hv.symm) _)
      clear hA0 hpg hp
      by_cases n0 : n = 0
      · subst n0
        go_wp2_with fail
        go_ret
        have h3 := HR.out
        rw [if_pos (by omega)] at h3
        subst h3
        exact ⟨rfl, Hb2.out⟩
      · have n1 : ((n : Int) == 0) = false := by simp [n0]
        by_cases n16 : 16 < n
        · have n2 : (16 : Int) < (n : Int) := by omega
          go_wp2_with fail
          go_ret
          have h3 := HR.out
          rw [if_pos (by omega)] at h3
          subst h3
          exact ⟨rfl, Hb2.out⟩
        · have n2 : decide ((16 : Int) < (n : Int)) = false := decide_eq_false (by omega)
          have cV := Aside0.mk (show Calls Tryd.prog 31 #[.string a0] (v.iter a0 pos) _ from Any.utf8_ValidString Tryd.laysValid a0 (v.iter a0 pos) (by omega) (Tabs.u8 (Tabs.below HTA.out Hb2.out)))
          have Hsc := Aside0.mk hsc
          have Hn := Aside0.mk (show (n : Int) ≤ 16 ∧ 0 < (n : Int) by omega)
          clear hsc
          have HV := Aside0.mk (rfl : Lib.validD a0.data.toList = Lib.validD a0.data.toList)
          generalize hVV : Lib.validD a0.data.toList = V at cV HR
          clear HV
          cases V
          · go_wp2_with (go_at_call 31; refine cV.out.mono ?_; rintro e w' ⟨rfl, hb⟩)
            go_ret
            have h3 := HR.out
            rw [if_pos (by simp)] at h3
            subst h3
            exact ⟨rfl, below_step Hb2.out hb⟩
          · go_wp2_with (go_at_call 31; refine cV.out.mono ?_; rintro e w' ⟨rfl, hb⟩)
            go_ret
            have h3 := HR.out
            have h4 := Hsc.out
            have h5 := Hn.out
            rw [if_neg (by rintro (h | h | h); · omega
                           · omega
                           · cases h)] at h3
            subst h3
            subst h4
            exact ⟨rfl, below_step Hb2.out hb⟩

/-! ### label_Right: function 15 -/
def label_Right.f (a0 : ByteArray) : Option (Bool) := (label_Signs.f a0).bind fun t108 => (some (decide (t108 > 0)))
set_option maxHeartbeats 8000000 in
set_option maxRecDepth 100000 in
theorem label_Right.calls (a0 : ByteArray) (r : Bool) (w : World) (hT : Tabs w) (h : label_Right.f a0 = some r) :
    Calls Tryd.prog 15 #[.string a0] w fun e w' => e = .returned (.bool r) ∧ Below w.heap.size w w' := by
  have HT := Aside0.mk hT
  clear hT
  have HB := Aside0.mk (Below.refl w.heap.size w)
  have H : ((label_Signs.f a0).bind fun t108 => (some (decide (t108 > 0)))) = some r := h
  clear h
  replace H := Option.bind_eq_some_iff.mp H
  obtain ⟨t108, A20, H⟩ := H
  replace H : (some (decide (t108 > 0))) = some r := H
  have A2 := Aside0.mk A20
  clear A20
  obtain rfl := Option.some.inj H
  simp only [Option.some.injEq, Prod.mk.injEq] at H
  obtain ⟨rfl⟩ := H
  go_enter Tryd.func15, Tryd.ntmps15
  go_wp2_with (first | ((with_reducible refine gate_callee (f := 17) rfl ?_); refine goesL_ (some 4) rfl rfl Tryd.func17 (by kernel_rfl) rfl #[.string a0] rfl (by (try simp only [List.map_toArray, List.map_cons, List.map_nil]); first | done | rfl | (simp only [List.length_drop, List.length_take]; rfl)) ?_; (with_reducible refine (label_Signs.calls a0 t108 _ ?side1 A2.out).mono ?_); (case side1 => exact Tabs.below HT.out (by repeat (first | (with_reducible first | exact HB.out | apply below_alloc | apply pw_below_drewN | apply below_drew1) | exact HB.out))); rintro e w3 ⟨rfl, hb⟩; refine ⟨_, rfl, ?_⟩; have n0_ := Aside0.mk (below_step (by repeat (first | (with_reducible first | exact HB.out | apply below_alloc | apply pw_below_drewN | apply below_drew1) | exact HB.out)) hb); clear HB; have HB := n0_; clear n0_; (try clear hb); (try clear hb2); (try clear hk); (try clear hi)))
  go_ret
  exact ⟨by first | rfl | (simp [errW_none, errW_some] <;> rfl) | (simp [*, errW_none, errW_some] <;> rfl), by repeat (first | (with_reducible first | exact HB.out | apply below_alloc | apply pw_below_drewN | apply below_drew1) | exact HB.out)⟩

/-! ### strings_TrimRight: function 27 -/
/-- strings.TrimRight by a set of bytes below 128. -/
def strings_TrimRight.f (a0 : ByteArray) (a1 : ByteArray) : Option (ByteArray) := if a0.size ≤ 140737488351232 ∧ a1.size ≤ 1000 ∧ (a1.data.toList.all fun b => decide (b.toNat < 128)) = true then some ⟨(Lib.trimRightS a0.data.toList a1.data.toList).toArray⟩ else none
theorem strings_TrimRight.calls (a0 : ByteArray) (a1 : ByteArray) (r : ByteArray) (w : World) (h : strings_TrimRight.f a0 a1 = some r) :
    Calls Tryd.prog 27 #[.string a0, .string a1] w fun e w' => e = .returned (.string r) ∧ Below w.heap.size w w' := by
  unfold strings_TrimRight.f at h
  by_cases c : a0.size ≤ 140737488351232 ∧ a1.size ≤ 1000 ∧ (a1.data.toList.all fun b => decide (b.toNat < 128)) = true
  · rw [if_pos c] at h
    obtain rfl := Option.some.inj h
    exact Any.strings_TrimRight_laid Tryd.laysTrimRight (by kernel_rfl) a0 a1 w (by omega) (by omega) (fun j b hb => by simpa using List.all_eq_true.1 c.2.2 b (List.mem_of_getElem? hb))
  · rw [if_neg c] at h; cases h

/-! ### strings_Repeat: function 28 -/
def strings_Repeat.f (a0 : ByteArray) (a1 : Int) : Option (ByteArray) := if 0 ≤ a1 ∧ a1 ≤ 140737488351232 ∧ a0.size * a1.toNat ≤ 140737488351232 then some ⟨(Lib.repeatL a0.data.toList a1.toNat).toArray⟩ else none
theorem strings_Repeat.calls (a0 : ByteArray) (a1 : Int) (r : ByteArray) (w : World) (h : strings_Repeat.f a0 a1 = some r) :
    Calls Tryd.prog 28 #[.string a0, .int .i64 a1] w fun e w' => e = .returned (.string r) ∧ Below w.heap.size w w' := by
  unfold strings_Repeat.f at h
  by_cases c : 0 ≤ a1 ∧ a1 ≤ 140737488351232 ∧ a0.size * a1.toNat ≤ 140737488351232
  · rw [if_pos c] at h
    obtain rfl := Option.some.inj h
    obtain ⟨n, rfl⟩ : ∃ n : Nat, a1 = n := ⟨a1.toNat, by omega⟩
    rw [Int.toNat_natCast] at c ⊢
    exact Any.strings_Repeat Tryd.laysRepeat Tryd.laysRepeat_ex a0 n w (by omega) (by omega)
  · rw [if_neg c] at h; cases h

end Go.Proofs.YtdifpehainbkmaaDoor.PAll
