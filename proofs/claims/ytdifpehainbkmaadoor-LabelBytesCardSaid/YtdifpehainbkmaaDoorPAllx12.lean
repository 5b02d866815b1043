-- Made by a program of this session (wip/gen)
import Derived.Test.YtdifpehainbkmaaDoorPAllx0
import Derived.Test.YtdifpehainbkmaaDoorPAllx2
import Derived.Test.YtdifpehainbkmaaDoorPAllx4
import Derived.Test.YtdifpehainbkmaaDoorPAllx9
namespace Go.Proofs.YtdifpehainbkmaaDoor.PAll
open Go.RowKit Go.Proofs.YtdifpehainbkmaaDoorW.PrintWords Go.Proofs.YtdifpehainbkmaaDoorW.PrintLast Go.Proofs.YtdifpehainbkmaaDoorW.PrintMore
attribute [local go_sem] max2_int min2_int max_two min_two max_three min_three max_four min_four   -- for this text's walks alone
set_option linter.unusedVariables false
set_option linter.unusedSimpArgs false

/-! ### strings_Compare: function 25 -/
def strings_Compare.f (a0 : ByteArray) (a1 : ByteArray) : Option (Int) := some (Lib.compareBytes a0.data.toList a1.data.toList)
theorem strings_Compare.calls (a0 : ByteArray) (a1 : ByteArray) (r : Int) (w : World) (h : strings_Compare.f a0 a1 = some r) :
    Calls Tryd.prog 25 #[.string a0, .string a1] w fun e w' => e = .returned (.int .i64 r) ∧ Drawn0 w w' := by
  obtain rfl := Option.some.inj h
  exact (Any.strings_Compare Tryd.laysCompare a0 a1 w).mono fun e w' ⟨he, hw⟩ => ⟨he, hw ▸ ⟨0, rfl⟩⟩

/-! ### label_Compare: function 10 -/
def label_Compare.f (a0 : ByteArray) (a1 : ByteArray) : Option (Int) := (strings_Compare.f a0 a1).bind fun t190 => (some t190)
set_option maxHeartbeats 8000000 in
set_option maxRecDepth 100000 in
theorem label_Compare.calls (a0 : ByteArray) (a1 : ByteArray) (r : Int) (w : World) (h : label_Compare.f a0 a1 = some r) :
    Calls Tryd.prog 10 #[.string a0, .string a1] w fun e w' => e = .returned (.int .i64 r) ∧ Drawn0 w w' := by
  have H : ((strings_Compare.f a0 a1).bind fun t190 => (some t190)) = some r := h
  clear h
  replace H := Option.bind_eq_some_iff.mp H
  obtain ⟨t190, A30, H⟩ := H
  replace H : (some t190) = some r := H
  have A3 := Aside0.mk A30
  clear A30
  obtain rfl := Option.some.inj H
  simp only [Option.some.injEq, Prod.mk.injEq] at H
  obtain ⟨rfl⟩ := H
  go_enter Tryd.func10, Tryd.ntmps10
  go_wp2_with (first | ((with_reducible refine gate_callee (f := 25) rfl ?_); refine goesL_ (some 7) rfl rfl Tryd.func25 (by kernel_rfl) rfl #[.string a0, .string a1] rfl (by (try simp only [List.map_toArray, List.map_cons, List.map_nil]); first | done | rfl | (simp only [List.length_drop, List.length_take]; rfl)) ?_; (with_reducible refine (strings_Compare.calls a0 a1 t190 _ A3.out).mono ?_); rintro e w' ⟨rfl, ⟨nd, rfl⟩⟩; refine ⟨_, rfl, ?_⟩))
  go_ret
  exact ⟨by first | rfl | (simp; done) | (simp [*]; done), by repeat (first | exact Drawn0.refl _ | apply Drawn0.step)⟩

/-! ### packhorselaw01_LabelBytes: function 8 -/
def packhorselaw01_LabelBytes.j0 : Nat → ByteArray → ByteArray → Bool → Option (Bool)
  | 0, _, _, _ => none
  | k + 1, x0, x1, x17 => if x17 = true then (some true) else ((label_Signs.f x0).bind fun t194 => ((label_Join.f (([x0, x1, x0] : List ByteArray))).bind fun t198 => ((label_Split.f k t198).bind fun bt199 => (if (x0.size : Int) ≥ t194 then (if (x0.size : Int) ≤ (wrap64 (2 * t194)) then (if bt199.2 = 0 then (if (bt199.1.length : Int) = 3 then (if 0 < (bt199.1.length : Int) then (if (rdOf ByteArray.empty bt199.1 0).toList = x0.toList then (if 1 < (bt199.1.length : Int) then (if (rdOf ByteArray.empty bt199.1 1).toList = x1.toList then (if 2 < (bt199.1.length : Int) then (if (rdOf ByteArray.empty bt199.1 2).toList = x0.toList then ((label_Compare.f x0 x1).bind fun t206 => (some ((t206 == 0) == (x0.toList == x1.toList)))) else (some false)) else (none)) else (some false)) else (none)) else (some false)) else (none)) else (some false)) else (some false)) else (some false)) else (some false)))))
def packhorselaw01_LabelBytes.f (k : Nat) (a0 : ByteArray) (a1 : ByteArray) : Option (Bool) := (packhorselaw01_labelAlive.f).bind fun t191 => (if t191 = true then ((label_Right.f a0).bind fun t192 => (if t192 = true then ((label_Right.f a1).bind fun t193 => (packhorselaw01_LabelBytes.j0 k a0 a1 (!t193))) else (packhorselaw01_LabelBytes.j0 k a0 a1 true))) else (some false))
theorem packhorselaw01_LabelBytes.mono_l : ∀ k, (∀ y0 y1 y2, LeO (packhorselaw01_LabelBytes.j0 k y0 y1 y2) (packhorselaw01_LabelBytes.j0 (k + 1) y0 y1 y2))
  | 0 => fun _ _ _ r h => by simp [packhorselaw01_LabelBytes.j0] at h
  | k + 1 => by
    have ih0 := packhorselaw01_LabelBytes.mono_l k
    · intro y0 y1 y2
      unfold packhorselaw01_LabelBytes.j0
      repeat' first
      | (with_reducible exact ih0 _ _ _)
      | (with_reducible exact label_Split.mono _ _)
      | (with_reducible exact LeO.refl _)
      | (with_reducible exact LeO.none _)
      | (with_reducible refine LeO.ite ?_ ?_)
      | (with_reducible refine LeO.bind ?_ (fun _ => ?_))
      | exact ih0 _ _ _
      | exact label_Split.mono _ _
      | exact LeO.none _
      | refine LeO.ite ?_ ?_
      | refine LeO.bind ?_ (fun _ => ?_)
theorem packhorselaw01_LabelBytes.mono : ∀ a0 a1 k, LeO (packhorselaw01_LabelBytes.f k a0 a1) (packhorselaw01_LabelBytes.f (k + 1) a0 a1) := by
  intro a0 a1 k
  have ih0 := packhorselaw01_LabelBytes.mono_l k
  unfold packhorselaw01_LabelBytes.f
  repeat' first
      | (with_reducible exact ih0 _ _ _)
      | (with_reducible exact label_Split.mono _ _)
      | (with_reducible exact LeO.refl _)
      | (with_reducible exact LeO.none _)
      | (with_reducible refine LeO.ite ?_ ?_)
      | (with_reducible refine LeO.bind ?_ (fun _ => ?_))
      | exact ih0 _ _ _
      | exact label_Split.mono _ _
      | exact LeO.none _
      | refine LeO.ite ?_ ?_
      | refine LeO.bind ?_ (fun _ => ?_)
set_option maxHeartbeats 8000000 in
set_option maxRecDepth 100000 in
theorem packhorselaw01_LabelBytes.calls (k : Nat) (a0 : ByteArray) (a1 : ByteArray) (r : Bool) (w : World) (hT : Tabs w) (h : packhorselaw01_LabelBytes.f k a0 a1 = some r) (hr_ : r = true) :
    Calls Tryd.prog 8 #[.string a0, .string a1] w fun e w' => e = .returned (.bool r) ∧ Below w.heap.size w w' := by
  have HRT := Aside0.mk hr_
  clear hr_
  have HT := Aside0.mk hT
  clear hT
  have HB := Aside0.mk (Below.refl w.heap.size w)
  have H : ((packhorselaw01_labelAlive.f).bind fun t191 => (if t191 = true then ((label_Right.f a0).bind fun t192 => (if t192 = true then ((label_Right.f a1).bind fun t193 => (packhorselaw01_LabelBytes.j0 k a0 a1 (!t193))) else (packhorselaw01_LabelBytes.j0 k a0 a1 true))) else (some false))) = some r := h
  clear h
  replace H := Option.bind_eq_some_iff.mp H
  obtain ⟨t191, A30, H⟩ := H
  replace H : (if t191 = true then ((label_Right.f a0).bind fun t192 => (if t192 = true then ((label_Right.f a1).bind fun t193 => (packhorselaw01_LabelBytes.j0 k a0 a1 (!t193))) else (packhorselaw01_LabelBytes.j0 k a0 a1 true))) else (some false)) = some r := H
  have A3 := Aside0.mk A30
  clear A30
  by_cases c4 : t191 = true
  · subst c4
    have H1 : ((label_Right.f a0).bind fun t192 => (if t192 = true then ((label_Right.f a1).bind fun t193 => (packhorselaw01_LabelBytes.j0 k a0 a1 (!t193))) else (packhorselaw01_LabelBytes.j0 k a0 a1 true))) = some r := by rw [if_pos rfl] at H; exact H
    clear H
    have H := H1
    clear H1
    have HC5 := Aside0.mk H
    clear H
    go_enter Tryd.func8, Tryd.ntmps8
    go_upto_region 3 with (first | ((with_reducible refine gate_callee (f := 9) rfl ?_); refine goesL_ (some 8) rfl rfl Tryd.func9 (by kernel_rfl) rfl #[] rfl (by (try simp only [List.map_toArray, List.map_cons, List.map_nil]); first | done | rfl | (simp only [List.length_drop, List.length_take]; rfl)) ?_; (with_reducible refine (packhorselaw01_labelAlive.calls  true _ ?side1 A3.out rfl).mono ?_); (case side1 => exact Tabs.below HT.out (by repeat (first | (with_reducible first | exact HB.out | apply below_alloc | apply pw_below_drewN | apply below_drew1) | exact HB.out))); rintro e w6 ⟨rfl, hb⟩; refine ⟨_, rfl, ?_⟩; have n0_ := Aside0.mk (below_step (by repeat (first | (with_reducible first | exact HB.out | apply below_alloc | apply pw_below_drewN | apply below_drew1) | exact HB.out)) hb); clear HB; have HB := n0_; clear n0_; (try clear hb); (try clear hb2); (try clear hk); (try clear hi)))
    (try simp only [Act.put, List.setIfInBounds_toArray, List.set_cons_zero, List.set_cons_succ])
    go_cut [17] (fun v17 wc => ∃ (kq : Nat) (x17_4 : Bool), v17 = .bool x17_4 ∧ Aside0 (packhorselaw01_LabelBytes.j0 kq a0 a1 x17_4 = some r) ∧ Aside0 (kq ≤ k) ∧ Aside0 (Below w.heap.size w wc))
    case first =>
      have H := HC5.out
      clear HC5
      replace H := Option.bind_eq_some_iff.mp H
      obtain ⟨t192, A70, H⟩ := H
      replace H : (if t192 = true then ((label_Right.f a1).bind fun t193 => (packhorselaw01_LabelBytes.j0 k a0 a1 (!t193))) else (packhorselaw01_LabelBytes.j0 k a0 a1 true)) = some r := H
      have A7 := Aside0.mk A70
      clear A70
      by_cases c8 : t192 = true
      · subst c8
        have H1 : ((label_Right.f a1).bind fun t193 => (packhorselaw01_LabelBytes.j0 k a0 a1 (!t193))) = some r := by rw [if_pos rfl] at H; exact H
        clear H
        have H := H1
        clear H1
        replace H := Option.bind_eq_some_iff.mp H
        obtain ⟨t193, A90, H⟩ := H
        replace H : (packhorselaw01_LabelBytes.j0 k a0 a1 (!t193)) = some r := H
        have A9 := Aside0.mk A90
        clear A90
        have H' := Aside0.mk H
        clear H
        go_wp2_with (first | ((with_reducible refine gate_callee (f := 15) rfl ?_); refine goesL_ (some 11) rfl rfl Tryd.func15 (by kernel_rfl) rfl #[.string a0] rfl (by (try simp only [List.map_toArray, List.map_cons, List.map_nil]); first | done | rfl | (simp only [List.length_drop, List.length_take]; rfl)) ?_; (with_reducible refine (label_Right.calls a0 true _ ?side1 A7.out).mono ?_); (case side1 => exact Tabs.below HT.out (by repeat (first | (with_reducible first | exact HB.out | apply below_alloc | apply pw_below_drewN | apply below_drew1) | exact HB.out))); rintro e w10 ⟨rfl, hb⟩; refine ⟨_, rfl, ?_⟩; have n0_ := Aside0.mk (below_step (by repeat (first | (with_reducible first | exact HB.out | apply below_alloc | apply pw_below_drewN | apply below_drew1) | exact HB.out)) hb); clear HB; have HB := n0_; clear n0_; (try clear hb); (try clear hb2); (try clear hk); (try clear hi)) | (go_at_call 15; (with_reducible refine (label_Right.calls a1 t193 _ ?side1 A9.out).mono ?_); (case side1 => exact Tabs.below HT.out (by repeat (first | (with_reducible first | exact HB.out | apply below_alloc | apply pw_below_drewN | apply below_drew1) | exact HB.out))); rintro e w11 ⟨rfl, hb⟩; have n0_ := Aside0.mk (below_step (by repeat (first | (with_reducible first | exact HB.out | apply below_alloc | apply pw_below_drewN | apply below_drew1) | exact HB.out)) hb); clear HB; have HB := n0_; clear n0_; (try clear hb); (try clear hb2); (try clear hk); (try clear hi)))
        go_meet
        case rel => exact ⟨_, (!t193), (by first | rfl | (simp; done) | (simp [*]; done)), H', ⟨by first | omega | exact Nat.le_refl _⟩, ⟨by repeat (first | (with_reducible first | exact HB.out | apply below_alloc | apply pw_below_drewN | apply below_drew1) | exact HB.out)⟩⟩
      · replace c8 := Bool.eq_false_iff.mpr c8
        subst c8
        have H1 : (packhorselaw01_LabelBytes.j0 k a0 a1 true) = some r := by rw [if_neg (show ¬ (false = true) by decide)] at H; exact H
        clear H
        have H := H1
        clear H1
        have H' := Aside0.mk H
        clear H
        go_wp2_with (first | ((with_reducible refine gate_callee (f := 15) rfl ?_); refine goesL_ (some 11) rfl rfl Tryd.func15 (by kernel_rfl) rfl #[.string a0] rfl (by (try simp only [List.map_toArray, List.map_cons, List.map_nil]); first | done | rfl | (simp only [List.length_drop, List.length_take]; rfl)) ?_; (with_reducible refine (label_Right.calls a0 false _ ?side1 A7.out).mono ?_); (case side1 => exact Tabs.below HT.out (by repeat (first | (with_reducible first | exact HB.out | apply below_alloc | apply pw_below_drewN | apply below_drew1) | exact HB.out))); rintro e w12 ⟨rfl, hb⟩; refine ⟨_, rfl, ?_⟩; have n0_ := Aside0.mk (below_step (by repeat (first | (with_reducible first | exact HB.out | apply below_alloc | apply pw_below_drewN | apply below_drew1) | exact HB.out)) hb); clear HB; have HB := n0_; clear n0_; (try clear hb); (try clear hb2); (try clear hk); (try clear hi)))
        go_meet
        case rel => exact ⟨_, (true), (by first | rfl | (simp; done) | (simp [*]; done)), H', ⟨by first | omega | exact Nat.le_refl _⟩, ⟨by repeat (first | (with_reducible first | exact HB.out | apply below_alloc | apply pw_below_drewN | apply below_drew1) | exact HB.out)⟩⟩
    case rest =>
      clear HC5
      try clear c1
      try clear p2
      try clear c4
      try clear c8
      try clear c9
      obtain ⟨kq, x17_4, rfl, HA, HJ4, HB⟩ := hcut
      cases kq with
      | zero => exact absurd HA.out (by simp [packhorselaw01_LabelBytes.j0])
      | succ kj4 =>
        have H := HA.out
        clear HA
        simp only [packhorselaw01_LabelBytes.j0] at H
        by_cases c13 : x17_4 = true
        · subst c13
          have H1 : (some true) = some r := by rw [if_pos rfl] at H; exact H
          clear H
          have H := H1
          clear H1
          obtain rfl := Option.some.inj H
          simp only [Option.some.injEq, Prod.mk.injEq] at H
          obtain ⟨rfl⟩ := H
          go_wp2
          go_ret
          exact ⟨by first | rfl | (simp [errW_none, errW_some] <;> rfl) | (simp [*, errW_none, errW_some] <;> rfl), by repeat (first | (with_reducible first | exact HB.out | apply below_alloc | apply pw_below_drewN | apply below_drew1) | exact HB.out)⟩
        · replace c13 := Bool.eq_false_iff.mpr c13
          subst c13
          have H1 : ((label_Signs.f a0).bind fun t194 => ((label_Join.f (([a0, a1, a0] : List ByteArray))).bind fun t198 => ((label_Split.f kj4 t198).bind fun bt199 => (if (a0.size : Int) ≥ t194 then (if (a0.size : Int) ≤ (wrap64 (2 * t194)) then (if bt199.2 = 0 then (if (bt199.1.length : Int) = 3 then (if 0 < (bt199.1.length : Int) then (if (rdOf ByteArray.empty bt199.1 0).toList = a0.toList then (if 1 < (bt199.1.length : Int) then (if (rdOf ByteArray.empty bt199.1 1).toList = a1.toList then (if 2 < (bt199.1.length : Int) then (if (rdOf ByteArray.empty bt199.1 2).toList = a0.toList then ((label_Compare.f a0 a1).bind fun t206 => (some ((t206 == 0) == (a0.toList == a1.toList)))) else (some false)) else (none)) else (some false)) else (none)) else (some false)) else (none)) else (some false)) else (some false)) else (some false)) else (some false))))) = some r := by rw [if_neg (show ¬ (false = true) by decide)] at H; exact H
          clear H
          have H := H1
          clear H1
          replace H := Option.bind_eq_some_iff.mp H
          obtain ⟨t194, A140, H⟩ := H
          replace H : ((label_Join.f (([a0, a1, a0] : List ByteArray))).bind fun t198 => ((label_Split.f kj4 t198).bind fun bt199 => (if (a0.size : Int) ≥ t194 then (if (a0.size : Int) ≤ (wrap64 (2 * t194)) then (if bt199.2 = 0 then (if (bt199.1.length : Int) = 3 then (if 0 < (bt199.1.length : Int) then (if (rdOf ByteArray.empty bt199.1 0).toList = a0.toList then (if 1 < (bt199.1.length : Int) then (if (rdOf ByteArray.empty bt199.1 1).toList = a1.toList then (if 2 < (bt199.1.length : Int) then (if (rdOf ByteArray.empty bt199.1 2).toList = a0.toList then ((label_Compare.f a0 a1).bind fun t206 => (some ((t206 == 0) == (a0.toList == a1.toList)))) else (some false)) else (none)) else (some false)) else (none)) else (some false)) else (none)) else (some false)) else (some false)) else (some false)) else (some false)))) = some r := H
          have A14 := Aside0.mk A140
          clear A140
          obtain ⟨y195, hy195⟩ : ∃ y_ : List ByteArray, y_ = (([a0, a1, a0] : List ByteArray)) := ⟨_, rfl⟩
          replace H : ((label_Join.f y195).bind fun t198 => ((label_Split.f kj4 t198).bind fun bt199 => (if (a0.size : Int) ≥ t194 then (if (a0.size : Int) ≤ (wrap64 (2 * t194)) then (if bt199.2 = 0 then (if (bt199.1.length : Int) = 3 then (if 0 < (bt199.1.length : Int) then (if (rdOf ByteArray.empty bt199.1 0).toList = a0.toList then (if 1 < (bt199.1.length : Int) then (if (rdOf ByteArray.empty bt199.1 1).toList = a1.toList then (if 2 < (bt199.1.length : Int) then (if (rdOf ByteArray.empty bt199.1 2).toList = a0.toList then ((label_Compare.f a0 a1).bind fun t206 => (some ((t206 == 0) == (a0.toList == a1.toList)))) else (some false)) else (none)) else (some false)) else (none)) else (some false)) else (none)) else (some false)) else (some false)) else (some false)) else (some false)))) = some r := by first | (rw [hy195]; with_reducible exact H) | (have H2_ := (Option.bind_some _ _).symm.trans H; rw [hy195]; with_reducible exact H2_) | (have H2_ := (Option.bind_some _ _).symm.trans H; with_reducible exact H2_) | with_reducible exact H | (rw [hy195]; exact H) | exact H
          have Ny195 := Aside0.mk hy195
          clear hy195
          replace H := Option.bind_eq_some_iff.mp H
          obtain ⟨t198, A150, H⟩ := H
          replace H : ((label_Split.f kj4 t198).bind fun bt199 => (if (a0.size : Int) ≥ t194 then (if (a0.size : Int) ≤ (wrap64 (2 * t194)) then (if bt199.2 = 0 then (if (bt199.1.length : Int) = 3 then (if 0 < (bt199.1.length : Int) then (if (rdOf ByteArray.empty bt199.1 0).toList = a0.toList then (if 1 < (bt199.1.length : Int) then (if (rdOf ByteArray.empty bt199.1 1).toList = a1.toList then (if 2 < (bt199.1.length : Int) then (if (rdOf ByteArray.empty bt199.1 2).toList = a0.toList then ((label_Compare.f a0 a1).bind fun t206 => (some ((t206 == 0) == (a0.toList == a1.toList)))) else (some false)) else (none)) else (some false)) else (none)) else (some false)) else (none)) else (some false)) else (some false)) else (some false)) else (some false))) = some r := H
          have A15 := Aside0.mk A150
          clear A150
          replace H := Option.bind_eq_some_iff.mp H
          obtain ⟨⟨t199, t200⟩, A160, H⟩ := H
          replace H : (if (a0.size : Int) ≥ t194 then (if (a0.size : Int) ≤ (wrap64 (2 * t194)) then (if t200 = 0 then (if (t199.length : Int) = 3 then (if 0 < (t199.length : Int) then (if (rdOf ByteArray.empty t199 0).toList = a0.toList then (if 1 < (t199.length : Int) then (if (rdOf ByteArray.empty t199 1).toList = a1.toList then (if 2 < (t199.length : Int) then (if (rdOf ByteArray.empty t199 2).toList = a0.toList then ((label_Compare.f a0 a1).bind fun t206 => (some ((t206 == 0) == (a0.toList == a1.toList)))) else (some false)) else (none)) else (some false)) else (none)) else (some false)) else (none)) else (some false)) else (some false)) else (some false)) else (some false)) = some r := H
          have A16 := Aside0.mk A160
          clear A160
          by_cases c17 : (a0.size : Int) ≥ t194
          · rw [if_pos c17] at H
            have c17b0 : decide (t194 ≤ (a0.size : Int)) = true := decide_eq_true c17
            clear c17
            by_cases c18 : (a0.size : Int) ≤ (wrap64 (2 * t194))
            · rw [if_pos c18] at H
              have c18b0 : decide ((a0.size : Int) ≤ (wrap64 (2 * t194))) = true := decide_eq_true c18
              clear c18
              by_cases c19 : t200 = 0
              · rw [if_pos c19] at H
                have c19b0 : (t200 == 0) = true := beq_iff_eq.mpr c19
                have c19b1 : (t200 != 0) = false := bne_eq_false_iff_eq.mpr c19
                clear c19
                by_cases c20 : (t199.length : Int) = 3
                · rw [if_pos c20] at H
                  have c20b0 : ((t199.length : Int) == 3) = true := beq_iff_eq.mpr c20
                  have c20b1 : ((t199.length : Int) != 3) = false := bne_eq_false_iff_eq.mpr c20
                  clear c20
                  by_cases c21 : 0 < (t199.length : Int)
                  · rw [if_pos c21] at H
                    have c21b0 : decide (0 < (t199.length : Int)) = true := decide_eq_true c21
                    have c21b1 : decide (0 < t199.length) = true := decide_eq_true (by omega)
                    clear c21
                    by_cases c22 : (rdOf ByteArray.empty t199 0).toList = a0.toList
                    · rw [if_pos c22] at H
                      have c22b0 : ((rdOf ByteArray.empty t199 0).toList == a0.toList) = true := beq_iff_eq.mpr c22
                      have c22b1 : ((rdOf ByteArray.empty t199 0).toList != a0.toList) = false := bne_eq_false_iff_eq.mpr c22
                      clear c22
                      by_cases c23 : 1 < (t199.length : Int)
                      · rw [if_pos c23] at H
                        have c23b0 : decide (1 < (t199.length : Int)) = true := decide_eq_true c23
                        have c23b1 : decide (1 < t199.length) = true := decide_eq_true (by omega)
                        clear c23
                        by_cases c24 : (rdOf ByteArray.empty t199 1).toList = a1.toList
                        · rw [if_pos c24] at H
                          have c24b0 : ((rdOf ByteArray.empty t199 1).toList == a1.toList) = true := beq_iff_eq.mpr c24
                          have c24b1 : ((rdOf ByteArray.empty t199 1).toList != a1.toList) = false := bne_eq_false_iff_eq.mpr c24
                          clear c24
                          by_cases c25 : 2 < (t199.length : Int)
                          · rw [if_pos c25] at H
                            have c25b0 : decide (2 < (t199.length : Int)) = true := decide_eq_true c25
                            have c25b1 : decide (2 < t199.length) = true := decide_eq_true (by omega)
                            clear c25
                            by_cases c26 : (rdOf ByteArray.empty t199 2).toList = a0.toList
                            · rw [if_pos c26] at H
                              have c26b0 : ((rdOf ByteArray.empty t199 2).toList == a0.toList) = true := beq_iff_eq.mpr c26
                              have c26b1 : ((rdOf ByteArray.empty t199 2).toList != a0.toList) = false := bne_eq_false_iff_eq.mpr c26
                              clear c26
                              replace H := Option.bind_eq_some_iff.mp H
                              obtain ⟨t206, A270, H⟩ := H
                              replace H : (some ((t206 == 0) == (a0.toList == a1.toList))) = some r := H
                              have A27 := Aside0.mk A270
                              clear A270
                              obtain rfl := Option.some.inj H
                              simp only [Option.some.injEq, Prod.mk.injEq] at H
                              obtain ⟨rfl⟩ := H
                              go_wp2_with (first | ((with_reducible refine gate_callee (f := 17) rfl ?_); refine goesL_ (some 19) rfl rfl Tryd.func17 (by kernel_rfl) rfl #[.string a0] rfl (by (try simp only [List.map_toArray, List.map_cons, List.map_nil]); first | done | rfl | (simp only [List.length_drop, List.length_take]; rfl)) ?_; (with_reducible refine (label_Signs.calls a0 t194 _ ?side1 A14.out).mono ?_); (case side1 => exact Tabs.below HT.out (by repeat (first | (with_reducible first | exact HB.out | apply below_alloc | apply pw_below_drewN | apply below_drew1) | exact HB.out))); rintro e w28 ⟨rfl, hb⟩; refine ⟨_, rfl, ?_⟩; have n0_ := Aside0.mk (below_step (by repeat (first | (with_reducible first | exact HB.out | apply below_alloc | apply pw_below_drewN | apply below_drew1) | exact HB.out)) hb); clear HB; have HB := n0_; clear n0_; (try clear hb); (try clear hb2); (try clear hk); (try clear hi)) | ((with_reducible refine gate_dst (N := 24) rfl ?_); (try (refine gate_guard (by rfl) ?_; dsimp only)); refine Kd.R_lit Kd.string _ 9 ?hg (N := 24) ?hd (xs := ([a0, a1, a0] : List ByteArray)) (inner := [.string a0, .string a1, .string a0]) (ok := fun _ => True) (okp := fun _ => True) ?hr ?hp (fun _ hk => hk) trivial (Below.refl _ _) (Nat.le_refl _) (by simp) ?_; (case hd => rfl); (case hg => rfl); (case hr => first | (go_simp; done) | (go_simp; rfl)); (case hp => exact (Reps.one (show Kd.M Kd.string _ _ _ a0 [.string a0] from rfl) (Reps.one (show Kd.M Kd.string _ _ _ a1 [.string a1] from rfl) (Reps.one (show Kd.M Kd.string _ _ _ a0 [.string a0] from rfl) (Reps.none _ _))))); intro v196 w29 ho30 hb hg_ hnew_; clear hg_ hnew_; (first | rw [← Ny195.out] at ho30 | (simp only [Int.reduceToNat] at ho30; rw [← Ny195.out] at ho30)); have n0_ := Aside0.mk (Kd.R_lower ho30 (below_size (by repeat (first | (with_reducible first | exact HB.out | apply below_alloc | apply pw_below_drewN | apply below_drew1) | exact HB.out)))); have n1_ := Aside0.mk (below_step (by repeat (first | (with_reducible first | exact HB.out | apply below_alloc | apply pw_below_drewN | apply below_drew1) | exact HB.out)) hb); clear HB; have HO197 := n0_; have HB := n1_; clear n0_ n1_; clear hb ho30; obtain ⟨Ao31, co31, eo31⟩ := Kd.R_slice HO197.out; subst eo31) | ((with_reducible refine gate_callee (f := 23) rfl ?_); refine goesL_ (some 25) rfl rfl Tryd.func23 (by kernel_rfl) rfl #[.slice Ao31 y195.length co31] rfl (by (try simp only [List.map_toArray, List.map_cons, List.map_nil]); first | done | rfl | (simp only [List.length_drop, List.length_take]; rfl)) ?_; (with_reducible refine (label_Join.calls _ _ y195 t198 _ ?side1 ?side2 A15.out).mono ?_); (case side1 => repeat (first | exact (Kd.R_reads' HO197.out).2.2 | (with_reducible refine Kd.C_alloc ?_ _) | (with_reducible refine Kd.C_drewN ?_ _) | (with_reducible refine Kd.C_drew ?_))); (case side2 => exact (Kd.R_reads' HO197.out).2.1); rintro e w32 ⟨rfl, hb⟩; refine ⟨_, rfl, ?_⟩; have n0_ := Aside0.mk (Kd.R_below (by (with_reducible repeat (first | apply Kd.R_alloc | apply Kd.R_drewN | apply Kd.R_drew)); exact HO197.out) hb); have n1_ := Aside0.mk (below_step (by repeat (first | (with_reducible first | exact HB.out | apply below_alloc | apply pw_below_drewN | apply below_drew1) | exact HB.out)) hb); clear HO197; clear HB; have HO197 := n0_; have HB := n1_; clear n0_ n1_; (try clear hb); (try clear hb2); (try clear hk); (try clear hi)) | ((with_reducible refine gate_callee (f := 20) rfl ?_); refine goesL_ (some 26) rfl rfl Tryd.func20 (by kernel_rfl) rfl #[.string t198] rfl (by (try simp only [List.map_toArray, List.map_cons, List.map_nil]); first | done | rfl | (simp only [List.length_drop, List.length_take]; rfl)) ?_; (with_reducible refine (label_Split.calls kj4 t198 t199 t200 _ ?side1 A16.out).mono ?_); (case side1 => exact Tabs.below HT.out (by repeat (first | (with_reducible first | exact HB.out | apply below_alloc | apply pw_below_drewN | apply below_drew1) | exact HB.out))); rintro e w33 ⟨v201, rfl, ho0, hb⟩; refine ⟨_, rfl, ?_⟩; have n0_ := Aside0.mk (Kd.R_elder' (by (with_reducible repeat (first | apply Kd.R_alloc | apply Kd.R_drewN | apply Kd.R_drew)); exact HO197.out) (Kd.R_base ho0) hb); have n1_ := Aside0.mk (Kd.R_lower (Kd.R_new' ho0 (Kd.R_lt (by (with_reducible repeat (first | apply Kd.R_alloc | apply Kd.R_drewN | apply Kd.R_drew)); exact HO197.out))) (below_size (by repeat (first | (with_reducible first | exact HB.out | apply below_alloc | apply pw_below_drewN | apply below_drew1) | exact HB.out)))); have n2_ := Aside0.mk (below_step (by repeat (first | (with_reducible first | exact HB.out | apply below_alloc | apply pw_below_drewN | apply below_drew1) | exact HB.out)) hb); clear HO197; clear HB; have HO197 := n0_; have HO202 := n1_; have HB := n2_; clear n0_ n1_ n2_; (try clear hb); (try clear hb2); (try clear hk); (try clear hi); (try clear ho0); obtain ⟨Ao34, co34, eo34⟩ := Kd.R_slice HO202.out; subst eo34; have p203 : 0 ≤ (0 : Int) := (by omega); have q203 : 0 < (t199.length : Int) := of_decide_eq_true (by first | (with_reducible assumption) | assumption); obtain ⟨ad203, e203, hx203_0⟩ := Kd.at_string (Kd.R_reads' HO202.out).2.2 0 p203 q203; cases e203; have qi203 : (0 < t199.length) = True := eq_true (by omega); (try rw [show ((0 : Int)).toNat = 0 from rfl] at hx203_0); (try rw [Addr.add_zero'] at hx203_0); replace p203 := eq_true p203; replace q203 := eq_true q203; have p204 : 0 ≤ (1 : Int) := (by omega); have q204 : 1 < (t199.length : Int) := of_decide_eq_true (by first | (with_reducible assumption) | assumption); obtain ⟨ad204, e204, hx204_0⟩ := Kd.at_string (Kd.R_reads' HO202.out).2.2 1 p204 q204; obtain rfl : ad203 = ad204 := (by injection e204); (try simp only [show (1 : Int).toNat = 1 from rfl, Nat.reduceMul, Nat.reduceEqDiff, Go.Addr.add, ↓reduceIte] at hx204_0); have qi204 : (1 < t199.length) = True := eq_true (by omega); (try rw [show ((1 : Int)).toNat = 1 from rfl] at hx204_0); replace p204 := eq_true p204; replace q204 := eq_true q204; have p205 : 0 ≤ (2 : Int) := (by omega); have q205 : 2 < (t199.length : Int) := of_decide_eq_true (by first | (with_reducible assumption) | assumption); obtain ⟨ad205, e205, hx205_0⟩ := Kd.at_string (Kd.R_reads' HO202.out).2.2 2 p205 q205; obtain rfl : ad203 = ad205 := (by injection e205); (try simp only [show (2 : Int).toNat = 2 from rfl, Nat.reduceMul, Nat.reduceEqDiff, Go.Addr.add, ↓reduceIte] at hx205_0); have qi205 : (2 < t199.length) = True := eq_true (by omega); (try rw [show ((2 : Int)).toNat = 2 from rfl] at hx205_0); replace p205 := eq_true p205; replace q205 := eq_true q205) | (go_at_call 10; (with_reducible refine (label_Compare.calls a0 a1 t206 _ A27.out).mono ?_); rintro e w' ⟨rfl, ⟨nd, rfl⟩⟩))
                              go_ret
                              exact ⟨by first | rfl | (simp [errW_none, errW_some] <;> rfl) | (simp [*, errW_none, errW_some] <;> rfl), by repeat (first | (with_reducible first | exact HB.out | apply below_alloc | apply pw_below_drewN | apply below_drew1) | exact HB.out)⟩
                            · rw [if_neg c26] at H
                              have c26b0 : ((rdOf ByteArray.empty t199 2).toList == a0.toList) = false := beq_eq_false_iff_ne.mpr c26
                              have c26b1 : ((rdOf ByteArray.empty t199 2).toList != a0.toList) = true := bne_iff_ne.mpr c26
                              obtain rfl := Option.some.inj H
                              exact absurd HRT.out (by decide)
                          · rw [if_neg c25] at H
                            exact absurd H (by simp)
                        · rw [if_neg c24] at H
                          have c24b0 : ((rdOf ByteArray.empty t199 1).toList == a1.toList) = false := beq_eq_false_iff_ne.mpr c24
                          have c24b1 : ((rdOf ByteArray.empty t199 1).toList != a1.toList) = true := bne_iff_ne.mpr c24
                          obtain rfl := Option.some.inj H
                          exact absurd HRT.out (by decide)
                      · rw [if_neg c23] at H
                        exact absurd H (by simp)
                    · rw [if_neg c22] at H
                      have c22b0 : ((rdOf ByteArray.empty t199 0).toList == a0.toList) = false := beq_eq_false_iff_ne.mpr c22
                      have c22b1 : ((rdOf ByteArray.empty t199 0).toList != a0.toList) = true := bne_iff_ne.mpr c22
                      obtain rfl := Option.some.inj H
                      exact absurd HRT.out (by decide)
                  · rw [if_neg c21] at H
                    exact absurd H (by simp)
                · rw [if_neg c20] at H
                  have c20b0 : ((t199.length : Int) == 3) = false := beq_eq_false_iff_ne.mpr c20
                  have c20b1 : ((t199.length : Int) != 3) = true := bne_iff_ne.mpr c20
                  obtain rfl := Option.some.inj H
                  exact absurd HRT.out (by decide)
              · rw [if_neg c19] at H
                have c19b0 : (t200 == 0) = false := beq_eq_false_iff_ne.mpr c19
                have c19b1 : (t200 != 0) = true := bne_iff_ne.mpr c19
                obtain rfl := Option.some.inj H
                exact absurd HRT.out (by decide)
            · rw [if_neg c18] at H
              have c18b0 : decide ((a0.size : Int) ≤ (wrap64 (2 * t194))) = false := decide_eq_false c18
              clear c18
              obtain rfl := Option.some.inj H
              exact absurd HRT.out (by decide)
          · rw [if_neg c17] at H
            have c17b0 : decide (t194 ≤ (a0.size : Int)) = false := decide_eq_false c17
            clear c17
            obtain rfl := Option.some.inj H
            exact absurd HRT.out (by decide)
  · replace c4 := Bool.eq_false_iff.mpr c4
    subst c4
    have H1 : (some false) = some r := by rw [if_neg (show ¬ (false = true) by decide)] at H; exact H
    clear H
    have H := H1
    clear H1
    obtain rfl := Option.some.inj H
    exact absurd HRT.out (by decide)

end Go.Proofs.YtdifpehainbkmaaDoor.PAll
