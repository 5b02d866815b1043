-- Made by a program of this session (wip/gen)
import Derived.Test.YtdifpehainbkmaaDoorPAllx0
import Derived.Test.YtdifpehainbkmaaDoorPAllx4
import Derived.Test.YtdifpehainbkmaaDoorPAllx7
import Derived.Test.YtdifpehainbkmaaDoorPAllx8
import Derived.Test.YtdifpehainbkmaaDoorPAllx9
import Derived.Test.YtdifpehainbkmaaDoorPAllx10
namespace Go.Proofs.YtdifpehainbkmaaDoor.PAll
open Go.RowKit Go.Proofs.YtdifpehainbkmaaDoorW.PrintWords Go.Proofs.YtdifpehainbkmaaDoorW.PrintLast Go.Proofs.YtdifpehainbkmaaDoorW.PrintMore
attribute [local go_sem] max2_int min2_int max_two min_two max_three min_three max_four min_four   -- for this text's walks alone
set_option linter.unusedVariables false
set_option linter.unusedSimpArgs false

/-! ### packhorselaw01_LabelSplits: function 7 -/
mutual
def packhorselaw01_LabelSplits.j0 : Nat → ByteArray → List ByteArray → Bool → Option (Bool)
  | 0, _, _, _ => none
  | k + 1, x0, x1, x25 => if x25 = true then (some true) else ((label_Split.f k x0).bind fun bt171 => ((packhorseref01_Split.f k x0).bind fun bt175 => ((packhorseref01_Same.f k bt171.1 bt175.1).bind fun t179 => (if t179 = true then (packhorselaw01_LabelSplits.j1 k x1 (bt171.2 != bt175.2)) else (packhorselaw01_LabelSplits.j1 k x1 true)))))
def packhorselaw01_LabelSplits.j1 : Nat → List ByteArray → Bool → Option (Bool)
  | 0, _, _ => none
  | k + 1, x1, x44 => if x44 = true then (some false) else (packhorselaw01_LabelSplits.l0 k x1 x1 (x1.length : Int) 0)
def packhorselaw01_LabelSplits.l0 : Nat → List ByteArray → List ByteArray → Int → Int → Option (Bool)
  | 0, _, _, _, _ => none
  | k + 1, x1, x45, x46, x47 => if x47 < x46 then (if 0 ≤ x47 then (if x47 < (x45.length : Int) then (if ((rdOf ByteArray.empty x45 x47).size : Int) > 60 then (some true) else (packhorselaw01_LabelSplits.l0 k x1 x45 x46 (wrap64 (x47 + 1)))) else (none)) else (none)) else ((label_Join.f x1).bind fun t181 => ((packhorseref01_Join.f k x1).bind fun t182 => (if t181.toList = t182.toList then (packhorselaw01_LabelSplits.l1 k x1 t181 x1 (x1.length : Int) 0) else (some false))))
def packhorselaw01_LabelSplits.l1 : Nat → List ByteArray → ByteArray → List ByteArray → Int → Int → Option (Bool)
  | 0, _, _, _, _, _ => none
  | k + 1, x1, x11, x61, x62, x63 => if x63 < x62 then (if 0 ≤ x63 then (if x63 < (x61.length : Int) then ((packhorseref01_Right.f k (rdOf ByteArray.empty x61 x63)).bind fun t184 => (if t184 = true then (packhorselaw01_LabelSplits.l1 k x1 x11 x61 x62 (wrap64 (x63 + 1))) else (some true))) else (none)) else (none)) else ((label_Split.f k x11).bind fun bt185 => (if bt185.2 = 0 then ((packhorseref01_Same.f k bt185.1 x1).bind fun t189 => (some t189)) else (some false)))
end
def packhorselaw01_LabelSplits.f (k : Nat) (a0 : ByteArray) (l1 : List ByteArray) : Option (Bool) := (packhorselaw01_labelAlive.f).bind fun t170 => (if t170 = true then (if (a0.size : Int) > 500 then (packhorselaw01_LabelSplits.j0 k a0 l1 true) else (packhorselaw01_LabelSplits.j0 k a0 l1 (decide ((l1.length : Int) > 20)))) else (some false))
theorem packhorselaw01_LabelSplits.mono_l : ∀ k, (∀ y0 y1 y2, LeO (packhorselaw01_LabelSplits.j0 k y0 y1 y2) (packhorselaw01_LabelSplits.j0 (k + 1) y0 y1 y2)) ∧ (∀ y0 y1, LeO (packhorselaw01_LabelSplits.j1 k y0 y1) (packhorselaw01_LabelSplits.j1 (k + 1) y0 y1)) ∧ (∀ y0 y1 y2 y3, LeO (packhorselaw01_LabelSplits.l0 k y0 y1 y2 y3) (packhorselaw01_LabelSplits.l0 (k + 1) y0 y1 y2 y3)) ∧ (∀ y0 y1 y2 y3 y4, LeO (packhorselaw01_LabelSplits.l1 k y0 y1 y2 y3 y4) (packhorselaw01_LabelSplits.l1 (k + 1) y0 y1 y2 y3 y4))
  | 0 => ⟨fun _ _ _ r h => by simp [packhorselaw01_LabelSplits.j0] at h, fun _ _ r h => by simp [packhorselaw01_LabelSplits.j1] at h, fun _ _ _ _ r h => by simp [packhorselaw01_LabelSplits.l0] at h, fun _ _ _ _ _ r h => by simp [packhorselaw01_LabelSplits.l1] at h⟩
  | k + 1 => by
    obtain ⟨ih0, ih1, ih2, ih3⟩ := packhorselaw01_LabelSplits.mono_l k
    refine ⟨?_, ?_, ?_, ?_⟩
    · intro y0 y1 y2
      unfold packhorselaw01_LabelSplits.j0
      repeat' first
      | (with_reducible exact ih0 _ _ _)
      | (with_reducible exact ih1 _ _)
      | (with_reducible exact ih2 _ _ _ _)
      | (with_reducible exact ih3 _ _ _ _ _)
      | (with_reducible exact label_Split.mono _ _)
      | (with_reducible exact packhorseref01_Join.mono _ _)
      | (with_reducible exact packhorseref01_Right.mono _ _)
      | (with_reducible exact packhorseref01_Same.mono _ _ _)
      | (with_reducible exact packhorseref01_Split.mono _ _)
      | (with_reducible exact LeO.refl _)
      | (with_reducible exact LeO.none _)
      | (with_reducible refine LeO.ite ?_ ?_)
      | (with_reducible refine LeO.bind ?_ (fun _ => ?_))
      | exact ih0 _ _ _
      | exact ih1 _ _
      | exact ih2 _ _ _ _
      | exact ih3 _ _ _ _ _
      | exact label_Split.mono _ _
      | exact packhorseref01_Join.mono _ _
      | exact packhorseref01_Right.mono _ _
      | exact packhorseref01_Same.mono _ _ _
      | exact packhorseref01_Split.mono _ _
      | exact LeO.none _
      | refine LeO.ite ?_ ?_
      | refine LeO.bind ?_ (fun _ => ?_)
    · intro y0 y1
      unfold packhorselaw01_LabelSplits.j1
      repeat' first
      | (with_reducible exact ih0 _ _ _)
      | (with_reducible exact ih1 _ _)
      | (with_reducible exact ih2 _ _ _ _)
      | (with_reducible exact ih3 _ _ _ _ _)
      | (with_reducible exact label_Split.mono _ _)
      | (with_reducible exact packhorseref01_Join.mono _ _)
      | (with_reducible exact packhorseref01_Right.mono _ _)
      | (with_reducible exact packhorseref01_Same.mono _ _ _)
      | (with_reducible exact packhorseref01_Split.mono _ _)
      | (with_reducible exact LeO.refl _)
      | (with_reducible exact LeO.none _)
      | (with_reducible refine LeO.ite ?_ ?_)
      | (with_reducible refine LeO.bind ?_ (fun _ => ?_))
      | exact ih0 _ _ _
      | exact ih1 _ _
      | exact ih2 _ _ _ _
      | exact ih3 _ _ _ _ _
      | exact label_Split.mono _ _
      | exact packhorseref01_Join.mono _ _
      | exact packhorseref01_Right.mono _ _
      | exact packhorseref01_Same.mono _ _ _
      | exact packhorseref01_Split.mono _ _
      | exact LeO.none _
      | refine LeO.ite ?_ ?_
      | refine LeO.bind ?_ (fun _ => ?_)
    · intro y0 y1 y2 y3
      unfold packhorselaw01_LabelSplits.l0
      repeat' first
      | (with_reducible exact ih0 _ _ _)
      | (with_reducible exact ih1 _ _)
      | (with_reducible exact ih2 _ _ _ _)
      | (with_reducible exact ih3 _ _ _ _ _)
      | (with_reducible exact label_Split.mono _ _)
      | (with_reducible exact packhorseref01_Join.mono _ _)
      | (with_reducible exact packhorseref01_Right.mono _ _)
      | (with_reducible exact packhorseref01_Same.mono _ _ _)
      | (with_reducible exact packhorseref01_Split.mono _ _)
      | (with_reducible exact LeO.refl _)
      | (with_reducible exact LeO.none _)
      | (with_reducible refine LeO.ite ?_ ?_)
      | (with_reducible refine LeO.bind ?_ (fun _ => ?_))
      | exact ih0 _ _ _
      | exact ih1 _ _
      | exact ih2 _ _ _ _
      | exact ih3 _ _ _ _ _
      | exact label_Split.mono _ _
      | exact packhorseref01_Join.mono _ _
      | exact packhorseref01_Right.mono _ _
      | exact packhorseref01_Same.mono _ _ _
      | exact packhorseref01_Split.mono _ _
      | exact LeO.none _
      | refine LeO.ite ?_ ?_
      | refine LeO.bind ?_ (fun _ => ?_)
    · intro y0 y1 y2 y3 y4
      unfold packhorselaw01_LabelSplits.l1
      repeat' first
      | (with_reducible exact ih0 _ _ _)
      | (with_reducible exact ih1 _ _)
      | (with_reducible exact ih2 _ _ _ _)
      | (with_reducible exact ih3 _ _ _ _ _)
      | (with_reducible exact label_Split.mono _ _)
      | (with_reducible exact packhorseref01_Join.mono _ _)
      | (with_reducible exact packhorseref01_Right.mono _ _)
      | (with_reducible exact packhorseref01_Same.mono _ _ _)
      | (with_reducible exact packhorseref01_Split.mono _ _)
      | (with_reducible exact LeO.refl _)
      | (with_reducible exact LeO.none _)
      | (with_reducible refine LeO.ite ?_ ?_)
      | (with_reducible refine LeO.bind ?_ (fun _ => ?_))
      | exact ih0 _ _ _
      | exact ih1 _ _
      | exact ih2 _ _ _ _
      | exact ih3 _ _ _ _ _
      | exact label_Split.mono _ _
      | exact packhorseref01_Join.mono _ _
      | exact packhorseref01_Right.mono _ _
      | exact packhorseref01_Same.mono _ _ _
      | exact packhorseref01_Split.mono _ _
      | exact LeO.none _
      | refine LeO.ite ?_ ?_
      | refine LeO.bind ?_ (fun _ => ?_)
theorem packhorselaw01_LabelSplits.mono : ∀ a0 a1 k, LeO (packhorselaw01_LabelSplits.f k a0 a1) (packhorselaw01_LabelSplits.f (k + 1) a0 a1) := by
  intro a0 a1 k
  obtain ⟨ih0, ih1, ih2, ih3⟩ := packhorselaw01_LabelSplits.mono_l k
  unfold packhorselaw01_LabelSplits.f
  repeat' first
      | (with_reducible exact ih0 _ _ _)
      | (with_reducible exact ih1 _ _)
      | (with_reducible exact ih2 _ _ _ _)
      | (with_reducible exact ih3 _ _ _ _ _)
      | (with_reducible exact label_Split.mono _ _)
      | (with_reducible exact packhorseref01_Join.mono _ _)
      | (with_reducible exact packhorseref01_Right.mono _ _)
      | (with_reducible exact packhorseref01_Same.mono _ _ _)
      | (with_reducible exact packhorseref01_Split.mono _ _)
      | (with_reducible exact LeO.refl _)
      | (with_reducible exact LeO.none _)
      | (with_reducible refine LeO.ite ?_ ?_)
      | (with_reducible refine LeO.bind ?_ (fun _ => ?_))
      | exact ih0 _ _ _
      | exact ih1 _ _
      | exact ih2 _ _ _ _
      | exact ih3 _ _ _ _ _
      | exact label_Split.mono _ _
      | exact packhorseref01_Join.mono _ _
      | exact packhorseref01_Right.mono _ _
      | exact packhorseref01_Same.mono _ _ _
      | exact packhorseref01_Split.mono _ _
      | exact LeO.none _
      | refine LeO.ite ?_ ?_
      | refine LeO.bind ?_ (fun _ => ?_)
set_option maxHeartbeats 8000000 in
set_option maxRecDepth 100000 in
theorem packhorselaw01_LabelSplits.calls (k : Nat) (a0 : ByteArray) (A1 : Option Addr) (c1 : Nat) (l1 : List ByteArray) (r : Bool) (w : World) (hr1 : Kd.C Kd.string w A1 l1.length l1) (hc1 : l1.length ≤ c1) (hT : Tabs w) (h : packhorselaw01_LabelSplits.f k a0 l1 = some r) (hr_ : r = true) :
    Calls Tryd.prog 7 #[.string a0, .slice A1 l1.length c1] w fun e w' => e = .returned (.bool r) ∧ Below w.heap.size w w' := by
  have HR1 := Aside0.mk hr1
  have HC1 := Aside0.mk hc1
  clear hr1 hc1
  have HRT := Aside0.mk hr_
  clear hr_
  have HT := Aside0.mk hT
  clear hT
  have HB := Aside0.mk (Below.refl w.heap.size w)
  have H : ((packhorselaw01_labelAlive.f).bind fun t170 => (if t170 = true then (if (a0.size : Int) > 500 then (packhorselaw01_LabelSplits.j0 k a0 l1 true) else (packhorselaw01_LabelSplits.j0 k a0 l1 (decide ((l1.length : Int) > 20)))) else (some false))) = some r := h
  clear h
  replace H := Option.bind_eq_some_iff.mp H
  obtain ⟨t170, A30, H⟩ := H
  replace H : (if t170 = true then (if (a0.size : Int) > 500 then (packhorselaw01_LabelSplits.j0 k a0 l1 true) else (packhorselaw01_LabelSplits.j0 k a0 l1 (decide ((l1.length : Int) > 20)))) else (some false)) = some r := H
  have A3 := Aside0.mk A30
  clear A30
  by_cases c4 : t170 = true
  · subst c4
    have H1 : (if (a0.size : Int) > 500 then (packhorselaw01_LabelSplits.j0 k a0 l1 true) else (packhorselaw01_LabelSplits.j0 k a0 l1 (decide ((l1.length : Int) > 20)))) = some r := by rw [if_pos rfl] at H; exact H
    clear H
    have H := H1
    clear H1
    have HC5 := Aside0.mk H
    clear H
    go_enter Tryd.func7, Tryd.ntmps7
    go_upto_region 3 with (first | ((with_reducible refine gate_callee (f := 9) rfl ?_); refine goesL_ (some 16) rfl rfl Tryd.func9 (by kernel_rfl) rfl #[] rfl (by (try simp only [List.map_toArray, List.map_cons, List.map_nil]); first | done | rfl | (simp only [List.length_drop, List.length_take]; rfl)) ?_; (with_reducible refine (packhorselaw01_labelAlive.calls  true _ ?side1 A3.out rfl).mono ?_); (case side1 => exact Tabs.below HT.out (by repeat (first | (with_reducible first | exact HB.out | apply below_alloc | apply pw_below_drewN | apply below_drew1) | exact HB.out))); rintro e w6 ⟨rfl, hb⟩; refine ⟨_, rfl, ?_⟩; have n0_ := Aside0.mk (below_step (by repeat (first | (with_reducible first | exact HB.out | apply below_alloc | apply pw_below_drewN | apply below_drew1) | exact HB.out)) hb); clear HB; have HB := n0_; clear n0_; (try clear hb); (try clear hb2); (try clear hk); (try clear hi)))
    (try simp only [Act.put, List.setIfInBounds_toArray, List.set_cons_zero, List.set_cons_succ])
    go_cut [25] (fun v25 wc => ∃ (kq : Nat) (x25_4 : Bool), v25 = .bool x25_4 ∧ Aside0 (packhorselaw01_LabelSplits.j0 kq a0 l1 x25_4 = some r) ∧ Aside0 (kq ≤ k) ∧ Aside0 (Below w.heap.size w wc))
    case first =>
      have H := HC5.out
      clear HC5
      by_cases c7 : (a0.size : Int) > 500
      · rw [if_pos c7] at H
        have c7b0 : decide (500 < (a0.size : Int)) = true := decide_eq_true c7
        have c7b1 : decide (500 < a0.size) = true := decide_eq_true (by omega)
        clear c7
        (first | rw [c7b0] | (simp only [i64_w, i32_w]; rw [c7b0]) | skip)
        have H' := Aside0.mk H
        clear H
        go_wp2
        go_meet
        case rel => exact ⟨_, (true), (by first | rfl | (simp; done) | (simp [*]; done)), H', ⟨by first | omega | exact Nat.le_refl _⟩, ⟨by repeat (first | (with_reducible first | exact HB.out | apply below_alloc | apply pw_below_drewN | apply below_drew1) | exact HB.out)⟩⟩
      · rw [if_neg c7] at H
        have c7b0 : decide (500 < (a0.size : Int)) = false := decide_eq_false c7
        have c7b1 : decide (500 < a0.size) = false := decide_eq_false (by omega)
        clear c7
        (first | rw [c7b0] | (simp only [i64_w, i32_w]; rw [c7b0]) | skip)
        have H' := Aside0.mk H
        clear H
        go_wp2
        go_meet
        case rel => exact ⟨_, (decide ((l1.length : Int) > 20)), (by first | rfl | (simp; done) | (simp [*]; done)), H', ⟨by first | omega | exact Nat.le_refl _⟩, ⟨by repeat (first | (with_reducible first | exact HB.out | apply below_alloc | apply pw_below_drewN | apply below_drew1) | exact HB.out)⟩⟩
    case rest =>
      clear HC5
      try clear c1
      try clear p2
      try clear c4
      try clear c7
      try clear c7b0
      try clear c7b1
      obtain ⟨kq, x25_4, rfl, HA, HJ4, HB⟩ := hcut
      cases kq with
      | zero => exact absurd HA.out (by simp [packhorselaw01_LabelSplits.j0])
      | succ kj4 =>
        have H := HA.out
        clear HA
        simp only [packhorselaw01_LabelSplits.j0] at H
        by_cases c8 : x25_4 = true
        · subst c8
          have H1 : (some true) = some r := by rw [if_pos rfl] at H; exact H
          clear H
          have H := H1
          clear H1
          obtain rfl := Option.some.inj H
          simp only [Option.some.injEq, Prod.mk.injEq] at H
          obtain ⟨rfl⟩ := H
          go_wp2
          go_ret
          exact ⟨by first | rfl | (simp [errW_none, errW_some] <;> rfl) | (simp [*, errW_none, errW_some] <;> rfl), by repeat (first | (with_reducible first | exact HB.out | apply below_alloc | apply pw_below_drewN | apply below_drew1) | exact HB.out)⟩
        · replace c8 := Bool.eq_false_iff.mpr c8
          subst c8
          have H1 : ((label_Split.f kj4 a0).bind fun bt171 => ((packhorseref01_Split.f kj4 a0).bind fun bt175 => ((packhorseref01_Same.f kj4 bt171.1 bt175.1).bind fun t179 => (if t179 = true then (packhorselaw01_LabelSplits.j1 kj4 l1 (bt171.2 != bt175.2)) else (packhorselaw01_LabelSplits.j1 kj4 l1 true))))) = some r := by rw [if_neg (show ¬ (false = true) by decide)] at H; exact H
          clear H
          have H := H1
          clear H1
          replace H := Option.bind_eq_some_iff.mp H
          obtain ⟨⟨t171, t172⟩, A90, H⟩ := H
          replace H : ((packhorseref01_Split.f kj4 a0).bind fun bt175 => ((packhorseref01_Same.f kj4 t171 bt175.1).bind fun t179 => (if t179 = true then (packhorselaw01_LabelSplits.j1 kj4 l1 (t172 != bt175.2)) else (packhorselaw01_LabelSplits.j1 kj4 l1 true)))) = some r := H
          have A9 := Aside0.mk A90
          clear A90
          replace H := Option.bind_eq_some_iff.mp H
          obtain ⟨⟨t175, t176⟩, A100, H⟩ := H
          replace H : ((packhorseref01_Same.f kj4 t171 t175).bind fun t179 => (if t179 = true then (packhorselaw01_LabelSplits.j1 kj4 l1 (t172 != t176)) else (packhorselaw01_LabelSplits.j1 kj4 l1 true))) = some r := H
          have A10 := Aside0.mk A100
          clear A100
          have HC11 := Aside0.mk H
          clear H
          go_upto_region 7 with (first | ((with_reducible refine gate_callee (f := 20) rfl ?_); refine goesL_ (some 28) rfl rfl Tryd.func20 (by kernel_rfl) rfl #[.string a0] rfl (by (try simp only [List.map_toArray, List.map_cons, List.map_nil]); first | done | rfl | (simp only [List.length_drop, List.length_take]; rfl)) ?_; (with_reducible refine (label_Split.calls kj4 a0 t171 t172 _ ?side1 A9.out).mono ?_); (case side1 => exact Tabs.below HT.out (by repeat (first | (with_reducible first | exact HB.out | apply below_alloc | apply pw_below_drewN | apply below_drew1) | exact HB.out))); rintro e w12 ⟨v173, rfl, ho0, hb⟩; refine ⟨_, rfl, ?_⟩; have n0_ := Aside0.mk (Kd.R_lower ho0 (below_size (by repeat (first | (with_reducible first | exact HB.out | apply below_alloc | apply pw_below_drewN | apply below_drew1) | exact HB.out)))); have n1_ := Aside0.mk (below_step (by repeat (first | (with_reducible first | exact HB.out | apply below_alloc | apply pw_below_drewN | apply below_drew1) | exact HB.out)) hb); clear HB; have HO174 := n0_; have HB := n1_; clear n0_ n1_; (try clear hb); (try clear hb2); (try clear hk); (try clear hi); (try clear ho0)) | ((with_reducible refine gate_callee (f := 21) rfl ?_); refine goesL_ (some 33) rfl rfl Tryd.func21 (by kernel_rfl) rfl #[.string a0] rfl (by (try simp only [List.map_toArray, List.map_cons, List.map_nil]); first | done | rfl | (simp only [List.length_drop, List.length_take]; rfl)) ?_; (with_reducible refine (packhorseref01_Split.calls kj4 a0 t175 t176 _ A10.out).mono ?_); rintro e w13 ⟨v177, rfl, ho0, hb⟩; refine ⟨_, rfl, ?_⟩; have n0_ := Aside0.mk (Kd.R_elder' (by (with_reducible repeat (first | apply Kd.R_alloc | apply Kd.R_drewN | apply Kd.R_drew)); exact HO174.out) (Kd.R_base ho0) hb); have n1_ := Aside0.mk (Kd.R_lower (Kd.R_new' ho0 (Kd.R_lt (by (with_reducible repeat (first | apply Kd.R_alloc | apply Kd.R_drewN | apply Kd.R_drew)); exact HO174.out))) (below_size (by repeat (first | (with_reducible first | exact HB.out | apply below_alloc | apply pw_below_drewN | apply below_drew1) | exact HB.out)))); have n2_ := Aside0.mk (below_step (by repeat (first | (with_reducible first | exact HB.out | apply below_alloc | apply pw_below_drewN | apply below_drew1) | exact HB.out)) hb); clear HO174; clear HB; have HO174 := n0_; have HO178 := n1_; have HB := n2_; clear n0_ n1_ n2_; (try clear hb); (try clear hb2); (try clear hk); (try clear hi); (try clear ho0)))
          (try simp only [Act.put, List.setIfInBounds_toArray, List.set_cons_zero, List.set_cons_succ])
          go_cut [44] (fun v44 wc => ∃ (kq : Nat) (x44_10 : Bool), v44 = .bool x44_10 ∧ Aside0 (packhorselaw01_LabelSplits.j1 kq l1 x44_10 = some r) ∧ Aside0 (kq ≤ kj4) ∧ Aside0 (Below w.heap.size w wc))
          case first =>
            have H := HC11.out
            clear HC11
            replace H := Option.bind_eq_some_iff.mp H
            obtain ⟨t179, A140, H⟩ := H
            replace H : (if t179 = true then (packhorselaw01_LabelSplits.j1 kj4 l1 (t172 != t176)) else (packhorselaw01_LabelSplits.j1 kj4 l1 true)) = some r := H
            have A14 := Aside0.mk A140
            clear A140
            by_cases c15 : t179 = true
            · subst c15
              have H1 : (packhorselaw01_LabelSplits.j1 kj4 l1 (t172 != t176)) = some r := by rw [if_pos rfl] at H; exact H
              clear H
              have H := H1
              clear H1
              have H' := Aside0.mk H
              clear H
              obtain ⟨Ao16, co16, eo16⟩ := Kd.R_slice HO174.out
              subst eo16
              obtain ⟨Ao17, co17, eo17⟩ := Kd.R_slice HO178.out
              subst eo17
              go_wp2_with (first | ((with_reducible refine gate_callee (f := 22) rfl ?_); refine goesL_ (some 38) rfl rfl Tryd.func22 (by kernel_rfl) rfl #[.slice Ao16 t171.length co16, .slice Ao17 t175.length co17] rfl (by (try simp only [List.map_toArray, List.map_cons, List.map_nil]); first | done | rfl | (simp only [List.length_drop, List.length_take]; rfl)) ?_; (with_reducible refine (packhorseref01_Same.calls kj4 _ _ t171 _ _ t175 true _ ?side1 ?side2 ?side3 ?side4 A14.out).mono ?_); (case side1 => repeat (first | exact (Kd.R_reads' HO174.out).2.2 | (with_reducible refine Kd.C_alloc ?_ _) | (with_reducible refine Kd.C_drewN ?_ _) | (with_reducible refine Kd.C_drew ?_))); (case side2 => exact (Kd.R_reads' HO174.out).2.1); (case side3 => repeat (first | exact (Kd.R_reads' HO178.out).2.2 | (with_reducible refine Kd.C_alloc ?_ _) | (with_reducible refine Kd.C_drewN ?_ _) | (with_reducible refine Kd.C_drew ?_))); (case side4 => exact (Kd.R_reads' HO178.out).2.1); rintro e w' ⟨rfl, ⟨nd, rfl⟩⟩; refine ⟨_, rfl, ?_⟩))
              go_meet
              case rel => exact ⟨_, ((t172 != t176)), (by first | rfl | (simp; done) | (simp [*]; done)), H', ⟨by have := HJ4.out; first | omega | exact Nat.le_refl _⟩, ⟨by repeat (first | (with_reducible first | exact HB.out | apply below_alloc | apply pw_below_drewN | apply below_drew1) | exact HB.out)⟩⟩
            · replace c15 := Bool.eq_false_iff.mpr c15
              subst c15
              have H1 : (packhorselaw01_LabelSplits.j1 kj4 l1 true) = some r := by rw [if_neg (show ¬ (false = true) by decide)] at H; exact H
              clear H
              have H := H1
              clear H1
              have H' := Aside0.mk H
              clear H
              obtain ⟨Ao18, co18, eo18⟩ := Kd.R_slice HO174.out
              subst eo18
              obtain ⟨Ao19, co19, eo19⟩ := Kd.R_slice HO178.out
              subst eo19
              go_wp2_with (first | ((with_reducible refine gate_callee (f := 22) rfl ?_); refine goesL_ (some 38) rfl rfl Tryd.func22 (by kernel_rfl) rfl #[.slice Ao18 t171.length co18, .slice Ao19 t175.length co19] rfl (by (try simp only [List.map_toArray, List.map_cons, List.map_nil]); first | done | rfl | (simp only [List.length_drop, List.length_take]; rfl)) ?_; (with_reducible refine (packhorseref01_Same.calls kj4 _ _ t171 _ _ t175 false _ ?side1 ?side2 ?side3 ?side4 A14.out).mono ?_); (case side1 => repeat (first | exact (Kd.R_reads' HO174.out).2.2 | (with_reducible refine Kd.C_alloc ?_ _) | (with_reducible refine Kd.C_drewN ?_ _) | (with_reducible refine Kd.C_drew ?_))); (case side2 => exact (Kd.R_reads' HO174.out).2.1); (case side3 => repeat (first | exact (Kd.R_reads' HO178.out).2.2 | (with_reducible refine Kd.C_alloc ?_ _) | (with_reducible refine Kd.C_drewN ?_ _) | (with_reducible refine Kd.C_drew ?_))); (case side4 => exact (Kd.R_reads' HO178.out).2.1); rintro e w' ⟨rfl, ⟨nd, rfl⟩⟩; refine ⟨_, rfl, ?_⟩))
              go_meet
              case rel => exact ⟨_, (true), (by first | rfl | (simp; done) | (simp [*]; done)), H', ⟨by have := HJ4.out; first | omega | exact Nat.le_refl _⟩, ⟨by repeat (first | (with_reducible first | exact HB.out | apply below_alloc | apply pw_below_drewN | apply below_drew1) | exact HB.out)⟩⟩
          case rest =>
            clear HC11
            try clear c1
            try clear c2
            try clear p2
            try clear c4
            try clear c7
            try clear c7b0
            try clear c7b1
            try clear c8
            try clear c9
            try clear c15
            try clear p2
            obtain ⟨kq, x44_10, rfl, HA, HJ10, HB⟩ := hcut
            cases kq with
            | zero => exact absurd HA.out (by simp [packhorselaw01_LabelSplits.j1])
            | succ kj10 =>
              have H := HA.out
              clear HA
              simp only [packhorselaw01_LabelSplits.j1] at H
              by_cases c20 : x44_10 = true
              · subst c20
                have H1 : (some false) = some r := by rw [if_pos rfl] at H; exact H
                clear H
                have H := H1
                clear H1
                obtain rfl := Option.some.inj H
                exact absurd HRT.out (by decide)
              · replace c20 := Bool.eq_false_iff.mpr c20
                subst c20
                have H1 : (packhorselaw01_LabelSplits.l0 kj10 l1 l1 (l1.length : Int) 0) = some r := by rw [if_neg (show ¬ (false = true) by decide)] at H; exact H
                clear H
                have H := H1
                clear H1
                have H' := Aside0.mk H
                clear H
                go_wp2
                go_loopg [47] kj10 (fun kq v47 w' => ∃ (x47_3 : Int), v47 = .int .i64 x47_3 ∧ Aside0 (packhorselaw01_LabelSplits.l0 kq l1 l1 (l1.length : Int) x47_3 = some r) ∧ Aside0 (kq ≤ kj10) ∧ Aside0 (Below w.heap.size w w'))
                case atStart => exact ⟨(0), (by first | rfl | (simp; done) | (simp [*]; done)), H', ⟨Nat.le_refl _⟩, ⟨by repeat (first | (with_reducible first | exact HB.out | apply below_alloc | apply pw_below_drewN | apply below_drew1) | exact HB.out)⟩⟩
                case round =>
                  clear H'
                  try clear c1
                  try clear c2
                  try clear p2
                  try clear c4
                  try clear c7
                  try clear c7b0
                  try clear c7b1
                  try clear c8
                  try clear c9
                  try clear c15
                  try clear c20
                  try clear p2
                  obtain ⟨x47_3, rfl, HA, HK3, HB⟩ := hrel
                  cases gk with
                  | zero => exact absurd HA.out (by simp [packhorselaw01_LabelSplits.l0])
                  | succ k3 =>
                    have H := HA.out
                    clear HA
                    simp only [packhorselaw01_LabelSplits.l0] at H
                    by_cases c21 : x47_3 < (l1.length : Int)
                    · rw [if_pos c21] at H
                      have c21b0 : decide (x47_3 < (l1.length : Int)) = true := decide_eq_true c21
                      clear c21
                      by_cases c22 : 0 ≤ x47_3
                      · rw [if_pos c22] at H
                        have c22b0 : decide (0 ≤ x47_3) = true := decide_eq_true c22
                        clear c22
                        by_cases c23 : x47_3 < (l1.length : Int)
                        · rw [if_pos c23] at H
                          have c23b0 : decide (x47_3 < (l1.length : Int)) = true := decide_eq_true c23
                          clear c23
                          by_cases c24 : ((rdOf ByteArray.empty l1 x47_3).size : Int) > 60
                          · rw [if_pos c24] at H
                            have c24b0 : decide (60 < ((rdOf ByteArray.empty l1 x47_3).size : Int)) = true := decide_eq_true c24
                            have c24b1 : decide (60 < (rdOf ByteArray.empty l1 x47_3).size) = true := decide_eq_true (by omega)
                            clear c24
                            obtain rfl := Option.some.inj H
                            simp only [Option.some.injEq, Prod.mk.injEq] at H
                            obtain ⟨rfl⟩ := H
                            have p180 : 0 ≤ (x47_3 : Int) := of_decide_eq_true (by first | (with_reducible assumption) | assumption)
                            have q180 : x47_3 < (l1.length : Int) := of_decide_eq_true (by first | (with_reducible assumption) | assumption)
                            obtain ⟨ad180, e180, hx180_0⟩ := Kd.at_string HR1.out x47_3 p180 q180
                            cases e180
                            replace hx180_0 := (HB.out.cell (World.block_lt_of_cell? w _ hx180_0)).trans hx180_0
                            replace p180 := eq_true p180
                            replace q180 := eq_true q180
                            go_wp2
                            go_ret
                            exact ⟨by first | rfl | (simp [errW_none, errW_some] <;> rfl) | (simp [*, errW_none, errW_some] <;> rfl), by repeat (first | (with_reducible first | exact HB.out | apply below_alloc | apply pw_below_drewN | apply below_drew1) | exact HB.out)⟩
                          · rw [if_neg c24] at H
                            have c24b0 : decide (60 < ((rdOf ByteArray.empty l1 x47_3).size : Int)) = false := decide_eq_false c24
                            have c24b1 : decide (60 < (rdOf ByteArray.empty l1 x47_3).size) = false := decide_eq_false (by omega)
                            clear c24
                            have H' := Aside0.mk H
                            clear H
                            have p180 : 0 ≤ (x47_3 : Int) := of_decide_eq_true (by first | (with_reducible assumption) | assumption)
                            have q180 : x47_3 < (l1.length : Int) := of_decide_eq_true (by first | (with_reducible assumption) | assumption)
                            obtain ⟨ad180, e180, hx180_0⟩ := Kd.at_string HR1.out x47_3 p180 q180
                            cases e180
                            replace hx180_0 := (HB.out.cell (World.block_lt_of_cell? w _ hx180_0)).trans hx180_0
                            replace p180 := eq_true p180
                            replace q180 := eq_true q180
                            go_wp2
                            go_roundg k3
                            case measure => have := HJ4.out; have := HJ10.out; have := HK3.out; omega
                            case rel => exact ⟨(wrap64 (x47_3 + 1)), (by first | rfl | (simp; done) | (simp [*]; done)), H', ⟨by have := HJ4.out; have := HJ10.out; have := HK3.out; omega⟩, ⟨by repeat (first | (with_reducible first | exact HB.out | apply below_alloc | apply pw_below_drewN | apply below_drew1) | exact HB.out)⟩⟩
                        · rw [if_neg c23] at H
                          exact absurd H (by simp)
                      · rw [if_neg c22] at H
                        exact absurd H (by simp)
                    · rw [if_neg c21] at H
                      have c21b0 : decide (x47_3 < (l1.length : Int)) = false := decide_eq_false c21
                      clear c21
                      replace H := Option.bind_eq_some_iff.mp H
                      obtain ⟨t181, A250, H⟩ := H
                      replace H : ((packhorseref01_Join.f k3 l1).bind fun t182 => (if t181.toList = t182.toList then (packhorselaw01_LabelSplits.l1 k3 l1 t181 l1 (l1.length : Int) 0) else (some false))) = some r := H
                      have A25 := Aside0.mk A250
                      clear A250
                      replace H := Option.bind_eq_some_iff.mp H
                      obtain ⟨t182, A260, H⟩ := H
                      replace H : (if t181.toList = t182.toList then (packhorselaw01_LabelSplits.l1 k3 l1 t181 l1 (l1.length : Int) 0) else (some false)) = some r := H
                      have A26 := Aside0.mk A260
                      clear A260
                      by_cases c27 : t181.toList = t182.toList
                      · rw [if_pos c27] at H
                        have c27b0 : (t181.toList == t182.toList) = true := beq_iff_eq.mpr c27
                        have c27b1 : (t181.toList != t182.toList) = false := bne_eq_false_iff_eq.mpr c27
                        clear c27
                        have H' := Aside0.mk H
                        clear H
                        go_wp2_with (first | ((with_reducible refine gate_callee (f := 23) rfl ?_); refine goesL_ (some 56) rfl rfl Tryd.func23 (by kernel_rfl) rfl #[.slice A1 l1.length c1] rfl (by (try simp only [List.map_toArray, List.map_cons, List.map_nil]); first | done | rfl | (simp only [List.length_drop, List.length_take]; rfl)) ?_; (with_reducible refine (label_Join.calls _ _ l1 t181 _ ?side1 ?side2 A25.out).mono ?_); (case side1 => repeat (first | exact (Kd.C_below HR1.out HB.out) | (with_reducible refine Kd.C_alloc ?_ _) | (with_reducible refine Kd.C_drewN ?_ _) | (with_reducible refine Kd.C_drew ?_))); (case side2 => exact HC1.out); rintro e w28 ⟨rfl, hb⟩; refine ⟨_, rfl, ?_⟩; have n0_ := Aside0.mk (below_step (by repeat (first | (with_reducible first | exact HB.out | apply below_alloc | apply pw_below_drewN | apply below_drew1) | exact HB.out)) hb); clear HB; have HB := n0_; clear n0_; (try clear hb); (try clear hb2); (try clear hk); (try clear hi)) | ((with_reducible refine gate_callee (f := 24) rfl ?_); refine goesL_ (some 59) rfl rfl Tryd.func24 (by kernel_rfl) rfl #[.slice A1 l1.length c1] rfl (by (try simp only [List.map_toArray, List.map_cons, List.map_nil]); first | done | rfl | (simp only [List.length_drop, List.length_take]; rfl)) ?_; (with_reducible refine (packhorseref01_Join.calls k3 _ _ l1 t182 _ ?side1 ?side2 A26.out).mono ?_); (case side1 => repeat (first | exact (Kd.C_below HR1.out HB.out) | (with_reducible refine Kd.C_alloc ?_ _) | (with_reducible refine Kd.C_drewN ?_ _) | (with_reducible refine Kd.C_drew ?_))); (case side2 => exact HC1.out); rintro e w' ⟨rfl, ⟨nd, rfl⟩⟩; refine ⟨_, rfl, ?_⟩))
                        go_loopg [63] k3 (fun kq v63 w' => ∃ (x63_4 : Int), v63 = .int .i64 x63_4 ∧ Aside0 (packhorselaw01_LabelSplits.l1 kq l1 t181 l1 (l1.length : Int) x63_4 = some r) ∧ Aside0 (kq ≤ k3) ∧ Aside0 (Below w.heap.size w w'))
                        case atStart => exact ⟨(0), (by first | rfl | (simp; done) | (simp [*]; done)), H', ⟨Nat.le_refl _⟩, ⟨by repeat (first | (with_reducible first | exact HB.out | apply below_alloc | apply pw_below_drewN | apply below_drew1) | exact HB.out)⟩⟩
                        case round =>
                          clear H'
                          try clear c1
                          try clear p1
                          try clear q1
                          try clear hx1
                          try clear c2
                          try clear p2
                          try clear c4
                          try clear p6
                          try clear c7
                          try clear c7b0
                          try clear c7b1
                          try clear c8
                          try clear c9
                          try clear c15
                          try clear p18
                          try clear q18
                          try clear hx18
                          try clear c20
                          try clear c21
                          try clear c21b0
                          try clear c22
                          try clear c22b0
                          try clear c23
                          try clear c23b0
                          try clear c24
                          try clear c24b0
                          try clear c24b1
                          try clear c27
                          try clear c27b0
                          try clear c27b1
                          try clear hx180_0
                          try clear p180
                          try clear p2
                          try clear q180
                          obtain ⟨x63_4, rfl, HA, HK4, HB⟩ := hrel
                          cases gk with
                          | zero => exact absurd HA.out (by simp [packhorselaw01_LabelSplits.l1])
                          | succ k4 =>
                            have H := HA.out
                            clear HA
                            simp only [packhorselaw01_LabelSplits.l1] at H
                            by_cases c29 : x63_4 < (l1.length : Int)
                            · rw [if_pos c29] at H
                              have c29b0 : decide (x63_4 < (l1.length : Int)) = true := decide_eq_true c29
                              clear c29
                              by_cases c30 : 0 ≤ x63_4
                              · rw [if_pos c30] at H
                                have c30b0 : decide (0 ≤ x63_4) = true := decide_eq_true c30
                                clear c30
                                by_cases c31 : x63_4 < (l1.length : Int)
                                · rw [if_pos c31] at H
                                  have c31b0 : decide (x63_4 < (l1.length : Int)) = true := decide_eq_true c31
                                  clear c31
                                  replace H := Option.bind_eq_some_iff.mp H
                                  obtain ⟨t184, A320, H⟩ := H
                                  replace H : (if t184 = true then (packhorselaw01_LabelSplits.l1 k4 l1 t181 l1 (l1.length : Int) (wrap64 (x63_4 + 1))) else (some true)) = some r := H
                                  have A32 := Aside0.mk A320
                                  clear A320
                                  by_cases c33 : t184 = true
                                  · subst c33
                                    have H1 : (packhorselaw01_LabelSplits.l1 k4 l1 t181 l1 (l1.length : Int) (wrap64 (x63_4 + 1))) = some r := by rw [if_pos rfl] at H; exact H
                                    clear H
                                    have H := H1
                                    clear H1
                                    have H' := Aside0.mk H
                                    clear H
                                    have p183 : 0 ≤ (x63_4 : Int) := of_decide_eq_true (by first | (with_reducible assumption) | assumption)
                                    have q183 : x63_4 < (l1.length : Int) := of_decide_eq_true (by first | (with_reducible assumption) | assumption)
                                    obtain ⟨ad183, e183, hx183_0⟩ := Kd.at_string HR1.out x63_4 p183 q183
                                    cases e183
                                    replace hx183_0 := (HB.out.cell (World.block_lt_of_cell? w _ hx183_0)).trans hx183_0
                                    replace p183 := eq_true p183
                                    replace q183 := eq_true q183
                                    go_wp2_with (first | ((with_reducible refine gate_callee (f := 16) rfl ?_); refine goesL_ (some 68) rfl rfl Tryd.func16 (by kernel_rfl) rfl #[.string (rdOf ByteArray.empty l1 x63_4)] rfl (by (try simp only [List.map_toArray, List.map_cons, List.map_nil]); first | done | rfl | (simp only [List.length_drop, List.length_take]; rfl)) ?_; (with_reducible refine (packhorseref01_Right.calls k4 (rdOf ByteArray.empty l1 x63_4) true _ A32.out).mono ?_); rintro e w34 ⟨rfl, hb⟩; refine ⟨_, rfl, ?_⟩; have n0_ := Aside0.mk (below_step (by repeat (first | (with_reducible first | exact HB.out | apply below_alloc | apply pw_below_drewN | apply below_drew1) | exact HB.out)) hb); clear HB; have HB := n0_; clear n0_; (try clear hb); (try clear hb2); (try clear hk); (try clear hi)))
                                    go_roundg k4
                                    case measure => have := HJ4.out; have := HJ10.out; have := HK3.out; have := HK4.out; omega
                                    case rel => exact ⟨(wrap64 (x63_4 + 1)), (by first | rfl | (simp; done) | (simp [*]; done)), H', ⟨by have := HJ4.out; have := HJ10.out; have := HK3.out; have := HK4.out; omega⟩, ⟨by repeat (first | (with_reducible first | exact HB.out | apply below_alloc | apply pw_below_drewN | apply below_drew1) | exact HB.out)⟩⟩
                                  · replace c33 := Bool.eq_false_iff.mpr c33
                                    subst c33
                                    have H1 : (some true) = some r := by rw [if_neg (show ¬ (false = true) by decide)] at H; exact H
                                    clear H
                                    have H := H1
                                    clear H1
                                    obtain rfl := Option.some.inj H
                                    simp only [Option.some.injEq, Prod.mk.injEq] at H
                                    obtain ⟨rfl⟩ := H
                                    have p183 : 0 ≤ (x63_4 : Int) := of_decide_eq_true (by first | (with_reducible assumption) | assumption)
                                    have q183 : x63_4 < (l1.length : Int) := of_decide_eq_true (by first | (with_reducible assumption) | assumption)
                                    obtain ⟨ad183, e183, hx183_0⟩ := Kd.at_string HR1.out x63_4 p183 q183
                                    cases e183
                                    replace hx183_0 := (HB.out.cell (World.block_lt_of_cell? w _ hx183_0)).trans hx183_0
                                    replace p183 := eq_true p183
                                    replace q183 := eq_true q183
                                    go_wp2_with (first | ((with_reducible refine gate_callee (f := 16) rfl ?_); refine goesL_ (some 68) rfl rfl Tryd.func16 (by kernel_rfl) rfl #[.string (rdOf ByteArray.empty l1 x63_4)] rfl (by (try simp only [List.map_toArray, List.map_cons, List.map_nil]); first | done | rfl | (simp only [List.length_drop, List.length_take]; rfl)) ?_; (with_reducible refine (packhorseref01_Right.calls k4 (rdOf ByteArray.empty l1 x63_4) false _ A32.out).mono ?_); rintro e w35 ⟨rfl, hb⟩; refine ⟨_, rfl, ?_⟩; have n0_ := Aside0.mk (below_step (by repeat (first | (with_reducible first | exact HB.out | apply below_alloc | apply pw_below_drewN | apply below_drew1) | exact HB.out)) hb); clear HB; have HB := n0_; clear n0_; (try clear hb); (try clear hb2); (try clear hk); (try clear hi)))
                                    go_ret
                                    exact ⟨by first | rfl | (simp [errW_none, errW_some] <;> rfl) | (simp [*, errW_none, errW_some] <;> rfl), by repeat (first | (with_reducible first | exact HB.out | apply below_alloc | apply pw_below_drewN | apply below_drew1) | exact HB.out)⟩
                                · rw [if_neg c31] at H
                                  exact absurd H (by simp)
                              · rw [if_neg c30] at H
                                exact absurd H (by simp)
                            · rw [if_neg c29] at H
                              have c29b0 : decide (x63_4 < (l1.length : Int)) = false := decide_eq_false c29
                              clear c29
                              replace H := Option.bind_eq_some_iff.mp H
                              obtain ⟨⟨t185, t186⟩, A360, H⟩ := H
                              replace H : (if t186 = 0 then ((packhorseref01_Same.f k4 t185 l1).bind fun t189 => (some t189)) else (some false)) = some r := H
                              have A36 := Aside0.mk A360
                              clear A360
                              by_cases c37 : t186 = 0
                              · rw [if_pos c37] at H
                                have c37b0 : (t186 == 0) = true := beq_iff_eq.mpr c37
                                have c37b1 : (t186 != 0) = false := bne_eq_false_iff_eq.mpr c37
                                clear c37
                                replace H := Option.bind_eq_some_iff.mp H
                                obtain ⟨t189, A380, H⟩ := H
                                replace H : (some t189) = some r := H
                                have A38 := Aside0.mk A380
                                clear A380
                                obtain rfl := Option.some.inj H
                                simp only [Option.some.injEq, Prod.mk.injEq] at H
                                obtain ⟨rfl⟩ := H
                                go_wp2_with (first | ((with_reducible refine gate_callee (f := 20) rfl ?_); refine goesL_ (some 73) rfl rfl Tryd.func20 (by kernel_rfl) rfl #[.string t181] rfl (by (try simp only [List.map_toArray, List.map_cons, List.map_nil]); first | done | rfl | (simp only [List.length_drop, List.length_take]; rfl)) ?_; (with_reducible refine (label_Split.calls k4 t181 t185 t186 _ ?side1 A36.out).mono ?_); (case side1 => exact Tabs.below HT.out (by repeat (first | (with_reducible first | exact HB.out | apply below_alloc | apply pw_below_drewN | apply below_drew1) | exact HB.out))); rintro e w39 ⟨v187, rfl, ho0, hb⟩; refine ⟨_, rfl, ?_⟩; have n0_ := Aside0.mk (Kd.R_lower ho0 (below_size (by repeat (first | (with_reducible first | exact HB.out | apply below_alloc | apply pw_below_drewN | apply below_drew1) | exact HB.out)))); have n1_ := Aside0.mk (below_step (by repeat (first | (with_reducible first | exact HB.out | apply below_alloc | apply pw_below_drewN | apply below_drew1) | exact HB.out)) hb); clear HB; have HO188 := n0_; have HB := n1_; clear n0_ n1_; (try clear hb); (try clear hb2); (try clear hk); (try clear hi); (try clear ho0); obtain ⟨Ao40, co40, eo40⟩ := Kd.R_slice HO188.out; subst eo40) | (go_at_call 22; (with_reducible refine (packhorseref01_Same.calls k4 _ _ t185 _ _ l1 t189 _ ?side1 ?side2 ?side3 ?side4 A38.out).mono ?_); (case side1 => repeat (first | exact (Kd.R_reads' HO188.out).2.2 | (with_reducible refine Kd.C_alloc ?_ _) | (with_reducible refine Kd.C_drewN ?_ _) | (with_reducible refine Kd.C_drew ?_))); (case side2 => exact (Kd.R_reads' HO188.out).2.1); (case side3 => repeat (first | exact (Kd.C_below HR1.out HB.out) | (with_reducible refine Kd.C_alloc ?_ _) | (with_reducible refine Kd.C_drewN ?_ _) | (with_reducible refine Kd.C_drew ?_))); (case side4 => exact HC1.out); rintro e w' ⟨rfl, ⟨nd, rfl⟩⟩))
                                go_ret
                                exact ⟨by first | rfl | (simp [errW_none, errW_some] <;> rfl) | (simp [*, errW_none, errW_some] <;> rfl), by repeat (first | (with_reducible first | exact HB.out | apply below_alloc | apply pw_below_drewN | apply below_drew1) | exact HB.out)⟩
                              · rw [if_neg c37] at H
                                have c37b0 : (t186 == 0) = false := beq_eq_false_iff_ne.mpr c37
                                have c37b1 : (t186 != 0) = true := bne_iff_ne.mpr c37
                                obtain rfl := Option.some.inj H
                                exact absurd HRT.out (by decide)
                      · rw [if_neg c27] at H
                        have c27b0 : (t181.toList == t182.toList) = false := beq_eq_false_iff_ne.mpr c27
                        have c27b1 : (t181.toList != t182.toList) = true := bne_iff_ne.mpr c27
                        obtain rfl := Option.some.inj H
                        exact absurd HRT.out (by decide)
  · replace c4 := Bool.eq_false_iff.mpr c4
    subst c4
    have H1 : (some false) = some r := by rw [if_neg (show ¬ (false = true) by decide)] at H; exact H
    clear H
    have H := H1
    clear H1
    obtain rfl := Option.some.inj H
    exact absurd HRT.out (by decide)

end Go.Proofs.YtdifpehainbkmaaDoor.PAll
