-- Made by a program of this session (wip/gen)
import Derived.Test.YtcghipdlihpbcaaPAllx0
import Derived.Test.YtcghipdlihpbcaaPAllx2
import Derived.Test.YtcghipdlihpbcaaPAllx6
namespace Go.Proofs.Ytcghipdlihpbcaa.PAll
open Go.RowKit Go.Proofs.YtcghipdlihpbcaaW.PrintWords Go.Proofs.YtcghipdlihpbcaaW.PrintLast Go.Proofs.YtcghipdlihpbcaaW.PrintMore
attribute [local go_sem] max2_int min2_int max_two min_two max_three min_three max_four min_four   -- for this text's walks alone
set_option linter.unusedVariables false
set_option linter.unusedSimpArgs false

/-! ### packhorseref14_Asks: function 13 -/
open Go.Maps in
/-- A map literal's entry at the operation. -/
theorem wpList_insert_own {H : Type} {P : Program} (w : World) {ops : Array Oper} {rest : List Oper} {o : Oper} {a : Act} {Q : Exit → Act → World → Prop}
    (hg : o.guard = none) (m x v : Operand) (t : TypeId) (hop : o.op = Op.insert t m x v)
    (k e : TypeId) (K : Keyed P k) (ht : P.underlying t = some (.map k e)) (R : Value → Option (DataW H × List MemPlace)) (b n : Nat) (D : DataW H)
    (hm : a.eval m = .map (some b)) (hown : w.ownsMap P k R b n D) (hn : n < maxLen) (key val : Value) (kl : Lit) (hx : a.eval x = key) (hv : a.eval v = val) (hkey : keyOf P k key = some kl)
    (d : DataW H) (ps : List MemPlace) (hval : R val = some (d, ps))
    (hK : ∀ w', w'.ownsMap P k R b (n + 1) (D.put kl d) → w.grownBy w' (some b) → wpList P ops Q rest (a.put o.dst undef) w') :
    wpList P ops Q (o :: rest) a w := by
  refine wpList_plain hg fun K' hK' => ?_
  obtain ⟨w', hrun, r1, r2⟩ := hown.update K ht hn hkey hval
  unfold Oper.wp
  simp [execOp, hop, hm, hx, hv, hrun, Result.andThen]
  exact hK' _ _ (hK w' r1 r2)
/-- What is outstanding in a phase, as the reference has it. -/
def asksR (a0 : Int) : Int := if a0 = 1 then 1 else if a0 = 2 then 2 else if a0 = 7 then 5 else if a0 = 9 then 6 else if a0 = 10 then 7 else 0
def packhorseref14_Asks.f (a0 : Int) : Option Int := if (Lit.int .i64 a0).wf = true then some (asksR a0) else none
open Go.Maps in
set_option maxHeartbeats 8000000 in
set_option maxRecDepth 100000 in
theorem packhorseref14_Asks.calls (a0 : Int) (r : Int) (w : World) (h : packhorseref14_Asks.f a0 = some r) :
    Calls Try.prog 13 #[.int .i64 a0] w fun e w' => e = .returned (.int .i64 r) ∧ Below w.heap.size w w' := by
  have ha : (Lit.int .i64 a0).wf = true := by
    by_cases c : (Lit.int .i64 a0).wf = true
    · exact c
    · rw [packhorseref14_Asks.f, if_neg c] at h; cases h
  obtain rfl : asksR a0 = r := by rw [packhorseref14_Asks.f, if_pos ha] at h; exact Option.some.inj h
  clear h
  have hmm := @run_makeMap Try.prog
  have zeroE : ∀ w : World, (zeroValue 3).run Try.prog w = .ok (.int .i64 0) w := fun w => by kernel_rfl
  have law : Keyed Try.prog 3 := int_keyed Try.underlying3
  go_enter Try.func13, Try.ntmps13
  go_wp2_with (first | (refine wpList_insert_own (H := Unit) _ rfl _ _ _ 47 rfl 3 3 law Try.underlying47 (plainElem Try.prog 3) w.heap.size 0 _ rfl (World.ownsMap_made _ _ _ _) (by unfold maxLen; omega) (.int .i64 1) (.int .i64 1) (.int .i64 1) rfl rfl (keyOf_int_mk Try.underlying3 (by decide)) (.lit (.int .i64 1)) [] (plainElem_int Try.underlying3 (by decide)) ?_; intro w1 h1 g1) | (refine wpList_insert_own (H := Unit) _ rfl _ _ _ 47 rfl 3 3 law Try.underlying47 (plainElem Try.prog 3) w.heap.size 1 _ rfl (h1) (by unfold maxLen; omega) (.int .i64 2) (.int .i64 2) (.int .i64 2) rfl rfl (keyOf_int_mk Try.underlying3 (by decide)) (.lit (.int .i64 2)) [] (plainElem_int Try.underlying3 (by decide)) ?_; intro w2 h2 g2) | (refine wpList_insert_own (H := Unit) _ rfl _ _ _ 47 rfl 3 3 law Try.underlying47 (plainElem Try.prog 3) w.heap.size 2 _ rfl (h2) (by unfold maxLen; omega) (.int .i64 7) (.int .i64 5) (.int .i64 7) rfl rfl (keyOf_int_mk Try.underlying3 (by decide)) (.lit (.int .i64 5)) [] (plainElem_int Try.underlying3 (by decide)) ?_; intro w3 h3 g3) | (refine wpList_insert_own (H := Unit) _ rfl _ _ _ 47 rfl 3 3 law Try.underlying47 (plainElem Try.prog 3) w.heap.size 3 _ rfl (h3) (by unfold maxLen; omega) (.int .i64 9) (.int .i64 6) (.int .i64 9) rfl rfl (keyOf_int_mk Try.underlying3 (by decide)) (.lit (.int .i64 6)) [] (plainElem_int Try.underlying3 (by decide)) ?_; intro w4 h4 g4) | (refine wpList_insert_own (H := Unit) _ rfl _ _ _ 47 rfl 3 3 law Try.underlying47 (plainElem Try.prog 3) w.heap.size 4 _ rfl (h4) (by unfold maxLen; omega) (.int .i64 10) (.int .i64 7) (.int .i64 10) rfl rfl (keyOf_int_mk Try.underlying3 (by decide)) (.lit (.int .i64 7)) [] (plainElem_int Try.underlying3 (by decide)) ?_; intro w5 h5 g5) | (at_lookup; refine wpList_lookup_own_int _ rfl _ _ 47 rfl 3 3 .i64 law Try.underlying47 Try.underlying3 (zeroE _) w.heap.size 5 _ rfl h5 (.int .i64 a0) (.int .i64 a0) rfl (keyOf_int_mk Try.underlying3 ha) ?_; intro c hat hwc))
  go_ret
  have b0 : Below w.heap.size w (w.alloc (.map #[] 0)) := (Below.refl _ _).alloc (Nat.le_refl _) _
  have b1 := b0.grown g1 b0.size (fun j hj => by cases hj; exact Nat.le_refl _)
  have b2 := b1.grown g2 b1.size (fun j hj => by cases hj; exact Nat.le_refl _)
  have b3 := b2.grown g3 b2.size (fun j hj => by cases hj; exact Nat.le_refl _)
  have b4 := b3.grown g4 b3.size (fun j hj => by cases hj; exact Nat.le_refl _)
  have b5 := b4.grown g5 b4.size (fun j hj => by cases hj; exact Nat.le_refl _)
  refine ⟨?_, b5⟩
  have hc : (DataW.lit (Lit.int .i64 (asksR a0)) : DataW Unit) = .lit (.int .i64 c) := by
    rw [← hat]
    by_cases c1 : a0 = 1
    · subst c1; rfl
    by_cases c2 : a0 = 2
    · subst c2; rfl
    by_cases c7 : a0 = 7
    · subst c7; rfl
    by_cases c9 : a0 = 9
    · subst c9; rfl
    by_cases c10 : a0 = 10
    · subst c10; rfl
    rw [asksR, if_neg c1, if_neg c2, if_neg c7, if_neg c9, if_neg c10]
    show _ = DataW.atKey (.map [(.int .i64 1, .lit (.int .i64 1)), (.int .i64 2, .lit (.int .i64 2)), (.int .i64 7, .lit (.int .i64 5)), (.int .i64 9, .lit (.int .i64 6)), (.int .i64 10, .lit (.int .i64 7))]) (.int .i64 a0) (.lit (.int .i64 0))
    simp [DataW.atKey, Lit.sameKey, Ne.symm c1, Ne.symm c2, Ne.symm c7, Ne.symm c9, Ne.symm c10]
  have hc : asksR a0 = c := by injection hc with hc; injection hc
  rw [hc]
  rfl

/-! ### packhorselaw14_SagaNames: function 7 -/
def packhorselaw14_SagaNames.l0 : Nat → Int → Option (Bool)
  | 0, _ => none
  | k + 1, x1 => if x1 < 15 then ((saga_Asks.f x1).bind fun t272 => ((packhorseref14_Asks.f x1).bind fun t273 => (if t272 = t273 then ((saga_Left.f x1 false 0).bind fun t274 => (if x1 = 7 then (if (t274 != true) = true then (some false) else (packhorselaw14_SagaNames.l0 k (wrap64 (x1 + 1)))) else (if (t274 != (x1 == 8)) = true then (some false) else (packhorselaw14_SagaNames.l0 k (wrap64 (x1 + 1)))))) else (some false)))) else ((packhorselaw14_sagaAlive.f k).bind fun t271 => (if t271 = true then (some true) else (some false)))
def packhorselaw14_SagaNames.f (k : Nat)  : Option (Bool) := packhorselaw14_SagaNames.l0 k (-1)
theorem packhorselaw14_SagaNames.mono_l : ∀ k, (∀ y0, LeO (packhorselaw14_SagaNames.l0 k y0) (packhorselaw14_SagaNames.l0 (k + 1) y0))
  | 0 => fun _ r h => by simp [packhorselaw14_SagaNames.l0] at h
  | k + 1 => by
    have ih0 := packhorselaw14_SagaNames.mono_l k
    · intro y0
      unfold packhorselaw14_SagaNames.l0
      repeat' first
      | (with_reducible exact ih0 _)
      | (with_reducible exact packhorselaw14_sagaAlive.mono _)
      | (with_reducible exact LeO.refl _)
      | (with_reducible exact LeO.none _)
      | (with_reducible refine LeO.ite ?_ ?_)
      | (with_reducible refine LeO.bind ?_ (fun _ => ?_))
      | exact ih0 _
      | exact packhorselaw14_sagaAlive.mono _
      | exact LeO.none _
      | refine LeO.ite ?_ ?_
      | refine LeO.bind ?_ (fun _ => ?_)
theorem packhorselaw14_SagaNames.mono : ∀ k, LeO (packhorselaw14_SagaNames.f k ) (packhorselaw14_SagaNames.f (k + 1) ) := by
  intro  k
  have ih0 := packhorselaw14_SagaNames.mono_l k
  unfold packhorselaw14_SagaNames.f
  repeat' first
      | (with_reducible exact ih0 _)
      | (with_reducible exact packhorselaw14_sagaAlive.mono _)
      | (with_reducible exact LeO.refl _)
      | (with_reducible exact LeO.none _)
      | (with_reducible refine LeO.ite ?_ ?_)
      | (with_reducible refine LeO.bind ?_ (fun _ => ?_))
      | exact ih0 _
      | exact packhorselaw14_sagaAlive.mono _
      | exact LeO.none _
      | refine LeO.ite ?_ ?_
      | refine LeO.bind ?_ (fun _ => ?_)
set_option maxHeartbeats 8000000 in
set_option maxRecDepth 100000 in
theorem packhorselaw14_SagaNames.calls (k : Nat)  (r : Bool) (w : World) (h : packhorselaw14_SagaNames.f k  = some r) :
    Calls Try.prog 7 #[] w fun e w' => e = .returned (.bool r) ∧ Below w.heap.size w w' := by
  have hu23 := Try.underlying23
  have HB := Aside0.mk (Below.refl w.heap.size w)
  have H : (packhorselaw14_SagaNames.l0 k (-1)) = some r := h
  clear h
  have H' := Aside0.mk H
  clear H
  go_enter Try.func7, Try.ntmps7
  go_wp2
  go_loopg [1] k (fun kq v1 w' => ∃ (x1_1 : Int), v1 = .int .i64 x1_1 ∧ Aside0 (packhorselaw14_SagaNames.l0 kq x1_1 = some r) ∧ Aside0 (kq ≤ k) ∧ Aside0 (Below w.heap.size w w'))
  case atStart => exact ⟨((-1)), (by first | rfl | (simp; done) | (simp [*]; done)), H', ⟨Nat.le_refl _⟩, ⟨by repeat (first | (with_reducible first | exact HB.out | apply below_alloc | apply pw_below_drewN | apply below_drew1) | exact HB.out)⟩⟩
  case round =>
    clear H'
    obtain ⟨x1_1, rfl, HA, HK1, HB⟩ := hrel
    cases gk with
    | zero => exact absurd HA.out (by simp [packhorselaw14_SagaNames.l0])
    | succ k1 =>
      have H := HA.out
      clear HA
      simp only [packhorselaw14_SagaNames.l0] at H
      by_cases c1 : x1_1 < 15
      · rw [if_pos c1] at H
        have c1b0 : decide (x1_1 < 15) = true := decide_eq_true c1
        clear c1
        replace H := Option.bind_eq_some_iff.mp H
        obtain ⟨t272, A20, H⟩ := H
        replace H : ((packhorseref14_Asks.f x1_1).bind fun t273 => (if t272 = t273 then ((saga_Left.f x1_1 false 0).bind fun t274 => (if x1_1 = 7 then (if (t274 != true) = true then (some false) else (packhorselaw14_SagaNames.l0 k1 (wrap64 (x1_1 + 1)))) else (if (t274 != (x1_1 == 8)) = true then (some false) else (packhorselaw14_SagaNames.l0 k1 (wrap64 (x1_1 + 1)))))) else (some false))) = some r := H
        have A2 := Aside0.mk A20
        clear A20
        replace H := Option.bind_eq_some_iff.mp H
        obtain ⟨t273, A30, H⟩ := H
        replace H : (if t272 = t273 then ((saga_Left.f x1_1 false 0).bind fun t274 => (if x1_1 = 7 then (if (t274 != true) = true then (some false) else (packhorselaw14_SagaNames.l0 k1 (wrap64 (x1_1 + 1)))) else (if (t274 != (x1_1 == 8)) = true then (some false) else (packhorselaw14_SagaNames.l0 k1 (wrap64 (x1_1 + 1)))))) else (some false)) = some r := H
        have A3 := Aside0.mk A30
        clear A30
        by_cases c4 : t272 = t273
        · rw [if_pos c4] at H
          have c4b0 : (t272 == t273) = true := beq_iff_eq.mpr c4
          have c4b1 : (t272 != t273) = false := bne_eq_false_iff_eq.mpr c4
          clear c4
          replace H := Option.bind_eq_some_iff.mp H
          obtain ⟨t274, A50, H⟩ := H
          replace H : (if x1_1 = 7 then (if (t274 != true) = true then (some false) else (packhorselaw14_SagaNames.l0 k1 (wrap64 (x1_1 + 1)))) else (if (t274 != (x1_1 == 8)) = true then (some false) else (packhorselaw14_SagaNames.l0 k1 (wrap64 (x1_1 + 1))))) = some r := H
          have A5 := Aside0.mk A50
          clear A50
          by_cases c6 : x1_1 = 7
          · rw [if_pos c6] at H
            have c6b0 : (x1_1 == 7) = true := beq_iff_eq.mpr c6
            have c6b1 : (x1_1 != 7) = false := bne_eq_false_iff_eq.mpr c6
            clear c6
            by_cases c7 : (t274 != true) = true
            · rw [if_pos c7] at H
              have c7b0 : (t274 != true) = true := c7
              (try (have c7b1 : decide (t274 = true) = false := by simpa using c7))
              (try (have c7b2 : (t274 == true) = false := by simpa using c7))
              (try (have c7b3 : ¬ (t274 = true) := by simpa using c7))
              clear c7
              obtain rfl := Option.some.inj H
              go_wp2_with (first | ((with_reducible refine gate_callee (f := 12) rfl ?_); refine goesL_ (some 7) rfl rfl Try.func12 (by kernel_rfl) rfl #[.int .i64 x1_1] rfl (by (try simp only [List.map_toArray, List.map_cons, List.map_nil]); first | done | rfl | (simp only [List.length_drop, List.length_take]; rfl)) ?_; (with_reducible refine (saga_Asks.calls x1_1 t272 _ A2.out).mono ?_); rintro e w' ⟨rfl, ⟨nd, rfl⟩⟩; refine ⟨_, rfl, ?_⟩) | ((with_reducible refine gate_callee (f := 13) rfl ?_); refine goesL_ (some 9) rfl rfl Try.func13 (by kernel_rfl) rfl #[.int .i64 x1_1] rfl (by (try simp only [List.map_toArray, List.map_cons, List.map_nil]); first | done | rfl | (simp only [List.length_drop, List.length_take]; rfl)) ?_; (with_reducible refine (packhorseref14_Asks.calls x1_1 t273 _ A3.out).mono ?_); rintro e w8 ⟨rfl, hb⟩; refine ⟨_, rfl, ?_⟩; have n0_ := Aside0.mk (below_step (by repeat (first | (with_reducible first | exact HB.out | apply below_alloc | apply pw_below_drewN | apply below_drew1) | exact HB.out)) hb); clear HB; have HB := n0_; clear n0_; (try clear hb); (try clear hb2); (try clear hk); (try clear hi)) | (go_at_call 14; (with_reducible refine (saga_Left.calls x1_1 false 0 t274 _ A5.out).mono ?_); rintro e w9 ⟨rfl, hb⟩; have n0_ := Aside0.mk (below_step (by repeat (first | (with_reducible first | exact HB.out | apply below_alloc | apply pw_below_drewN | apply below_drew1) | exact HB.out)) hb); clear HB; have HB := n0_; clear n0_; (try clear hb); (try clear hb2); (try clear hk); (try clear hi)))
              go_ret
              exact ⟨by first | rfl | (simp [errW_none, errW_some] <;> rfl) | (simp [*, errW_none, errW_some] <;> rfl), by repeat (first | (with_reducible first | exact HB.out | apply below_alloc | apply pw_below_drewN | apply below_drew1) | exact HB.out)⟩
            · rw [if_neg c7] at H
              have c7b0 : (t274 != true) = false := by simpa using c7
              (try (have c7b1 : decide (t274 = true) = true := by simpa using c7))
              (try (have c7b2 : (t274 == true) = true := by simpa using c7))
              clear c7
              have H' := Aside0.mk H
              clear H
              go_wp2_with (first | ((with_reducible refine gate_callee (f := 12) rfl ?_); refine goesL_ (some 7) rfl rfl Try.func12 (by kernel_rfl) rfl #[.int .i64 x1_1] rfl (by (try simp only [List.map_toArray, List.map_cons, List.map_nil]); first | done | rfl | (simp only [List.length_drop, List.length_take]; rfl)) ?_; (with_reducible refine (saga_Asks.calls x1_1 t272 _ A2.out).mono ?_); rintro e w' ⟨rfl, ⟨nd, rfl⟩⟩; refine ⟨_, rfl, ?_⟩) | ((with_reducible refine gate_callee (f := 13) rfl ?_); refine goesL_ (some 9) rfl rfl Try.func13 (by kernel_rfl) rfl #[.int .i64 x1_1] rfl (by (try simp only [List.map_toArray, List.map_cons, List.map_nil]); first | done | rfl | (simp only [List.length_drop, List.length_take]; rfl)) ?_; (with_reducible refine (packhorseref14_Asks.calls x1_1 t273 _ A3.out).mono ?_); rintro e w10 ⟨rfl, hb⟩; refine ⟨_, rfl, ?_⟩; have n0_ := Aside0.mk (below_step (by repeat (first | (with_reducible first | exact HB.out | apply below_alloc | apply pw_below_drewN | apply below_drew1) | exact HB.out)) hb); clear HB; have HB := n0_; clear n0_; (try clear hb); (try clear hb2); (try clear hk); (try clear hi)) | (go_at_call 14; (with_reducible refine (saga_Left.calls x1_1 false 0 t274 _ A5.out).mono ?_); rintro e w11 ⟨rfl, hb⟩; have n0_ := Aside0.mk (below_step (by repeat (first | (with_reducible first | exact HB.out | apply below_alloc | apply pw_below_drewN | apply below_drew1) | exact HB.out)) hb); clear HB; have HB := n0_; clear n0_; (try clear hb); (try clear hb2); (try clear hk); (try clear hi)))
              go_roundg k1
              case measure => have := HK1.out; omega
              case rel => exact ⟨(wrap64 (x1_1 + 1)), (by first | rfl | (simp; done) | (simp [*]; done)), H', ⟨by have := HK1.out; omega⟩, ⟨by repeat (first | (with_reducible first | exact HB.out | apply below_alloc | apply pw_below_drewN | apply below_drew1) | exact HB.out)⟩⟩
          · rw [if_neg c6] at H
            have c6b0 : (x1_1 == 7) = false := beq_eq_false_iff_ne.mpr c6
            have c6b1 : (x1_1 != 7) = true := bne_iff_ne.mpr c6
            by_cases c12 : (t274 != (x1_1 == 8)) = true
            · rw [if_pos c12] at H
              have c12b0 : (t274 != (x1_1 == 8)) = true := c12
              (try (have c12b1 : decide (t274 = (x1_1 == 8)) = false := by simpa using c12))
              (try (have c12b2 : (t274 == (x1_1 == 8)) = false := by simpa using c12))
              (try (have c12b3 : ¬ (t274 = (x1_1 == 8)) := by simpa using c12))
              clear c12
              obtain rfl := Option.some.inj H
              go_wp2_with (first | ((with_reducible refine gate_callee (f := 12) rfl ?_); refine goesL_ (some 7) rfl rfl Try.func12 (by kernel_rfl) rfl #[.int .i64 x1_1] rfl (by (try simp only [List.map_toArray, List.map_cons, List.map_nil]); first | done | rfl | (simp only [List.length_drop, List.length_take]; rfl)) ?_; (with_reducible refine (saga_Asks.calls x1_1 t272 _ A2.out).mono ?_); rintro e w' ⟨rfl, ⟨nd, rfl⟩⟩; refine ⟨_, rfl, ?_⟩) | ((with_reducible refine gate_callee (f := 13) rfl ?_); refine goesL_ (some 9) rfl rfl Try.func13 (by kernel_rfl) rfl #[.int .i64 x1_1] rfl (by (try simp only [List.map_toArray, List.map_cons, List.map_nil]); first | done | rfl | (simp only [List.length_drop, List.length_take]; rfl)) ?_; (with_reducible refine (packhorseref14_Asks.calls x1_1 t273 _ A3.out).mono ?_); rintro e w13 ⟨rfl, hb⟩; refine ⟨_, rfl, ?_⟩; have n0_ := Aside0.mk (below_step (by repeat (first | (with_reducible first | exact HB.out | apply below_alloc | apply pw_below_drewN | apply below_drew1) | exact HB.out)) hb); clear HB; have HB := n0_; clear n0_; (try clear hb); (try clear hb2); (try clear hk); (try clear hi)) | (go_at_call 14; (with_reducible refine (saga_Left.calls x1_1 false 0 t274 _ A5.out).mono ?_); rintro e w14 ⟨rfl, hb⟩; have n0_ := Aside0.mk (below_step (by repeat (first | (with_reducible first | exact HB.out | apply below_alloc | apply pw_below_drewN | apply below_drew1) | exact HB.out)) hb); clear HB; have HB := n0_; clear n0_; (try clear hb); (try clear hb2); (try clear hk); (try clear hi)))
              go_ret
              exact ⟨by first | rfl | (simp [errW_none, errW_some] <;> rfl) | (simp [*, errW_none, errW_some] <;> rfl), by repeat (first | (with_reducible first | exact HB.out | apply below_alloc | apply pw_below_drewN | apply below_drew1) | exact HB.out)⟩
            · rw [if_neg c12] at H
              have c12b0 : (t274 != (x1_1 == 8)) = false := by simpa using c12
              (try (have c12b1 : decide (t274 = (x1_1 == 8)) = true := by simpa using c12))
              (try (have c12b2 : (t274 == (x1_1 == 8)) = true := by simpa using c12))
              clear c12
              have H' := Aside0.mk H
              clear H
              go_wp2_with (first | ((with_reducible refine gate_callee (f := 12) rfl ?_); refine goesL_ (some 7) rfl rfl Try.func12 (by kernel_rfl) rfl #[.int .i64 x1_1] rfl (by (try simp only [List.map_toArray, List.map_cons, List.map_nil]); first | done | rfl | (simp only [List.length_drop, List.length_take]; rfl)) ?_; (with_reducible refine (saga_Asks.calls x1_1 t272 _ A2.out).mono ?_); rintro e w' ⟨rfl, ⟨nd, rfl⟩⟩; refine ⟨_, rfl, ?_⟩) | ((with_reducible refine gate_callee (f := 13) rfl ?_); refine goesL_ (some 9) rfl rfl Try.func13 (by kernel_rfl) rfl #[.int .i64 x1_1] rfl (by (try simp only [List.map_toArray, List.map_cons, List.map_nil]); first | done | rfl | (simp only [List.length_drop, List.length_take]; rfl)) ?_; (with_reducible refine (packhorseref14_Asks.calls x1_1 t273 _ A3.out).mono ?_); rintro e w15 ⟨rfl, hb⟩; refine ⟨_, rfl, ?_⟩; have n0_ := Aside0.mk (below_step (by repeat (first | (with_reducible first | exact HB.out | apply below_alloc | apply pw_below_drewN | apply below_drew1) | exact HB.out)) hb); clear HB; have HB := n0_; clear n0_; (try clear hb); (try clear hb2); (try clear hk); (try clear hi)) | (go_at_call 14; (with_reducible refine (saga_Left.calls x1_1 false 0 t274 _ A5.out).mono ?_); rintro e w16 ⟨rfl, hb⟩; have n0_ := Aside0.mk (below_step (by repeat (first | (with_reducible first | exact HB.out | apply below_alloc | apply pw_below_drewN | apply below_drew1) | exact HB.out)) hb); clear HB; have HB := n0_; clear n0_; (try clear hb); (try clear hb2); (try clear hk); (try clear hi)))
              go_roundg k1
              case measure => have := HK1.out; omega
              case rel => exact ⟨(wrap64 (x1_1 + 1)), (by first | rfl | (simp; done) | (simp [*]; done)), H', ⟨by have := HK1.out; omega⟩, ⟨by repeat (first | (with_reducible first | exact HB.out | apply below_alloc | apply pw_below_drewN | apply below_drew1) | exact HB.out)⟩⟩
        · rw [if_neg c4] at H
          have c4b0 : (t272 == t273) = false := beq_eq_false_iff_ne.mpr c4
          have c4b1 : (t272 != t273) = true := bne_iff_ne.mpr c4
          obtain rfl := Option.some.inj H
          go_wp2_with (first | ((with_reducible refine gate_callee (f := 12) rfl ?_); refine goesL_ (some 7) rfl rfl Try.func12 (by kernel_rfl) rfl #[.int .i64 x1_1] rfl (by (try simp only [List.map_toArray, List.map_cons, List.map_nil]); first | done | rfl | (simp only [List.length_drop, List.length_take]; rfl)) ?_; (with_reducible refine (saga_Asks.calls x1_1 t272 _ A2.out).mono ?_); rintro e w' ⟨rfl, ⟨nd, rfl⟩⟩; refine ⟨_, rfl, ?_⟩) | ((with_reducible refine gate_callee (f := 13) rfl ?_); refine goesL_ (some 9) rfl rfl Try.func13 (by kernel_rfl) rfl #[.int .i64 x1_1] rfl (by (try simp only [List.map_toArray, List.map_cons, List.map_nil]); first | done | rfl | (simp only [List.length_drop, List.length_take]; rfl)) ?_; (with_reducible refine (packhorseref14_Asks.calls x1_1 t273 _ A3.out).mono ?_); rintro e w17 ⟨rfl, hb⟩; refine ⟨_, rfl, ?_⟩; have n0_ := Aside0.mk (below_step (by repeat (first | (with_reducible first | exact HB.out | apply below_alloc | apply pw_below_drewN | apply below_drew1) | exact HB.out)) hb); clear HB; have HB := n0_; clear n0_; (try clear hb); (try clear hb2); (try clear hk); (try clear hi)))
          go_ret
          exact ⟨by first | rfl | (simp [errW_none, errW_some] <;> rfl) | (simp [*, errW_none, errW_some] <;> rfl), by repeat (first | (with_reducible first | exact HB.out | apply below_alloc | apply pw_below_drewN | apply below_drew1) | exact HB.out)⟩
      · rw [if_neg c1] at H
        have c1b0 : decide (x1_1 < 15) = false := decide_eq_false c1
        clear c1
        replace H := Option.bind_eq_some_iff.mp H
        obtain ⟨t271, A180, H⟩ := H
        replace H : (if t271 = true then (some true) else (some false)) = some r := H
        have A18 := Aside0.mk A180
        clear A180
        by_cases c19 : t271 = true
        · subst c19
          have H1 : (some true) = some r := by rw [if_pos rfl] at H; exact H
          clear H
          have H := H1
          clear H1
          obtain rfl := Option.some.inj H
          go_wp2_with (first | ((with_reducible refine gate_callee (f := 9) rfl ?_); refine goesL_ (some 23) rfl rfl Try.func9 (by kernel_rfl) rfl #[] rfl (by (try simp only [List.map_toArray, List.map_cons, List.map_nil]); first | done | rfl | (simp only [List.length_drop, List.length_take]; rfl)) ?_; (with_reducible refine (packhorselaw14_sagaAlive.calls k1  true _ A18.out).mono ?_); rintro e w20 ⟨rfl, hb⟩; refine ⟨_, rfl, ?_⟩; have n0_ := Aside0.mk (below_step (by repeat (first | (with_reducible first | exact HB.out | apply below_alloc | apply pw_below_drewN | apply below_drew1) | exact HB.out)) hb); clear HB; have HB := n0_; clear n0_; (try clear hb); (try clear hb2); (try clear hk); (try clear hi)))
          go_ret
          exact ⟨by first | rfl | (simp [errW_none, errW_some] <;> rfl) | (simp [*, errW_none, errW_some] <;> rfl), by repeat (first | (with_reducible first | exact HB.out | apply below_alloc | apply pw_below_drewN | apply below_drew1) | exact HB.out)⟩
        · replace c19 := Bool.eq_false_iff.mpr c19
          subst c19
          have H1 : (some false) = some r := by rw [if_neg (show ¬ (false = true) by decide)] at H; exact H
          clear H
          have H := H1
          clear H1
          obtain rfl := Option.some.inj H
          go_wp2_with (first | ((with_reducible refine gate_callee (f := 9) rfl ?_); refine goesL_ (some 23) rfl rfl Try.func9 (by kernel_rfl) rfl #[] rfl (by (try simp only [List.map_toArray, List.map_cons, List.map_nil]); first | done | rfl | (simp only [List.length_drop, List.length_take]; rfl)) ?_; (with_reducible refine (packhorselaw14_sagaAlive.calls k1  false _ A18.out).mono ?_); rintro e w21 ⟨rfl, hb⟩; refine ⟨_, rfl, ?_⟩; have n0_ := Aside0.mk (below_step (by repeat (first | (with_reducible first | exact HB.out | apply below_alloc | apply pw_below_drewN | apply below_drew1) | exact HB.out)) hb); clear HB; have HB := n0_; clear n0_; (try clear hb); (try clear hb2); (try clear hk); (try clear hi)))
          go_ret
          exact ⟨by first | rfl | (simp [errW_none, errW_some] <;> rfl) | (simp [*, errW_none, errW_some] <;> rfl), by repeat (first | (with_reducible first | exact HB.out | apply below_alloc | apply pw_below_drewN | apply below_drew1) | exact HB.out)⟩

end Go.Proofs.Ytcghipdlihpbcaa.PAll
