-- Made by a program of this session (wip/gen)
import Derived.Test.YtapfpdjcbeiibaaDoorPAllx0
import Derived.Test.YtapfpdjcbeiibaaDoorPAllx1
namespace Go.Proofs.YtapfpdjcbeiibaaDoor.PAll
open Go.RowKit Go.Proofs.YtapfpdjcbeiibaaDoorW.PrintWords Go.Proofs.YtapfpdjcbeiibaaDoorW.PrintLast Go.Proofs.YtapfpdjcbeiibaaDoorW.PrintMore
attribute [local go_sem] max2_int min2_int max_two min_two max_three min_three max_four min_four   -- for this text's walks alone
set_option linter.unusedVariables false
set_option linter.unusedSimpArgs false

/-! ### batch_Caps: function 11 -/
def batch_Caps.f (a0_0 : Int) (a0_1 : Int) : Option (Bool) := if a0_0 ≥ 1 then (if a0_0 ≤ 64 then (if a0_1 ≥ 1 then ((tally_Right.f a0_1).bind fun t192 => (some t192)) else (some false)) else (some false)) else (some false)
set_option maxHeartbeats 8000000 in
set_option maxRecDepth 100000 in
theorem batch_Caps.calls (a0_0 : Int) (a0_1 : Int) (r : Bool) (w : World) (h : batch_Caps.f a0_0 a0_1 = some r) :
    Calls Tryd.prog 11 #[.agg #[.int .i64 a0_0, .int .i64 a0_1]] w fun e w' => e = .returned (.bool r) ∧ Below w.heap.size w w' := by
  have hu23 := Tryd.underlying23
  have HB := Aside0.mk (Below.refl w.heap.size w)
  have H : (if a0_0 ≥ 1 then (if a0_0 ≤ 64 then (if a0_1 ≥ 1 then ((tally_Right.f a0_1).bind fun t192 => (some t192)) else (some false)) else (some false)) else (some false)) = some r := h
  clear h
  by_cases c2 : a0_0 ≥ 1
  · rw [if_pos c2] at H
    have c2b0 : decide (1 ≤ a0_0) = true := decide_eq_true c2
    clear c2
    by_cases c3 : a0_0 ≤ 64
    · rw [if_pos c3] at H
      have c3b0 : decide (a0_0 ≤ 64) = true := decide_eq_true c3
      clear c3
      by_cases c4 : a0_1 ≥ 1
      · rw [if_pos c4] at H
        have c4b0 : decide (1 ≤ a0_1) = true := decide_eq_true c4
        clear c4
        replace H := Option.bind_eq_some_iff.mp H
        obtain ⟨t192, A50, H⟩ := H
        replace H : (some t192) = some r := H
        have A5 := Aside0.mk A50
        clear A50
        obtain rfl := Option.some.inj H
        simp only [Option.some.injEq, Prod.mk.injEq] at H
        obtain ⟨rfl⟩ := H
        go_enter Tryd.func11, Tryd.ntmps11
        go_wp2_with (first | ((with_reducible refine gate_dst (N := 1) rfl ?_); refine box_event ?hg (N := 1) ?hd (cs := #[.int .i64 a0_0, .int .i64 a0_1]) (t := 23) ?hr ?_; (case hd => rfl); (case hg => rfl); (case hr => first | (go_simp; done) | (go_simp; rfl)); intro gb191 hg w6 hbox hb; have n0_ := Aside0.mk (below_step (by repeat (first | (with_reducible first | exact HB.out | apply below_alloc | apply pw_below_drewN | apply below_drew1) | exact HB.out)) hb); have n1_ := Aside0.mk (hbox); have n2_ := Aside0.mk ((by rw [hg]; exact (below_size (by repeat (first | (with_reducible first | exact HB.out | apply below_alloc | apply pw_below_drewN | apply below_drew1) | exact HB.out))) : w.heap.size ≤ gb191)); have n3_ := Aside0.mk ((by rw [hg]; exact (below_size (by repeat (first | (with_reducible first | exact HB.out | apply below_alloc | apply pw_below_drewN | apply below_drew1) | exact HB.out))) : w.heap.size ≤ gb191)); clear HB; have HB := n0_; have BK191 := n1_; have GW191 := n2_; have GE191 := n3_; clear n0_ n1_ n2_ n3_; clear hb hbox hg; have hcz7_0 : w6.cell? ⟨gb191, 0, none⟩ = some (.int .i64 a0_0) := (blk_cell BK191.out 0).trans rfl; have hcz7_1 : w6.cell? ⟨gb191, 1, none⟩ = some (.int .i64 a0_1) := (blk_cell BK191.out 1).trans rfl; have hfz7_0 := blk_frozen BK191.out 0; have hfz7_1 := blk_frozen BK191.out 1) | (go_at_call 31; (with_reducible refine (tally_Right.calls a0_1 t192 _ A5.out).mono ?_); rintro e w' ⟨rfl, ⟨nd, rfl⟩⟩))
        go_ret
        exact ⟨by first | rfl | (simp [errW_none, errW_some] <;> rfl) | (simp [*, errW_none, errW_some] <;> rfl), by repeat (first | (with_reducible first | exact HB.out | apply below_alloc | apply pw_below_drewN | apply below_drew1 | refine below_set ?_ GE191.out) | exact HB.out)⟩
      · rw [if_neg c4] at H
        have c4b0 : decide (1 ≤ a0_1) = false := decide_eq_false c4
        clear c4
        obtain rfl := Option.some.inj H
        simp only [Option.some.injEq, Prod.mk.injEq] at H
        obtain ⟨rfl⟩ := H
        go_enter Tryd.func11, Tryd.ntmps11
        go_wp2_with (first | ((with_reducible refine gate_dst (N := 1) rfl ?_); refine box_event ?hg (N := 1) ?hd (cs := #[.int .i64 a0_0, .int .i64 a0_1]) (t := 23) ?hr ?_; (case hd => rfl); (case hg => rfl); (case hr => first | (go_simp; done) | (go_simp; rfl)); intro gb191 hg w8 hbox hb; have n0_ := Aside0.mk (below_step (by repeat (first | (with_reducible first | exact HB.out | apply below_alloc | apply pw_below_drewN | apply below_drew1) | exact HB.out)) hb); have n1_ := Aside0.mk (hbox); have n2_ := Aside0.mk ((by rw [hg]; exact (below_size (by repeat (first | (with_reducible first | exact HB.out | apply below_alloc | apply pw_below_drewN | apply below_drew1) | exact HB.out))) : w.heap.size ≤ gb191)); have n3_ := Aside0.mk ((by rw [hg]; exact (below_size (by repeat (first | (with_reducible first | exact HB.out | apply below_alloc | apply pw_below_drewN | apply below_drew1) | exact HB.out))) : w.heap.size ≤ gb191)); clear HB; have HB := n0_; have BK191 := n1_; have GW191 := n2_; have GE191 := n3_; clear n0_ n1_ n2_ n3_; clear hb hbox hg; have hcz9_0 : w8.cell? ⟨gb191, 0, none⟩ = some (.int .i64 a0_0) := (blk_cell BK191.out 0).trans rfl; have hcz9_1 : w8.cell? ⟨gb191, 1, none⟩ = some (.int .i64 a0_1) := (blk_cell BK191.out 1).trans rfl; have hfz9_0 := blk_frozen BK191.out 0; have hfz9_1 := blk_frozen BK191.out 1))
        go_ret
        exact ⟨by first | rfl | (simp [errW_none, errW_some] <;> rfl) | (simp [*, errW_none, errW_some] <;> rfl), by repeat (first | (with_reducible first | exact HB.out | apply below_alloc | apply pw_below_drewN | apply below_drew1 | refine below_set ?_ GE191.out) | exact HB.out)⟩
    · rw [if_neg c3] at H
      have c3b0 : decide (a0_0 ≤ 64) = false := decide_eq_false c3
      clear c3
      obtain rfl := Option.some.inj H
      simp only [Option.some.injEq, Prod.mk.injEq] at H
      obtain ⟨rfl⟩ := H
      go_enter Tryd.func11, Tryd.ntmps11
      go_wp2_with (first | ((with_reducible refine gate_dst (N := 1) rfl ?_); refine box_event ?hg (N := 1) ?hd (cs := #[.int .i64 a0_0, .int .i64 a0_1]) (t := 23) ?hr ?_; (case hd => rfl); (case hg => rfl); (case hr => first | (go_simp; done) | (go_simp; rfl)); intro gb191 hg w10 hbox hb; have n0_ := Aside0.mk (below_step (by repeat (first | (with_reducible first | exact HB.out | apply below_alloc | apply pw_below_drewN | apply below_drew1) | exact HB.out)) hb); have n1_ := Aside0.mk (hbox); have n2_ := Aside0.mk ((by rw [hg]; exact (below_size (by repeat (first | (with_reducible first | exact HB.out | apply below_alloc | apply pw_below_drewN | apply below_drew1) | exact HB.out))) : w.heap.size ≤ gb191)); have n3_ := Aside0.mk ((by rw [hg]; exact (below_size (by repeat (first | (with_reducible first | exact HB.out | apply below_alloc | apply pw_below_drewN | apply below_drew1) | exact HB.out))) : w.heap.size ≤ gb191)); clear HB; have HB := n0_; have BK191 := n1_; have GW191 := n2_; have GE191 := n3_; clear n0_ n1_ n2_ n3_; clear hb hbox hg; have hcz11_0 : w10.cell? ⟨gb191, 0, none⟩ = some (.int .i64 a0_0) := (blk_cell BK191.out 0).trans rfl; have hcz11_1 : w10.cell? ⟨gb191, 1, none⟩ = some (.int .i64 a0_1) := (blk_cell BK191.out 1).trans rfl; have hfz11_0 := blk_frozen BK191.out 0; have hfz11_1 := blk_frozen BK191.out 1))
      go_ret
      exact ⟨by first | rfl | (simp [errW_none, errW_some] <;> rfl) | (simp [*, errW_none, errW_some] <;> rfl), by repeat (first | (with_reducible first | exact HB.out | apply below_alloc | apply pw_below_drewN | apply below_drew1 | refine below_set ?_ GE191.out) | exact HB.out)⟩
  · rw [if_neg c2] at H
    have c2b0 : decide (1 ≤ a0_0) = false := decide_eq_false c2
    clear c2
    obtain rfl := Option.some.inj H
    simp only [Option.some.injEq, Prod.mk.injEq] at H
    obtain ⟨rfl⟩ := H
    go_enter Tryd.func11, Tryd.ntmps11
    go_wp2_with (first | ((with_reducible refine gate_dst (N := 1) rfl ?_); refine box_event ?hg (N := 1) ?hd (cs := #[.int .i64 a0_0, .int .i64 a0_1]) (t := 23) ?hr ?_; (case hd => rfl); (case hg => rfl); (case hr => first | (go_simp; done) | (go_simp; rfl)); intro gb191 hg w12 hbox hb; have n0_ := Aside0.mk (below_step (by repeat (first | (with_reducible first | exact HB.out | apply below_alloc | apply pw_below_drewN | apply below_drew1) | exact HB.out)) hb); have n1_ := Aside0.mk (hbox); have n2_ := Aside0.mk ((by rw [hg]; exact (below_size (by repeat (first | (with_reducible first | exact HB.out | apply below_alloc | apply pw_below_drewN | apply below_drew1) | exact HB.out))) : w.heap.size ≤ gb191)); have n3_ := Aside0.mk ((by rw [hg]; exact (below_size (by repeat (first | (with_reducible first | exact HB.out | apply below_alloc | apply pw_below_drewN | apply below_drew1) | exact HB.out))) : w.heap.size ≤ gb191)); clear HB; have HB := n0_; have BK191 := n1_; have GW191 := n2_; have GE191 := n3_; clear n0_ n1_ n2_ n3_; clear hb hbox hg; have hcz13_0 : w12.cell? ⟨gb191, 0, none⟩ = some (.int .i64 a0_0) := (blk_cell BK191.out 0).trans rfl; have hcz13_1 : w12.cell? ⟨gb191, 1, none⟩ = some (.int .i64 a0_1) := (blk_cell BK191.out 1).trans rfl; have hfz13_0 := blk_frozen BK191.out 0; have hfz13_1 := blk_frozen BK191.out 1))
    go_ret
    exact ⟨by first | rfl | (simp [errW_none, errW_some] <;> rfl) | (simp [*, errW_none, errW_some] <;> rfl), by repeat (first | (with_reducible first | exact HB.out | apply below_alloc | apply pw_below_drewN | apply below_drew1 | refine below_set ?_ GE191.out) | exact HB.out)⟩

-- NOT PRINTED: function 59 (slices_Grow_string_string)

/-! ### slices_Concat_string_string: function 45 -/
set_option maxHeartbeats 4000000 in
set_option maxRecDepth 100000 in
/-- slices.Grow(nil, n). -/
theorem slices_Grow_nil (n : Int) (h0 : 0 ≤ n) (hn : n < 8796093022208) (w : World) :
    Calls Tryd.prog 59 #[.slice none 0 0, .int .i64 n] w fun e w' => ∃ v0_ : Value, e = .returned v0_ ∧ Kd.R Kd.string 9 w' w.heap.size (fun _ => True) v0_ [] ∧ Below w.heap.size w w' := by
  have i1 : ¬ n < 0 := by omega
  have i2 : decide (n < 0) = false := decide_eq_false i1
  have hw : wrap64 n = n := by unfold wrap64; omega
  obtain ⟨i0, hi0, hzz⟩ := Option.map_eq_some_iff.1 info9
  have hcut0 := cut_to (P := Tryd.prog) 29 9 .i64 Tryd.underlying29 hi0 none 0 0 0 (by omega) (by omega) (by omega)
  have hbt : (Tryd.t9.bytes : Int) = 16 := by kernel_rfl
  have hng : ¬ (281474976710656 < n * 16) := by omega
  have hng2 : ¬ (281474976710656 < n * (Tryd.t9.bytes : Int)) := by rw [hbt]; omega
  have hng3 : ¬ 281474976710656 < Builtin.nextslicecap n.toNat 0 * Tryd.t9.bytes := by
    have hb : Tryd.t9.bytes = 16 := by kernel_rfl
    have : Builtin.nextslicecap n.toNat 0 ≤ n.toNat + 0 := by
      unfold Builtin.nextslicecap
      repeat' split
      all_goals omega
    rw [hb]; omega
  by_cases c : 0 < n
  · have LM := Aside0.mk hn
    have LZ := Aside0.mk h0
    clear hn
    go_enter Tryd.func59, Tryd.ntmps59
    go_wp2_with fail
    go_ret
    refine ⟨_, rfl, ?_, ?_⟩
    · have g1 := grownCap_ge w n.toNat 0 9
      have g2 := grownCap_le_maxLen w n.toNat 0 9 (by unfold maxLen; have := LM.out; omega)
      refine Kd.R_of_own (xs := []) (h1 := fun _ => rfl) ⟨rfl, .inr ⟨w.heap.size, _, _, rfl, Nat.le_refl _, heap_alloc_new w _, Nat.zero_le _, g2, ?_, rfl⟩⟩ (fun _ _ => trivial)
      unfold grownCap at g1
      rw [Array.size_append, size_zeroCells, size_zeroCells]
      simp
      omega
    · exact ((Below.refl _ _).alloc (Nat.le_refl _) _).drew
  · obtain rfl : n = 0 := by omega
    have c2 : decide ((0 : Int) < 0) = false := rfl
    go_enter Tryd.func59, Tryd.ntmps59
    go_wp2_with fail
    go_ret
    exact ⟨_, rfl, Kd.R_nil _ _ _ _ _, Below.refl _ _⟩
def slices_Concat_string_string.f (a0 : List (List ByteArray)) : Option (List ByteArray) := if a0.flatten.length < 8796093022208 then some a0.flatten else none
theorem flat_step (l : List (List ByteArray)) (i : Nat) (h : i < l.length) : (l.take (i + 1)).flatten = (l.take i).flatten ++ l.getD i [] := by
  rw [List.take_succ_eq_append_getElem h, List.flatten_append, List.getD_eq_getElem?_getD, List.getElem?_eq_getElem h]
  simp
theorem flat_le (l : List (List ByteArray)) (i : Nat) : (l.take i).flatten.length ≤ l.flatten.length := by
  conv => rhs; rw [← List.take_append_drop i l, List.flatten_append, List.length_append]
  omega
set_option maxHeartbeats 8000000 in
set_option maxRecDepth 100000 in
theorem slices_Concat_string_string.calls (A0 : Option Addr) (c0 : Nat) (l0 : List (List ByteArray)) (r : List ByteArray) (w : World) (hr0 : Kd.C (Kd.slice 9 Kd.string) w A0 l0.length l0) (hc0 : l0.length ≤ c0) (h : slices_Concat_string_string.f l0 = some r) :
    Calls Tryd.prog 45 #[.slice A0 l0.length c0] w fun e w' => ∃ v0_ : Value, e = .returned (v0_) ∧ Kd.R Kd.string 9 w' w.heap.size (fun _ => True) v0_ r ∧ Below w.heap.size w w' := by
  have hl : l0.flatten.length < 8796093022208 := by
    by_cases c : l0.flatten.length < 8796093022208
    · exact c
    · rw [slices_Concat_string_string.f, if_neg c] at h; cases h
  obtain rfl : l0.flatten = r := by rw [slices_Concat_string_string.f, if_pos hl] at h; exact Option.some.inj h
  clear h
  have hlen : l0.length ≤ 9223372036854775807 := hr0.2.1
  have HL := Aside0.mk hl
  clear hl
  have HC := Aside0.mk hr0
  clear hr0
  -- an element: a slice of strings
  have elem : ∀ (i : Nat), i < l0.length → ∃ ad A1 c1, A0 = some ad ∧ w.cell? (ad.add i) = some (.slice A1 (l0.getD i []).length c1) ∧ (l0.getD i []).length ≤ c1 ∧ Kd.string.C w A1 (l0.getD i []).length (l0.getD i []) := by
    intro i hi
    obtain ⟨ad, c, hA, _, hK, hx⟩ := Kd.C_get HC.out [] (i : Int) (by omega) (by omega)
    rw [Int.toNat_natCast] at hK hx
    obtain ⟨A1, c1, hc, hle, hC1⟩ := hK
    have := hx 0 _ (by rw [hc]; rfl)
    exact ⟨ad, A1, c1, hA, by simpa [Kd.slice] using this, hle, hC1⟩
  have EL := Aside0.mk elem
  clear elem
  go_enter Tryd.func45, Tryd.ntmps45
  go_wp2
  go_loopg [3, 11] l0.length (fun g s3 s11 wx => ∃ i : Nat, i + g = l0.length ∧ s3 = .int .i64 (((l0.take i).flatten.length : Nat) : Int) ∧ s11 = .int .i64 (i : Int) ∧ w = wx)
  case atStart => exact ⟨0, by omega, by simp, rfl, rfl⟩
  case round =>
    obtain ⟨i, hig, rfl, rfl, rfl⟩ := hrel
    cases gk with
    | zero =>
      obtain rfl : i = l0.length := by omega
      have hlt : ¬ ((l0.length : Int) < (l0.length : Int)) := by omega
      rw [List.take_length]
      generalize hS : l0.flatten.length = S
      have hG := Aside0.mk (slices_Grow_nil (S : Int) (by omega) (by have := HL.out; omega))
      go_wp2_with (go_at_call 59; refine (hG.out _).mono ?_; rintro e w1 ⟨v1, rfl, hR1, hB1⟩; have HR1 := Aside0.mk hR1; have HB1 := Aside0.mk hB1; clear hR1 hB1)
      go_loopg [6, 27] l0.length (fun g s6 s27 wx => ∃ (i : Nat) (v : Value), i + g = l0.length ∧ s27 = .int .i64 (i : Int) ∧ s6 = v ∧ Aside0 (Kd.R Kd.string 9 wx w.heap.size (fun _ => True) v (l0.take i).flatten) ∧ Aside0 (Below w.heap.size w wx))
      case atStart => exact ⟨0, v1, by omega, rfl, rfl, HR1, HB1⟩
      case round =>
        clear HR1 HB1
        obtain ⟨i, v, hig2, rfl, rfl, HR2, HB2⟩ := hrel
        cases gk with
        | zero =>
          obtain rfl : i = l0.length := by omega
          go_wp2
          go_ret
          exact ⟨_, rfl, by have := HR2.out; rw [List.take_length] at this; exact this, HB2.out⟩
        | succ g =>
          have hi : i < l0.length := by omega
          obtain ⟨ad, A1, c1, rfl, hcell0, hle, hC1⟩ := EL.out i hi
          have hstep := flat_step l0 i hi
          have hS1 := flat_le l0 (i + 1)
          have hlt : (i : Int) < (l0.length : Int) := by omega
          have hcell := (HB2.out.cell (World.block_lt_of_cell? w _ hcell0)).trans hcell0
          have HC1 := Aside0.mk (Kd.C_below hC1 HB2.out)
          rw [hstep, List.length_append] at hS1
          have HS1 := Aside0.mk hS1
          have HST := Aside0.mk hstep
          clear hcell0 hC1 hS1 hstep
          generalize (l0.getD i []) = x at hcell hle HC1 HS1 HST
          generalize hT : (l0.take i).flatten = T at HR2 HS1 HST
          go_wp2_with ((with_reducible refine gate_builtin (b := .append) (xs := #[.tmp 31, .tmp 32]) rfl ?_); at_builtin; refine Kd.R_append_rows Kd.string (w0 := w) w.heap.size rfl (.tmp 31) (.tmp 32) 29 9 (.string ⟨#[]⟩) 16 rfl Tryd.underlying29 info9 rfl (by decide) (by omega) _ T x _ _ _ (fun _ => True) (fun _ => False) rfl rfl ?aO ?aR (fun _ _ h => h) (fun _ h => h.elim) ?aF ?aB ?aS ?aL ?_; (case aR => exact HC1.out); (case aB => exact HB2.out); (case aF => exact (fun _ _ => trivial)); (case aO => exact HR2.out); (case aS => exact HB2.out.size); (case aL => have h1_ := HL.out; have h2_ := HS1.out; omega); intro v2 w2 ho hb hg hat; have HO2 := Aside0.mk ho; have HB3 := Aside0.mk hb; clear ho hb hg hat)
          go_roundg g
          case measure => omega
          case rel => exact ⟨i + 1, v2, by omega, rfl, rfl, ⟨by rw [HST.out]; exact HO2.out⟩, HB3⟩
    | succ g =>
      have hi : i < l0.length := by omega
      obtain ⟨ad, A1, c1, rfl, hcell, hle, hC1⟩ := EL.out i hi
      have hstep := flat_step l0 i hi
      have hS := flat_le l0 i
      have hS1 := flat_le l0 (i + 1)
      have hsum : ((l0.take (i + 1)).flatten.length : Int) = ((l0.take i).flatten.length : Int) + ((l0.getD i []).length : Int) := by rw [hstep, List.length_append]; omega
      have hlt : (i : Int) < (l0.length : Int) := by omega
      generalize (l0.getD i []) = x at hcell hle hC1 hsum
      generalize hT : (l0.take i).flatten.length = T at hS hsum
      have hneg : ¬ ((T : Int) + (x.length : Int) < 0) := by omega
      have hw : wrap64 ((T : Int) + (x.length : Int)) = (T : Int) + (x.length : Int) := by have := HL.out; unfold wrap64; omega
      clear hstep hS hS1 hC1
      go_wp2
      go_roundg g
      case measure => clear hw; omega
      case rel => exact ⟨i + 1, by clear hw; omega, by rw [hsum], rfl, rfl⟩

end Go.Proofs.YtapfpdjcbeiibaaDoor.PAll
