-- Made by a program of this session (wip/gen)
import Derived.Test.YtdifpehainbkmaaDoorPAllx0
import Derived.Test.YtdifpehainbkmaaDoorPAllx2
import Derived.Test.YtdifpehainbkmaaDoorPAllx8
namespace Go.Proofs.YtdifpehainbkmaaDoor.PAll
open Go.RowKit Go.Proofs.YtdifpehainbkmaaDoorW.PrintWords Go.Proofs.YtdifpehainbkmaaDoorW.PrintLast Go.Proofs.YtdifpehainbkmaaDoorW.PrintMore
attribute [local go_sem] max2_int min2_int max_two min_two max_three min_three max_four min_four   -- for this text's walks alone
set_option linter.unusedVariables false
set_option linter.unusedSimpArgs false

/-! ### label_Cut: function 18 -/
def label_Cut.f (a0 : ByteArray) (a1 : Int) : Option (ByteArray) := if a0.size ≤ 140737488351232 ∧ a1 ≤ 9223372036854775807 then (label_Right.f a0).bind fun r => if r = true then some (Go.Proofs.YtdifpehainbkmaaDoor.Lab.cutS a0 a0.size 0 a1) else some ByteArray.empty else none
set_option maxHeartbeats 8000000 in
set_option maxRecDepth 100000 in
theorem label_Cut.calls (a0 : ByteArray) (a1 : Int) (r : ByteArray) (w : World) (hT : Tabs w) (h : label_Cut.f a0 a1 = some r) :
    Calls Tryd.prog 18 #[.string a0, .int .i64 a1] w fun e w' => e = .returned (.string r) ∧ Below w.heap.size w w' := by
  have hc : a0.size ≤ 140737488351232 ∧ a1 ≤ 9223372036854775807 := by
    by_cases c : a0.size ≤ 140737488351232 ∧ a1 ≤ 9223372036854775807
    · exact c
    · rw [label_Cut.f, if_neg c] at h; cases h
  rw [label_Cut.f, if_pos hc] at h
  obtain ⟨hsz, h1⟩ := hc
  cases hR : label_Right.f a0 with
  | none => rw [hR] at h; cases h
  | some b =>
    rw [hR] at h
    simp only [Option.bind_some] at h
    have HC := label_Right.calls a0 b w hT hR
    clear hR hT
    cases b
    · rw [if_neg (by decide)] at h
      obtain rfl := Option.some.inj h
      clear h
      go_enter Tryd.func18, Tryd.ntmps18
      go_wp2_with (go_at_call 15; refine HC.mono ?_; rintro e w1 ⟨rfl, hb1⟩)
      go_ret
      exact ⟨rfl, hb1⟩
    · rw [if_pos rfl] at h
      have hA := Option.some.inj h
      clear h
      have HH := Aside0.mk h1
      clear h1
      go_enter Tryd.func18, Tryd.ntmps18
      go_wp2_with (go_at_call 15; refine HC.mono ?_; rintro e w1 ⟨rfl, hb1⟩)
      have HB1 := Aside0.mk hb1
      clear hb1 HC
      go_loopg [1] a0.size (fun g s1 wx => ∃ (v : World) (pos : Nat) (m : Int), wx = v.iter a0 pos ∧ v.heap.size = w1.heap.size ∧ Below w1.heap.size w1 v ∧ s1 = .int .i64 m ∧ m ≤ 9223372036854775807 ∧ a0.size ≤ pos + g ∧ Go.Proofs.YtdifpehainbkmaaDoor.Lab.cutS a0 g pos m = r)
      case atStart => exact ⟨w1, 0, a1, rfl, rfl, Below.refl _ _, rfl, HH.out, by omega, hA⟩
      case round =>
        obtain ⟨v, pos, m, rfl, hv, hbv, rfl, hm, hpg, hsc⟩ := hrel
        clear hA
        have Hbv := Aside0.mk hbv
        clear hbv
        have Hb2 := Aside0.mk (show Below w.heap.size w (v.iter a0 pos) from below_step HB1.out (show Below w1.heap.size w1 (v.iter a0 pos) from Hbv.out.alloc (Nat.le_of_eq hv.symm) _))
        by_cases hp : pos < a0.size
        · obtain ⟨g', rfl⟩ : ∃ g', gk = g' + 1 := ⟨gk - 1, by omega⟩
          rw [Go.Proofs.YtdifpehainbkmaaDoor.Lab.cutS_step a0 g' pos m hp] at hsc
          have hnx := fun ty => run_next_any (P := Tryd.prog) v a0 pos ty hp
          rw [hv] at hnx
          have hw1 := Lib.width_pos a0 pos
          generalize Utf8.decode a0 pos = d at hsc hnx hw1
          obtain ⟨c, wd⟩ := d
          simp only at hsc hnx hw1
          by_cases hm0 : m ≤ 0
          · rw [if_pos hm0] at hsc
            have HM := Aside0.mk hm
            clear hm
            go_wp2_with fail
            go_ret
            have Hb3 := (show Below w.heap.size w (v.iter a0 (pos + wd)) from below_step HB1.out (show Below w1.heap.size w1 (v.iter a0 (pos + wd)) from Hbv.out.alloc (Nat.le_of_eq hv.symm) _))
            subst hsc
            exact ⟨rfl, Hb3⟩
          · rw [if_neg hm0] at hsc
            have hwr : IntKind.i64.wrap (m - 1) = m - 1 := by rw [IntKind.wrap_i64]; omega
            have HM := Aside0.mk hm
            clear hm
            go_wp2_with fail
            go_roundg g'
            case measure => omega
            case rel => exact ⟨v, pos + wd, m - 1, rfl, hv, Hbv.out, congrArg (Value.int .i64) (by omega), by have := HM.out; omega, by omega, hsc⟩
        · have hnx := fun ty => run_next_end (P := Tryd.prog) v a0 pos ty hp
          rw [hv] at hnx
          rw [Go.Proofs.YtdifpehainbkmaaDoor.Lab.cutS_end a0 gk pos m hp] at hsc
          subst hsc
          clear hm hpg hp
          go_wp2_with fail
          go_ret
          exact ⟨rfl, Hb2.out⟩

/-! ### packhorseref01_Cut: function 19 -/
def packhorseref01_Cut.l0 : Nat → Int → ByteArray → List ByteArray → Int → Int → Option (ByteArray)
  | 0, _, _, _, _, _ => none
  | k + 1, x1, x5, x9, x10, x11 => if x11 < x10 then (if 0 ≤ x11 then (if x11 < (x9.length : Int) then (if x11 < x1 then (if x5.size + (rdOf ByteArray.empty x9 x11).size ≤ 9223372036854775807 then (packhorseref01_Cut.l0 k x1 (x5 ++ (rdOf ByteArray.empty x9 x11)) x9 x10 (wrap64 (x11 + 1))) else (none)) else (packhorseref01_Cut.l0 k x1 x5 x9 x10 (wrap64 (x11 + 1)))) else (none)) else (none)) else (some x5)
def packhorseref01_Cut.f (k : Nat) (a0 : ByteArray) (a1 : Int) : Option (ByteArray) := (packhorseref01_Signs.f k a0).bind fun t145 => (packhorseref01_Cut.l0 k a1 (⟨#[]⟩ : ByteArray) t145 (t145.length : Int) 0)
theorem packhorseref01_Cut.mono_l : ∀ k, (∀ y0 y1 y2 y3 y4, LeO (packhorseref01_Cut.l0 k y0 y1 y2 y3 y4) (packhorseref01_Cut.l0 (k + 1) y0 y1 y2 y3 y4))
  | 0 => fun _ _ _ _ _ r h => by simp [packhorseref01_Cut.l0] at h
  | k + 1 => by
    have ih0 := packhorseref01_Cut.mono_l k
    · intro y0 y1 y2 y3 y4
      unfold packhorseref01_Cut.l0
      repeat' first
      | (with_reducible exact ih0 _ _ _ _ _)
      | (with_reducible exact packhorseref01_Signs.mono _ _)
      | (with_reducible exact LeO.refl _)
      | (with_reducible exact LeO.none _)
      | (with_reducible refine LeO.ite ?_ ?_)
      | (with_reducible refine LeO.bind ?_ (fun _ => ?_))
      | exact ih0 _ _ _ _ _
      | exact packhorseref01_Signs.mono _ _
      | exact LeO.none _
      | refine LeO.ite ?_ ?_
      | refine LeO.bind ?_ (fun _ => ?_)
theorem packhorseref01_Cut.mono : ∀ a0 a1 k, LeO (packhorseref01_Cut.f k a0 a1) (packhorseref01_Cut.f (k + 1) a0 a1) := by
  intro a0 a1 k
  have ih0 := packhorseref01_Cut.mono_l k
  unfold packhorseref01_Cut.f
  repeat' first
      | (with_reducible exact ih0 _ _ _ _ _)
      | (with_reducible exact packhorseref01_Signs.mono _ _)
      | (with_reducible exact LeO.refl _)
      | (with_reducible exact LeO.none _)
      | (with_reducible refine LeO.ite ?_ ?_)
      | (with_reducible refine LeO.bind ?_ (fun _ => ?_))
      | exact ih0 _ _ _ _ _
      | exact packhorseref01_Signs.mono _ _
      | exact LeO.none _
      | refine LeO.ite ?_ ?_
      | refine LeO.bind ?_ (fun _ => ?_)
set_option maxHeartbeats 8000000 in
set_option maxRecDepth 100000 in
theorem packhorseref01_Cut.calls (k : Nat) (a0 : ByteArray) (a1 : Int) (r : ByteArray) (w : World) (h : packhorseref01_Cut.f k a0 a1 = some r) :
    Calls Tryd.prog 19 #[.string a0, .int .i64 a1] w fun e w' => e = .returned (.string r) ∧ Below w.heap.size w w' := by
  have HB := Aside0.mk (Below.refl w.heap.size w)
  have H : ((packhorseref01_Signs.f k a0).bind fun t145 => (packhorseref01_Cut.l0 k a1 (⟨#[]⟩ : ByteArray) t145 (t145.length : Int) 0)) = some r := h
  clear h
  replace H := Option.bind_eq_some_iff.mp H
  obtain ⟨t145, A30, H⟩ := H
  replace H : (packhorseref01_Cut.l0 k a1 (⟨#[]⟩ : ByteArray) t145 (t145.length : Int) 0) = some r := H
  have A3 := Aside0.mk A30
  clear A30
  have H' := Aside0.mk H
  clear H
  go_enter Tryd.func19, Tryd.ntmps19
  go_wp2_with (first | ((with_reducible refine gate_callee (f := 12) rfl ?_); refine goesL_ (some 9) rfl rfl Tryd.func12 (by kernel_rfl) rfl #[.string a0] rfl (by (try simp only [List.map_toArray, List.map_cons, List.map_nil]); first | done | rfl | (simp only [List.length_drop, List.length_take]; rfl)) ?_; (with_reducible refine (packhorseref01_Signs.calls k a0 t145 _ A3.out).mono ?_); rintro e w4 ⟨v146, rfl, ho0, hb⟩; refine ⟨_, rfl, ?_⟩; have n0_ := Aside0.mk (Kd.R_lower ho0 (below_size (by repeat (first | (with_reducible first | exact HB.out | apply below_alloc | apply pw_below_drewN | apply below_drew1) | exact HB.out)))); have n1_ := Aside0.mk (below_step (by repeat (first | (with_reducible first | exact HB.out | apply below_alloc | apply pw_below_drewN | apply below_drew1) | exact HB.out)) hb); clear HB; have HO147 := n0_; have HB := n1_; clear n0_ n1_; (try clear hb); (try clear hb2); (try clear hk); (try clear hi); (try clear ho0); obtain ⟨Ao5, co5, eo5⟩ := Kd.R_slice HO147.out; subst eo5))
  go_loopg [5, 11] k (fun kq v5 v11 w' => ∃ (x5_1 : ByteArray) (x11_1 : Int), v5 = .string x5_1 ∧ v11 = .int .i64 x11_1 ∧ Aside0 (packhorseref01_Cut.l0 kq a1 x5_1 t145 (t145.length : Int) x11_1 = some r) ∧ Aside0 (kq ≤ k) ∧ Aside0 (Kd.R Kd.string 9 w' w.heap.size (fun _ => True) (.slice Ao5 t145.length co5) t145) ∧ Aside0 (Below w.heap.size w w'))
  case atStart => exact ⟨((⟨#[]⟩ : ByteArray)), (0), (by first | rfl | (simp; done) | (simp [*]; done)), (by first | rfl | (simp; done) | (simp [*]; done)), H', ⟨Nat.le_refl _⟩, ⟨by (with_reducible repeat (first | apply Kd.R_alloc | apply Kd.R_drewN | apply Kd.R_drew)); exact HO147.out⟩, ⟨by repeat (first | (with_reducible first | exact HB.out | apply below_alloc | apply pw_below_drewN | apply below_drew1) | exact HB.out)⟩⟩
  case round =>
    clear H'
    try clear c1
    try clear p2
    obtain ⟨x5_1, x11_1, rfl, rfl, HA, HK1, HO_9, HB⟩ := hrel
    cases gk with
    | zero => exact absurd HA.out (by simp [packhorseref01_Cut.l0])
    | succ k1 =>
      have H := HA.out
      clear HA
      simp only [packhorseref01_Cut.l0] at H
      by_cases c6 : x11_1 < (t145.length : Int)
      · rw [if_pos c6] at H
        have c6b0 : decide (x11_1 < (t145.length : Int)) = true := decide_eq_true c6
        clear c6
        by_cases c7 : 0 ≤ x11_1
        · rw [if_pos c7] at H
          have c7b0 : decide (0 ≤ x11_1) = true := decide_eq_true c7
          clear c7
          by_cases c8 : x11_1 < (t145.length : Int)
          · rw [if_pos c8] at H
            have c8b0 : decide (x11_1 < (t145.length : Int)) = true := decide_eq_true c8
            clear c8
            by_cases c9 : x11_1 < a1
            · rw [if_pos c9] at H
              have c9b0 : decide (x11_1 < a1) = true := decide_eq_true c9
              clear c9
              by_cases c10 : x5_1.size + (rdOf ByteArray.empty t145 x11_1).size ≤ 9223372036854775807
              · rw [if_pos c10] at H
                have c10b0 := eq_true c10
                have c10b1 : decide (x5_1.size + (rdOf ByteArray.empty t145 x11_1).size ≤ 9223372036854775807) = true := decide_eq_true c10
                try have c10b2 : (9223372036854775807 < x5_1.size + (rdOf ByteArray.empty t145 x11_1).size) = False := eq_false (Nat.not_lt.2 c10)
                have H' := Aside0.mk H
                clear H
                have p148 : 0 ≤ (x11_1 : Int) := of_decide_eq_true (by first | (with_reducible assumption) | assumption)
                have q148 : x11_1 < (t145.length : Int) := of_decide_eq_true (by first | (with_reducible assumption) | assumption)
                obtain ⟨ad148, e148, hx148_0⟩ := Kd.at_string (Kd.R_reads' HO_9.out).2.2 x11_1 p148 q148
                cases e148
                replace p148 := eq_true p148
                replace q148 := eq_true q148
                go_wp2
                go_roundg k1
                case measure => have := HK1.out; omega
                case rel => exact ⟨(x5_1 ++ (rdOf ByteArray.empty t145 x11_1)), (wrap64 (x11_1 + 1)), (by first | rfl | (simp; done) | (simp [*]; done)), (by first | rfl | (simp; done) | (simp [*]; done)), H', ⟨by have := HK1.out; omega⟩, ⟨by (with_reducible repeat (first | apply Kd.R_alloc | apply Kd.R_drewN | apply Kd.R_drew)); exact HO_9.out⟩, ⟨by repeat (first | (with_reducible first | exact HB.out | apply below_alloc | apply pw_below_drewN | apply below_drew1) | exact HB.out)⟩⟩
              · rw [if_neg c10] at H
                exact absurd H (by simp)
            · rw [if_neg c9] at H
              have c9b0 : decide (x11_1 < a1) = false := decide_eq_false c9
              clear c9
              have H' := Aside0.mk H
              clear H
              have p148 : 0 ≤ (x11_1 : Int) := of_decide_eq_true (by first | (with_reducible assumption) | assumption)
              have q148 : x11_1 < (t145.length : Int) := of_decide_eq_true (by first | (with_reducible assumption) | assumption)
              obtain ⟨ad148, e148, hx148_0⟩ := Kd.at_string (Kd.R_reads' HO_9.out).2.2 x11_1 p148 q148
              cases e148
              replace p148 := eq_true p148
              replace q148 := eq_true q148
              go_wp2
              go_roundg k1
              case measure => have := HK1.out; omega
              case rel => exact ⟨(x5_1), (wrap64 (x11_1 + 1)), (by first | rfl | (simp; done) | (simp [*]; done)), (by first | rfl | (simp; done) | (simp [*]; done)), H', ⟨by have := HK1.out; omega⟩, ⟨by (with_reducible repeat (first | apply Kd.R_alloc | apply Kd.R_drewN | apply Kd.R_drew)); exact HO_9.out⟩, ⟨by repeat (first | (with_reducible first | exact HB.out | apply below_alloc | apply pw_below_drewN | apply below_drew1) | exact HB.out)⟩⟩
          · rw [if_neg c8] at H
            exact absurd H (by simp)
        · rw [if_neg c7] at H
          exact absurd H (by simp)
      · rw [if_neg c6] at H
        have c6b0 : decide (x11_1 < (t145.length : Int)) = false := decide_eq_false c6
        clear c6
        obtain rfl := Option.some.inj H
        simp only [Option.some.injEq, Prod.mk.injEq] at H
        obtain ⟨rfl⟩ := H
        go_wp2
        go_ret
        exact ⟨by first | rfl | (simp [errW_none, errW_some] <;> rfl) | (simp [*, errW_none, errW_some] <;> rfl), by repeat (first | (with_reducible first | exact HB.out | apply below_alloc | apply pw_below_drewN | apply below_drew1) | exact HB.out)⟩

end Go.Proofs.YtdifpehainbkmaaDoor.PAll
