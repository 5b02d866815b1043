-- Made by a program of this session (wip/gen)
import Derived.Test.YtapfpdjcbeiibaaDoorPAllx0
import Derived.Test.YtapfpdjcbeiibaaDoorPAllx1
import Derived.Test.YtapfpdjcbeiibaaDoorPAllx4
namespace Go.Proofs.YtapfpdjcbeiibaaDoor.PAll
open Go.RowKit Go.Proofs.YtapfpdjcbeiibaaDoorW.PrintWords Go.Proofs.YtapfpdjcbeiibaaDoorW.PrintLast Go.Proofs.YtapfpdjcbeiibaaDoorW.PrintMore
attribute [local go_sem] max2_int min2_int max_two min_two max_three min_three max_four min_four   -- for this text's walks alone
set_option linter.unusedVariables false
set_option linter.unusedSimpArgs false

/-! ### packhorselaw11_batchAlive: function 10 -/
def packhorselaw11_batchAlive.f (k : Nat)  : Option (Bool) := (packhorselaw11_empty.f).bind fun bt141 => ((batch_Join.f k bt141.1 bt141.2.1 bt141.2.2.1 bt141.2.2.2.1 bt141.2.2.2.2.1 bt141.2.2.2.2.2.1 bt141.2.2.2.2.2.2.1 bt141.2.2.2.2.2.2.2.1 bt141.2.2.2.2.2.2.2.2 2 100 (⟨#[97]⟩ : ByteArray) 10).bind fun bt152 => ((batch_Join.f k bt152.1 bt152.2.1 bt152.2.2.1 bt152.2.2.2.1 bt152.2.2.2.2.1 bt152.2.2.2.2.2.1 bt152.2.2.2.2.2.2.1 bt152.2.2.2.2.2.2.2.1 bt152.2.2.2.2.2.2.2.2.1 2 100 (⟨#[98]⟩ : ByteArray) 10).bind fun bt165 => ((batch_Join.f k bt165.1 bt165.2.1 bt165.2.2.1 bt165.2.2.2.1 bt165.2.2.2.2.1 bt165.2.2.2.2.2.1 bt165.2.2.2.2.2.2.1 bt165.2.2.2.2.2.2.2.1 bt165.2.2.2.2.2.2.2.2.1 2 100 (⟨#[100]⟩ : ByteArray) 10).bind fun bt178 => (if bt152.2.2.2.2.2.2.2.2.2 = 0 then (if bt165.2.2.2.2.2.2.2.2.2 = 0 then (if bt178.2.2.2.2.2.2.2.2.2 = 111 then (if (bt165.2.2.2.2.2.2.2.2.1.length : Int) = 2 then (if bt165.2.1 = 20 then (some ((bt152.2.2.2.2.2.2.2.2.1.length : Int) == 1)) else (some false)) else (some false)) else (some false)) else (some false)) else (some false)))))
theorem packhorselaw11_batchAlive.mono : ∀ k, LeO (packhorselaw11_batchAlive.f k ) (packhorselaw11_batchAlive.f (k + 1) ) := by
  intro  k
  unfold packhorselaw11_batchAlive.f
  repeat' first
      | (with_reducible exact batch_Join.mono _ _ _ _ _ _ _ _ _ _ _ _ _ _)
      | (with_reducible exact LeO.refl _)
      | (with_reducible exact LeO.none _)
      | (with_reducible refine LeO.ite ?_ ?_)
      | (with_reducible refine LeO.bind ?_ (fun _ => ?_))
      | exact batch_Join.mono _ _ _ _ _ _ _ _ _ _ _ _ _ _
      | exact LeO.none _
      | refine LeO.ite ?_ ?_
      | refine LeO.bind ?_ (fun _ => ?_)
def packhorselaw11_batchAlive.T2 : Bool × List (List Nat × List Nat) := (true, [([], []), ([], []), ([0, 1, 0], [0, 1]), ([2], [2]), ([3], [3]), ([3], [3]), ([], []), ([6, 4, 2, 0, 1, 2, 3, 4, 6], [4, 6]), ([5, 7, 0, 1, 2, 3, 4, 5, 6, 7], [5])])
def packhorselaw11_batchAlive.B2 : List Nat := [0, 0, 3, 7, 15, 15, 0, 95, 255]
theorem packhorselaw11_batchAlive.tab2 : rtab .any (opsOf Tryd.f10 2) = packhorselaw11_batchAlive.T2 := by kernel_rfl
theorem packhorselaw11_batchAlive.bits2 : waitsOk packhorselaw11_batchAlive.T2.2 packhorselaw11_batchAlive.B2 = true := by kernel_rfl
set_option maxHeartbeats 8000000 in
set_option maxRecDepth 100000 in
theorem packhorselaw11_batchAlive.calls (k : Nat)  (r : Bool) (w : World) (hT : Tabs w) (h : packhorselaw11_batchAlive.f k  = some r) (hr_ : r = true) :
    Calls Tryd.prog 10 #[] w fun e w' => e = .returned (.bool r) ∧ Below w.heap.size w w' := by
  have hu23 := Tryd.underlying23
  have hu31 := Tryd.underlying31
  have HRT := Aside0.mk hr_
  clear hr_
  have HT := Aside0.mk hT
  clear hT
  have HB := Aside0.mk (Below.refl w.heap.size w)
  have H : ((packhorselaw11_empty.f).bind fun bt141 => ((batch_Join.f k bt141.1 bt141.2.1 bt141.2.2.1 bt141.2.2.2.1 bt141.2.2.2.2.1 bt141.2.2.2.2.2.1 bt141.2.2.2.2.2.2.1 bt141.2.2.2.2.2.2.2.1 bt141.2.2.2.2.2.2.2.2 2 100 (⟨#[97]⟩ : ByteArray) 10).bind fun bt152 => ((batch_Join.f k bt152.1 bt152.2.1 bt152.2.2.1 bt152.2.2.2.1 bt152.2.2.2.2.1 bt152.2.2.2.2.2.1 bt152.2.2.2.2.2.2.1 bt152.2.2.2.2.2.2.2.1 bt152.2.2.2.2.2.2.2.2.1 2 100 (⟨#[98]⟩ : ByteArray) 10).bind fun bt165 => ((batch_Join.f k bt165.1 bt165.2.1 bt165.2.2.1 bt165.2.2.2.1 bt165.2.2.2.2.1 bt165.2.2.2.2.2.1 bt165.2.2.2.2.2.2.1 bt165.2.2.2.2.2.2.2.1 bt165.2.2.2.2.2.2.2.2.1 2 100 (⟨#[100]⟩ : ByteArray) 10).bind fun bt178 => (if bt152.2.2.2.2.2.2.2.2.2 = 0 then (if bt165.2.2.2.2.2.2.2.2.2 = 0 then (if bt178.2.2.2.2.2.2.2.2.2 = 111 then (if (bt165.2.2.2.2.2.2.2.2.1.length : Int) = 2 then (if bt165.2.1 = 20 then (some ((bt152.2.2.2.2.2.2.2.2.1.length : Int) == 1)) else (some false)) else (some false)) else (some false)) else (some false)) else (some false)))))) = some r := h
  clear h
  replace H := Option.bind_eq_some_iff.mp H
  obtain ⟨⟨t141, t142, t143, t144, t145, t146, t147, t148, t149⟩, A10, H⟩ := H
  replace H : ((batch_Join.f k t141 t142 t143 t144 t145 t146 t147 t148 t149 2 100 (⟨#[97]⟩ : ByteArray) 10).bind fun bt152 => ((batch_Join.f k bt152.1 bt152.2.1 bt152.2.2.1 bt152.2.2.2.1 bt152.2.2.2.2.1 bt152.2.2.2.2.2.1 bt152.2.2.2.2.2.2.1 bt152.2.2.2.2.2.2.2.1 bt152.2.2.2.2.2.2.2.2.1 2 100 (⟨#[98]⟩ : ByteArray) 10).bind fun bt165 => ((batch_Join.f k bt165.1 bt165.2.1 bt165.2.2.1 bt165.2.2.2.1 bt165.2.2.2.2.1 bt165.2.2.2.2.2.1 bt165.2.2.2.2.2.2.1 bt165.2.2.2.2.2.2.2.1 bt165.2.2.2.2.2.2.2.2.1 2 100 (⟨#[100]⟩ : ByteArray) 10).bind fun bt178 => (if bt152.2.2.2.2.2.2.2.2.2 = 0 then (if bt165.2.2.2.2.2.2.2.2.2 = 0 then (if bt178.2.2.2.2.2.2.2.2.2 = 111 then (if (bt165.2.2.2.2.2.2.2.2.1.length : Int) = 2 then (if bt165.2.1 = 20 then (some ((bt152.2.2.2.2.2.2.2.2.1.length : Int) == 1)) else (some false)) else (some false)) else (some false)) else (some false)) else (some false))))) = some r := H
  have A1 := Aside0.mk A10
  clear A10
  replace H := Option.bind_eq_some_iff.mp H
  obtain ⟨⟨t152, t153, t154, t155, t156, t157, t158, t159, t160, t163⟩, A20, H⟩ := H
  replace H : ((batch_Join.f k t152 t153 t154 t155 t156 t157 t158 t159 t160 2 100 (⟨#[98]⟩ : ByteArray) 10).bind fun bt165 => ((batch_Join.f k bt165.1 bt165.2.1 bt165.2.2.1 bt165.2.2.2.1 bt165.2.2.2.2.1 bt165.2.2.2.2.2.1 bt165.2.2.2.2.2.2.1 bt165.2.2.2.2.2.2.2.1 bt165.2.2.2.2.2.2.2.2.1 2 100 (⟨#[100]⟩ : ByteArray) 10).bind fun bt178 => (if t163 = 0 then (if bt165.2.2.2.2.2.2.2.2.2 = 0 then (if bt178.2.2.2.2.2.2.2.2.2 = 111 then (if (bt165.2.2.2.2.2.2.2.2.1.length : Int) = 2 then (if bt165.2.1 = 20 then (some ((t160.length : Int) == 1)) else (some false)) else (some false)) else (some false)) else (some false)) else (some false)))) = some r := H
  have A2 := Aside0.mk A20
  clear A20
  replace H := Option.bind_eq_some_iff.mp H
  obtain ⟨⟨t165, t166, t167, t168, t169, t170, t171, t172, t173, t176⟩, A30, H⟩ := H
  replace H : ((batch_Join.f k t165 t166 t167 t168 t169 t170 t171 t172 t173 2 100 (⟨#[100]⟩ : ByteArray) 10).bind fun bt178 => (if t163 = 0 then (if t176 = 0 then (if bt178.2.2.2.2.2.2.2.2.2 = 111 then (if (t173.length : Int) = 2 then (if t166 = 20 then (some ((t160.length : Int) == 1)) else (some false)) else (some false)) else (some false)) else (some false)) else (some false))) = some r := H
  have A3 := Aside0.mk A30
  clear A30
  replace H := Option.bind_eq_some_iff.mp H
  obtain ⟨⟨t178, t179, t180, t181, t182, t183, t184, t185, t186, t189⟩, A40, H⟩ := H
  replace H : (if t163 = 0 then (if t176 = 0 then (if t189 = 111 then (if (t173.length : Int) = 2 then (if t166 = 20 then (some ((t160.length : Int) == 1)) else (some false)) else (some false)) else (some false)) else (some false)) else (some false)) = some r := H
  have A4 := Aside0.mk A40
  clear A40
  by_cases c5 : t163 = 0
  · rw [if_pos c5] at H
    have c5b0 : (t163 == 0) = true := beq_iff_eq.mpr c5
    have c5b1 : (t163 != 0) = false := bne_eq_false_iff_eq.mpr c5
    clear c5
    by_cases c6 : t176 = 0
    · rw [if_pos c6] at H
      have c6b0 : (t176 == 0) = true := beq_iff_eq.mpr c6
      have c6b1 : (t176 != 0) = false := bne_eq_false_iff_eq.mpr c6
      clear c6
      by_cases c7 : t189 = 111
      · rw [if_pos c7] at H
        have c7b0 : (t189 == 111) = true := beq_iff_eq.mpr c7
        have c7b1 : (t189 != 111) = false := bne_eq_false_iff_eq.mpr c7
        clear c7
        by_cases c8 : (t173.length : Int) = 2
        · rw [if_pos c8] at H
          have c8b0 : ((t173.length : Int) == 2) = true := beq_iff_eq.mpr c8
          have c8b1 : ((t173.length : Int) != 2) = false := bne_eq_false_iff_eq.mpr c8
          clear c8
          by_cases c9 : t166 = 20
          · rw [if_pos c9] at H
            have c9b0 : (t166 == 20) = true := beq_iff_eq.mpr c9
            have c9b1 : (t166 != 20) = false := bne_eq_false_iff_eq.mpr c9
            clear c9
            obtain rfl := Option.some.inj H
            simp only [Option.some.injEq, Prod.mk.injEq] at H
            obtain ⟨rfl⟩ := H
            go_enter Tryd.func10, Tryd.ntmps10
            try go_wp2_with (first | ((with_reducible refine gate_dst (N := 1) rfl ?_); (try (refine gate_guard (by rfl) ?_; dsimp only)); refine box_event ?hg (N := 1) ?hd (cs := #[.int .i64 0, .int .i64 0]) (t := 23) ?hr ?_; (case hd => rfl); (case hg => rfl); (case hr => first | (go_simp; done) | (go_simp; rfl)); intro gb140 hg w10 hbox hb; have n0_ := Aside0.mk (below_step (by repeat (first | (with_reducible first | exact HB.out | apply below_alloc | apply pw_below_drewN | apply below_drew1) | exact HB.out)) hb); have n1_ := Aside0.mk (hbox); have n2_ := Aside0.mk ((by rw [hg]; exact (below_size (by repeat (first | (with_reducible first | exact HB.out | apply below_alloc | apply pw_below_drewN | apply below_drew1) | exact HB.out))) : w.heap.size ≤ gb140)); have n3_ := Aside0.mk ((by rw [hg]; exact (below_size (by repeat (first | (with_reducible first | exact HB.out | apply below_alloc | apply pw_below_drewN | apply below_drew1) | exact HB.out))) : w.heap.size ≤ gb140)); clear HB; have HB := n0_; have BK140 := n1_; have GW140 := n2_; have GE140 := n3_; clear n0_ n1_ n2_ n3_; clear hb hbox hg; have hcz11_0 : w10.cell? ⟨gb140, 0, none⟩ = some (.int .i64 0) := (blk_cell BK140.out 0).trans rfl; have hcz11_1 : w10.cell? ⟨gb140, 1, none⟩ = some (.int .i64 0) := (blk_cell BK140.out 1).trans rfl; have hfz11_0 := blk_frozen BK140.out 0; have hfz11_1 := blk_frozen BK140.out 1))
            have n0_ : Aside0 (((w10.setCell ⟨gb140, 0, none⟩ (.int .i64 2)).setCell ⟨gb140, 1, none⟩ (.int .i64 100)).heap[gb140]? = some (.cells #[.int .i64 2, .int .i64 100] 23 (0, 0))) := ⟨by (with_reducible repeat (first | refine blk_drewN ?_ _ | refine blk_drew ?_ | refine blk_alloc ?_ _)); refine blk_put (cs := #[.int .i64 2, .int .i64 0]) ?_ 1 _ rfl; (with_reducible repeat (first | refine blk_drewN ?_ _ | refine blk_drew ?_ | refine blk_alloc ?_ _)); refine blk_put (cs := #[.int .i64 0, .int .i64 0]) ?_ 0 _ rfl; (with_reducible repeat (first | refine blk_drewN ?_ _ | refine blk_drew ?_ | refine blk_alloc ?_ _)); exact BK140.out⟩
            have n1_ : Aside0 (Below w.heap.size w ((w10.setCell ⟨gb140, 0, none⟩ (.int .i64 2)).setCell ⟨gb140, 1, none⟩ (.int .i64 100))) := ⟨by repeat (first | (with_reducible first | exact HB.out | apply below_alloc | apply pw_below_drewN | apply below_drew1 | refine below_set ?_ GE140.out) | exact HB.out)⟩
            (try clear BK140)
            (try clear HB)
            generalize ((w10.setCell ⟨gb140, 0, none⟩ (.int .i64 2)).setCell ⟨gb140, 1, none⟩ (.int .i64 100)) = w12 at n0_ n1_ ⊢
            have BK140 := n0_
            have HB := n1_
            clear n0_ n1_
            have n0_ := Aside0.mk (blk_drew BK140.out)
            have n1_ := Aside0.mk (below_drew1 HB.out)
            clear BK140
            clear HB
            have BK140 := n0_
            have HB := n1_
            clear n0_ n1_
            refine start_ (n := 9) (S := fun w' => w'.cell? ⟨gb140, 0, none⟩ = some (.int .i64 2) ∧ w'.cell? ⟨gb140, 1, none⟩ = some (.int .i64 100)) (ds := []) #[false, false, false, false, false, false, false, false, false] (by kernel_rfl) rfl rfl ⟨(blk_cell BK140.out 0).trans rfl, (blk_cell BK140.out 1).trans rfl⟩ (fun hHeld => ?_); refine with_tabW packhorselaw11_batchAlive.tab2 packhorselaw11_batchAlive.bits2 (fun HT_ HW_ => ?_)
            generalize w12.drew = w13 at BK140 HB hHeld ⊢
            refine take_ (i := 1) (N := some 11) (v := ?_) (a' := ?_) #[false, true, false, false, false, false, false, false, false] rfl rfl (take_ofW HT_.out HW_.out (by kernel_rfl)) (fun _ _ _ h => h) (Or.inl ⟨by rfl, ?_⟩) hHeld ?_ ?_
            rotate_left
            · rintro w' ⟨s0, s1⟩
              go_simp
              with_reducible rfl
            rotate_left
            · simp only [Act.put, List.setIfInBounds_toArray, List.set_cons_zero, List.set_cons_succ, i64_w, i32_w]
              rfl
            refine join_ (σ := Value × Value × Nat) 2 #[true, true, true, true, true, true, true, false, false] (fun s_ => [(10, .agg #[.int .i64 t141, .int .i64 t142, .int .i64 t143, .int .i64 t144, .int .i64 t145, .string t146, .string t147, .string t148, s_.1]), (12, .tuple #[.agg #[.int .i64 t152, .int .i64 t153, .int .i64 t154, .int .i64 t155, .int .i64 t156, .string t157, .string t158, .string t159, s_.2.1], .int .i64 t163]), (2, .pointer (some ⟨s_.2.2, 0, none⟩)), (9, .tuple #[.agg #[.int .i64 t152, .int .i64 t153, .int .i64 t154, .int .i64 t155, .int .i64 t156, .string t157, .string t158, .string t159, s_.2.1], .int .i64 t163]), (13, .agg #[.int .i64 t152, .int .i64 t153, .int .i64 t154, .int .i64 t155, .int .i64 t156, .string t157, .string t158, .string t159, s_.2.1]), (14, .int .i64 t163)]) (fun s_ w' => (w'.cell? ⟨gb140, 0, none⟩ = some (.int .i64 2) ∧ w'.cell? ⟨gb140, 1, none⟩ = some (.int .i64 100)) ∧ (Kd.R Kd.string 9 w' w.heap.size (fun _ => True) s_.1 t149) ∧ (Kd.V Kd.string 9 w' w.heap.size (fun k_ => k_ ≠ gb140 ∧ k_ ≠ s_.2.2) s_.2.1 t160) ∧ (w'.heap[gb140]? = some (.cells #[.int .i64 2, .int .i64 100] 23 (0, 0))) ∧ (w'.heap[s_.2.2]? = some (.cells #[.int .i64 0, .int .i64 0, .int .i64 0, .int .i64 0, .int .i64 0, .string (⟨#[]⟩ : ByteArray), .string (⟨#[]⟩ : ByteArray), .string (⟨#[]⟩ : ByteArray), .slice none 0 0] 31 (0, 0))) ∧ (w.heap.size ≤ s_.2.2) ∧ (w.heap.size ≤ s_.2.2) ∧ (gb140 ≠ s_.2.2) ∧ (s_.2.2 ≠ gb140) ∧ (Below w.heap.size w w')) ?_ ?_
            rotate_left
            · intro hCont
              refine two_ (i := 0) (j := 6) (Ni := some 10) (Nj := some 2) #[true, true, false, false, false, false, false, false, false] #[false, true, false, false, false, false, true, false, false] rfl rfl rfl rfl (two_of HT_.out (by kernel_rfl)) (by decide) (by decide) (fun K hK => ?_) (fun K hK => ?_)
              · skip
                refine goes_ Tryd.func12 (by kernel_rfl) rfl #[] (by rfl) rfl rfl (by (try simp only [List.map_toArray, List.map_cons, List.map_nil]); first | done | rfl | (simp only [List.length_drop, List.length_take]; rfl)) ?_
                with_reducible refine (packhorselaw11_empty.calls  t141 t142 t143 t144 t145 t146 t147 t148 t149 _ A1.out).mono ?_
                rintro e w14 ⟨v150, rfl, ho0, hb⟩
                refine ⟨_, rfl, ?_⟩
                have n0_ := Aside0.mk (Kd.R_lower ho0 (below_size (by repeat (first | (with_reducible first | exact HB.out | apply below_alloc | apply pw_below_drewN | apply below_drew1 | refine below_set ?_ GE140.out) | exact HB.out))))
                have n1_ := Aside0.mk (blk_below (g := gb140) (o := .cells #[.int .i64 2, .int .i64 100] 23 (0, 0)) (by (with_reducible repeat (first | refine blk_drewN ?_ _ | refine blk_drew ?_ | refine blk_alloc ?_ _)); exact BK140.out) hb)
                have n2_ := Aside0.mk (below_step (by repeat (first | (with_reducible first | exact HB.out | apply below_alloc | apply pw_below_drewN | apply below_drew1 | refine below_set ?_ GE140.out) | exact HB.out)) hb)
                clear BK140
                clear HB
                have HO151 := n0_
                have BK140 := n1_
                have HB := n2_
                clear n0_ n1_ n2_
                (try clear hb)
                (try clear hb2)
                (try clear hk)
                (try clear hi)
                (try clear ho0)
                obtain ⟨Ao15, co15, eo15⟩ := Kd.R_slice HO151.out
                (first | subst eo15 | (injection eo15 with f1_ f2_ f3_; have f4_ := f1_.symm; have f5_ := f3_.symm; clear f1_ f2_ f3_; subst f4_; subst f5_))
                refine hK.out _ _ ⟨(blk_cell BK140.out 0).trans rfl, (blk_cell BK140.out 1).trans rfl⟩ (fun hHeld => ?_)
                clear hK K
                refine norm_ (a' := ?_) ?_ ?_
                rotate_left
                · show Act.put _ (some 10) _ = _
                  simp only [Act.put, List.setIfInBounds_toArray, List.set_cons_zero, List.set_cons_succ, i64_w, i32_w]
                  rfl
                refine two_ (i := 2) (j := 6) (Ni := some 12) (Nj := some 2) #[true, true, true, false, false, false, false, false, false] #[true, true, false, false, false, false, true, false, false] rfl rfl rfl rfl (two_of HT_.out (by kernel_rfl)) (by decide) (by decide) (fun K hK => ?_) (fun K hK => ?_)
                · skip
                  refine goes_ Tryd.func13 (by kernel_rfl) rfl #[.agg #[.int .i64 t141, .int .i64 t142, .int .i64 t143, .int .i64 t144, .int .i64 t145, .string t146, .string t147, .string t148, .slice Ao15 t149.length co15], .agg #[.int .i64 2, .int .i64 100], .string (⟨#[97]⟩ : ByteArray), .int .i64 10] (by rfl) rfl rfl (by (try simp only [List.map_toArray, List.map_cons, List.map_nil]); first | done | rfl | (simp only [List.length_drop, List.length_take]; rfl)) ?_
                  with_reducible refine (batch_Join.calls k t141 t142 t143 t144 t145 t146 t147 t148 (fun k_ => some k_ = (.slice Ao15 t149.length co15 : Value).ownBlock) _ _ t149 2 100 (⟨#[97]⟩ : ByteArray) 10 t152 t153 t154 t155 t156 t157 t158 t159 t160 t163 _ ?side1 ?side2 A2.out).mono ?_
                  (case side1 => exact Kd.R_V (Kd.R_tight rfl (Kd.R_types (HO151.out) BK140.out (by decide))))
                  (case side2 => exact Tabs.below HT.out (by repeat (first | (with_reducible first | exact HB.out | apply below_alloc | apply pw_below_drewN | apply below_drew1 | refine below_set ?_ GE140.out) | exact HB.out)))
                  rintro e w16 ⟨v161, rfl, ho0, hb⟩
                  refine ⟨_, rfl, ?_⟩
                  have n0_ := Aside0.mk (Kd.R_below (by (with_reducible repeat (first | apply Kd.R_alloc | apply Kd.R_drewN | apply Kd.R_drew)); exact HO151.out) hb)
                  have n1_ := Aside0.mk (Kd.V_lower (Kd.V_mono (ok' := fun k_ => k_ ≠ gb140) ho0 (fun k_ hk_ => Or.elim hk_ (fun hs_ => ((Kd.R_types (HO151.out) BK140.out (by decide)).1 k_ hs_.symm).2) (fun hn_ => (Kd.freshB (g := gb140) (o := .cells #[.int .i64 2, .int .i64 100] 23 (0, 0)) (by (with_reducible repeat (first | refine blk_drewN ?_ _ | refine blk_drew ?_ | refine blk_alloc ?_ _)); exact BK140.out) k_ hn_)))) (below_size (by repeat (first | (with_reducible first | exact HB.out | apply below_alloc | apply pw_below_drewN | apply below_drew1 | refine below_set ?_ GE140.out) | exact HB.out))))
                  have n2_ := Aside0.mk (blk_below (g := gb140) (o := .cells #[.int .i64 2, .int .i64 100] 23 (0, 0)) (by (with_reducible repeat (first | refine blk_drewN ?_ _ | refine blk_drew ?_ | refine blk_alloc ?_ _)); exact BK140.out) hb)
                  have n3_ := Aside0.mk (below_step (by repeat (first | (with_reducible first | exact HB.out | apply below_alloc | apply pw_below_drewN | apply below_drew1 | refine below_set ?_ GE140.out) | exact HB.out)) hb)
                  clear HO151
                  clear BK140
                  clear HB
                  have HO151 := n0_
                  have HO162 := n1_
                  have BK140 := n2_
                  have HB := n3_
                  clear n0_ n1_ n2_ n3_
                  (try clear hb)
                  (try clear hb2)
                  (try clear hk)
                  (try clear hi)
                  (try clear ho0)
                  refine hK.out _ _ ⟨(blk_cell BK140.out 0).trans rfl, (blk_cell BK140.out 1).trans rfl⟩ (fun hHeld => ?_)
                  clear hK K
                  refine norm_ (a' := ?_) ?_ ?_
                  rotate_left
                  · show Act.put _ (some 12) _ = _
                    simp only [Act.put, List.setIfInBounds_toArray, List.set_cons_zero, List.set_cons_succ, i64_w, i32_w]
                    rfl
                  refine pure_ (i := 3) (N := some 9) (v := ?_) (a' := ?_) #[true, true, true, true, false, false, false, false, false] rfl rfl (any_of HT_.out (by kernel_rfl)) (fun _ _ _ h => h) (Or.inl ⟨by rfl, ?_⟩) ?_ ?_
                  rotate_left
                  · intro w'
                    go_simp
                    with_reducible rfl
                  rotate_left
                  · simp only [Act.put, List.setIfInBounds_toArray, List.set_cons_zero, List.set_cons_succ, i64_w, i32_w]
                    rfl
                  refine pure_ (i := 4) (N := some 13) (v := ?_) (a' := ?_) #[true, true, true, true, true, false, false, false, false] rfl rfl (any_of HT_.out (by kernel_rfl)) (fun _ _ _ h => h) (Or.inl ⟨by rfl, ?_⟩) ?_ ?_
                  rotate_left
                  · intro w'
                    go_simp
                    with_reducible rfl
                  rotate_left
                  · simp only [Act.put, List.setIfInBounds_toArray, List.set_cons_zero, List.set_cons_succ, i64_w, i32_w]
                    rfl
                  refine pure_ (i := 5) (N := some 14) (v := ?_) (a' := ?_) #[true, true, true, true, true, true, false, false, false] rfl rfl (any_of HT_.out (by kernel_rfl)) (fun _ _ _ h => h) (Or.inl ⟨by rfl, ?_⟩) ?_ ?_
                  rotate_left
                  · intro w'
                    go_simp
                    with_reducible rfl
                  rotate_left
                  · simp only [Act.put, List.setIfInBounds_toArray, List.set_cons_zero, List.set_cons_succ, i64_w, i32_w]
                    rfl
                  refine one_ (i := 6) (N := some 2) #[true, true, true, true, true, true, true, false, false] rfl rfl (one_of HT_.out (by kernel_rfl)) (by decide) (fun K hK => ?_)
                  refine box_step ?hg (N := 2) ?hd (cs := #[.int .i64 0, .int .i64 0, .int .i64 0, .int .i64 0, .int .i64 0, .string (⟨#[]⟩ : ByteArray), .string (⟨#[]⟩ : ByteArray), .string (⟨#[]⟩ : ByteArray), .slice none 0 0]) (t := 31) ?hr ?_; (case hd => rfl); (case hg => rfl); (case hr => first | (go_simp; done) | (go_simp; rfl))
                  intro gb164 hg w17 hbox hb
                  have n0_ := Aside0.mk (Kd.R_below (by (with_reducible repeat (first | apply Kd.R_alloc | apply Kd.R_drewN | apply Kd.R_drew)); exact HO151.out) hb)
                  have n1_ := Aside0.mk (Kd.V_below (Kd.V_elderB (by (with_reducible repeat (first | apply Kd.V_alloc | apply Kd.V_drewN | apply Kd.V_drew)); exact HO162.out) gb164 (Nat.le_of_eq hg.symm)) hb)
                  have n2_ := Aside0.mk (blk_below (g := gb140) (o := .cells #[.int .i64 2, .int .i64 100] 23 (0, 0)) (by (with_reducible repeat (first | refine blk_drewN ?_ _ | refine blk_drew ?_ | refine blk_alloc ?_ _)); exact BK140.out) hb)
                  have n3_ := Aside0.mk (below_step (by repeat (first | (with_reducible first | exact HB.out | apply below_alloc | apply pw_below_drewN | apply below_drew1 | refine below_set ?_ GE140.out) | exact HB.out)) hb)
                  have n4_ := Aside0.mk (hbox)
                  have n5_ := Aside0.mk ((by rw [hg]; exact (below_size (by repeat (first | (with_reducible first | exact HB.out | apply below_alloc | apply pw_below_drewN | apply below_drew1 | refine below_set ?_ GE140.out) | exact HB.out))) : w.heap.size ≤ gb164))
                  have n6_ := Aside0.mk ((by rw [hg]; exact (below_size (by repeat (first | (with_reducible first | exact HB.out | apply below_alloc | apply pw_below_drewN | apply below_drew1 | refine below_set ?_ GE140.out) | exact HB.out))) : w.heap.size ≤ gb164))
                  have n7_ := Aside0.mk ((by rw [hg]; exact Nat.ne_of_lt (blk_lt (g := gb140) (o := .cells #[.int .i64 2, .int .i64 100] 23 (0, 0)) (by (with_reducible repeat (first | refine blk_drewN ?_ _ | refine blk_drew ?_ | refine blk_alloc ?_ _)); exact BK140.out)) : gb140 ≠ gb164))
                  have n8_ := Aside0.mk ((by rw [hg]; exact Nat.ne_of_gt (blk_lt (g := gb140) (o := .cells #[.int .i64 2, .int .i64 100] 23 (0, 0)) (by (with_reducible repeat (first | refine blk_drewN ?_ _ | refine blk_drew ?_ | refine blk_alloc ?_ _)); exact BK140.out)) : gb164 ≠ gb140))
                  clear HO151
                  clear HO162
                  clear BK140
                  clear HB
                  have HO151 := n0_
                  have HO162 := n1_
                  have BK140 := n2_
                  have HB := n3_
                  have BK164 := n4_
                  have GW164 := n5_
                  have GE164 := n6_
                  have NB140_164 := n7_
                  have NB164_140 := n8_
                  clear n0_ n1_ n2_ n3_ n4_ n5_ n6_ n7_ n8_
                  clear hb hbox hg
                  refine hK.out _ _ ⟨(blk_cell BK140.out 0).trans rfl, (blk_cell BK140.out 1).trans rfl⟩ (fun hHeld => ?_)
                  clear hK K
                  refine norm_ (a' := ?_) ?_ ?_
                  rotate_left
                  · show Act.put _ (some 2) _ = _
                    simp only [Act.put, List.setIfInBounds_toArray, List.set_cons_zero, List.set_cons_succ, i64_w, i32_w]
                    rfl
                  exact norm_ (by simp only [putAll, Act.put, List.setIfInBounds_toArray, List.set_cons_zero, List.set_cons_succ]) (hCont (.slice Ao15 t149.length co15, v161, gb164) _ ⟨hHeld, (by (with_reducible repeat (first | apply Kd.R_alloc | apply Kd.R_drewN | apply Kd.R_drew)); exact HO151.out), (by (with_reducible repeat (first | apply Kd.V_alloc | apply Kd.V_drewN | apply Kd.V_drew)); exact HO162.out), (by (with_reducible repeat (first | refine blk_drewN ?_ _ | refine blk_drew ?_ | refine blk_alloc ?_ _)); exact BK140.out), (by (with_reducible repeat (first | refine blk_drewN ?_ _ | refine blk_drew ?_ | refine blk_alloc ?_ _)); exact BK164.out), GW164.out, GE164.out, NB140_164.out, NB164_140.out, (by repeat (first | (with_reducible first | exact HB.out | apply below_alloc | apply pw_below_drewN | apply below_drew1 | refine below_set ?_ GE140.out | refine below_set ?_ GE164.out) | exact HB.out))⟩)
                · skip
                  refine box_step ?hg (N := 2) ?hd (cs := #[.int .i64 0, .int .i64 0, .int .i64 0, .int .i64 0, .int .i64 0, .string (⟨#[]⟩ : ByteArray), .string (⟨#[]⟩ : ByteArray), .string (⟨#[]⟩ : ByteArray), .slice none 0 0]) (t := 31) ?hr ?_; (case hd => rfl); (case hg => rfl); (case hr => first | (go_simp; done) | (go_simp; rfl))
                  intro gb164 hg w15 hbox hb
                  have n0_ := Aside0.mk (Kd.R_below (by (with_reducible repeat (first | apply Kd.R_alloc | apply Kd.R_drewN | apply Kd.R_drew)); exact HO151.out) hb)
                  have n1_ := Aside0.mk (blk_below (g := gb140) (o := .cells #[.int .i64 2, .int .i64 100] 23 (0, 0)) (by (with_reducible repeat (first | refine blk_drewN ?_ _ | refine blk_drew ?_ | refine blk_alloc ?_ _)); exact BK140.out) hb)
                  have n2_ := Aside0.mk (below_step (by repeat (first | (with_reducible first | exact HB.out | apply below_alloc | apply pw_below_drewN | apply below_drew1 | refine below_set ?_ GE140.out) | exact HB.out)) hb)
                  have n3_ := Aside0.mk (hbox)
                  have n4_ := Aside0.mk ((by rw [hg]; exact (below_size (by repeat (first | (with_reducible first | exact HB.out | apply below_alloc | apply pw_below_drewN | apply below_drew1 | refine below_set ?_ GE140.out) | exact HB.out))) : w.heap.size ≤ gb164))
                  have n5_ := Aside0.mk ((by rw [hg]; exact (below_size (by repeat (first | (with_reducible first | exact HB.out | apply below_alloc | apply pw_below_drewN | apply below_drew1 | refine below_set ?_ GE140.out) | exact HB.out))) : w.heap.size ≤ gb164))
                  have n6_ := Aside0.mk ((by rw [hg]; exact Nat.ne_of_lt (blk_lt (g := gb140) (o := .cells #[.int .i64 2, .int .i64 100] 23 (0, 0)) (by (with_reducible repeat (first | refine blk_drewN ?_ _ | refine blk_drew ?_ | refine blk_alloc ?_ _)); exact BK140.out)) : gb140 ≠ gb164))
                  have n7_ := Aside0.mk ((by rw [hg]; exact Nat.ne_of_gt (blk_lt (g := gb140) (o := .cells #[.int .i64 2, .int .i64 100] 23 (0, 0)) (by (with_reducible repeat (first | refine blk_drewN ?_ _ | refine blk_drew ?_ | refine blk_alloc ?_ _)); exact BK140.out)) : gb164 ≠ gb140))
                  clear HO151
                  clear BK140
                  clear HB
                  have HO151 := n0_
                  have BK140 := n1_
                  have HB := n2_
                  have BK164 := n3_
                  have GW164 := n4_
                  have GE164 := n5_
                  have NB140_164 := n6_
                  have NB164_140 := n7_
                  clear n0_ n1_ n2_ n3_ n4_ n5_ n6_ n7_
                  clear hb hbox hg
                  obtain ⟨Ao16, co16, eo16⟩ := Kd.R_slice HO151.out
                  (first | subst eo16 | (injection eo16 with f1_ f2_ f3_; have f4_ := f1_.symm; have f5_ := f3_.symm; clear f1_ f2_ f3_; subst f4_; subst f5_))
                  refine hK.out _ _ ⟨(blk_cell BK140.out 0).trans rfl, (blk_cell BK140.out 1).trans rfl⟩ (fun hHeld => ?_)
                  clear hK K
                  refine norm_ (a' := ?_) ?_ ?_
                  rotate_left
                  · show Act.put _ (some 2) _ = _
                    simp only [Act.put, List.setIfInBounds_toArray, List.set_cons_zero, List.set_cons_succ, i64_w, i32_w]
                    rfl
                  refine one_ (i := 2) (N := some 12) #[true, true, true, false, false, false, true, false, false] rfl rfl (one_of HT_.out (by kernel_rfl)) (by decide) (fun K hK => ?_)
                  refine goes_ Tryd.func13 (by kernel_rfl) rfl #[.agg #[.int .i64 t141, .int .i64 t142, .int .i64 t143, .int .i64 t144, .int .i64 t145, .string t146, .string t147, .string t148, .slice Ao16 t149.length co16], .agg #[.int .i64 2, .int .i64 100], .string (⟨#[97]⟩ : ByteArray), .int .i64 10] (by rfl) rfl rfl (by (try simp only [List.map_toArray, List.map_cons, List.map_nil]); first | done | rfl | (simp only [List.length_drop, List.length_take]; rfl)) ?_
                  with_reducible refine (batch_Join.calls k t141 t142 t143 t144 t145 t146 t147 t148 (fun k_ => some k_ = (.slice Ao16 t149.length co16 : Value).ownBlock) _ _ t149 2 100 (⟨#[97]⟩ : ByteArray) 10 t152 t153 t154 t155 t156 t157 t158 t159 t160 t163 _ ?side1 ?side2 A2.out).mono ?_
                  (case side1 => exact Kd.R_V (Kd.R_tight rfl (Kd.R_types (Kd.R_types (HO151.out) BK140.out (by decide)) BK164.out (by decide))))
                  (case side2 => exact Tabs.below HT.out (by repeat (first | (with_reducible first | exact HB.out | apply below_alloc | apply pw_below_drewN | apply below_drew1 | refine below_set ?_ GE140.out | refine below_set ?_ GE164.out) | exact HB.out)))
                  rintro e w17 ⟨v161, rfl, ho0, hb⟩
                  refine ⟨_, rfl, ?_⟩
                  have n0_ := Aside0.mk (Kd.R_below (by (with_reducible repeat (first | apply Kd.R_alloc | apply Kd.R_drewN | apply Kd.R_drew)); exact HO151.out) hb)
                  have n1_ := Aside0.mk (Kd.V_lower (Kd.V_mono (ok' := fun k_ => k_ ≠ gb140 ∧ k_ ≠ gb164) ho0 (fun k_ hk_ => ⟨Or.elim hk_ (fun hs_ => ((Kd.R_types (Kd.R_types (HO151.out) BK140.out (by decide)) BK164.out (by decide)).1 k_ hs_.symm).1.2) (fun hn_ => (Kd.freshB (g := gb140) (o := .cells #[.int .i64 2, .int .i64 100] 23 (0, 0)) (by (with_reducible repeat (first | refine blk_drewN ?_ _ | refine blk_drew ?_ | refine blk_alloc ?_ _)); exact BK140.out) k_ hn_)), Or.elim hk_ (fun hs_ => ((Kd.R_types (Kd.R_types (HO151.out) BK140.out (by decide)) BK164.out (by decide)).1 k_ hs_.symm).2) (fun hn_ => (Kd.freshB (g := gb164) (o := .cells #[.int .i64 0, .int .i64 0, .int .i64 0, .int .i64 0, .int .i64 0, .string (⟨#[]⟩ : ByteArray), .string (⟨#[]⟩ : ByteArray), .string (⟨#[]⟩ : ByteArray), .slice none 0 0] 31 (0, 0)) (by (with_reducible repeat (first | refine blk_drewN ?_ _ | refine blk_drew ?_ | refine blk_alloc ?_ _)); exact BK164.out) k_ hn_))⟩)) (below_size (by repeat (first | (with_reducible first | exact HB.out | apply below_alloc | apply pw_below_drewN | apply below_drew1 | refine below_set ?_ GE140.out | refine below_set ?_ GE164.out) | exact HB.out))))
                  have n2_ := Aside0.mk (blk_below (g := gb140) (o := .cells #[.int .i64 2, .int .i64 100] 23 (0, 0)) (by (with_reducible repeat (first | refine blk_drewN ?_ _ | refine blk_drew ?_ | refine blk_alloc ?_ _)); exact BK140.out) hb)
                  have n3_ := Aside0.mk (blk_below (g := gb164) (o := .cells #[.int .i64 0, .int .i64 0, .int .i64 0, .int .i64 0, .int .i64 0, .string (⟨#[]⟩ : ByteArray), .string (⟨#[]⟩ : ByteArray), .string (⟨#[]⟩ : ByteArray), .slice none 0 0] 31 (0, 0)) (by (with_reducible repeat (first | refine blk_drewN ?_ _ | refine blk_drew ?_ | refine blk_alloc ?_ _)); exact BK164.out) hb)
                  have n4_ := Aside0.mk (below_step (by repeat (first | (with_reducible first | exact HB.out | apply below_alloc | apply pw_below_drewN | apply below_drew1 | refine below_set ?_ GE140.out | refine below_set ?_ GE164.out) | exact HB.out)) hb)
                  clear HO151
                  clear BK140
                  clear BK164
                  clear HB
                  have HO151 := n0_
                  have HO162 := n1_
                  have BK140 := n2_
                  have BK164 := n3_
                  have HB := n4_
                  clear n0_ n1_ n2_ n3_ n4_
                  (try clear hb)
                  (try clear hb2)
                  (try clear hk)
                  (try clear hi)
                  (try clear ho0)
                  refine hK.out _ _ ⟨(blk_cell BK140.out 0).trans rfl, (blk_cell BK140.out 1).trans rfl⟩ (fun hHeld => ?_)
                  clear hK K
                  refine norm_ (a' := ?_) ?_ ?_
                  rotate_left
                  · show Act.put _ (some 12) _ = _
                    simp only [Act.put, List.setIfInBounds_toArray, List.set_cons_zero, List.set_cons_succ, i64_w, i32_w]
                    rfl
                  refine pure_ (i := 3) (N := some 9) (v := ?_) (a' := ?_) #[true, true, true, true, false, false, true, false, false] rfl rfl (any_of HT_.out (by kernel_rfl)) (fun _ _ _ h => h) (Or.inl ⟨by rfl, ?_⟩) ?_ ?_
                  rotate_left
                  · intro w'
                    go_simp
                    with_reducible rfl
                  rotate_left
                  · simp only [Act.put, List.setIfInBounds_toArray, List.set_cons_zero, List.set_cons_succ, i64_w, i32_w]
                    rfl
                  refine pure_ (i := 4) (N := some 13) (v := ?_) (a' := ?_) #[true, true, true, true, true, false, true, false, false] rfl rfl (any_of HT_.out (by kernel_rfl)) (fun _ _ _ h => h) (Or.inl ⟨by rfl, ?_⟩) ?_ ?_
                  rotate_left
                  · intro w'
                    go_simp
                    with_reducible rfl
                  rotate_left
                  · simp only [Act.put, List.setIfInBounds_toArray, List.set_cons_zero, List.set_cons_succ, i64_w, i32_w]
                    rfl
                  refine pure_ (i := 5) (N := some 14) (v := ?_) (a' := ?_) #[true, true, true, true, true, true, true, false, false] rfl rfl (any_of HT_.out (by kernel_rfl)) (fun _ _ _ h => h) (Or.inl ⟨by rfl, ?_⟩) ?_ ?_
                  rotate_left
                  · intro w'
                    go_simp
                    with_reducible rfl
                  rotate_left
                  · simp only [Act.put, List.setIfInBounds_toArray, List.set_cons_zero, List.set_cons_succ, i64_w, i32_w]
                    rfl
                  exact norm_ (by simp only [putAll, Act.put, List.setIfInBounds_toArray, List.set_cons_zero, List.set_cons_succ]) (hCont (.slice Ao16 t149.length co16, v161, gb164) _ ⟨hHeld, (by (with_reducible repeat (first | apply Kd.R_alloc | apply Kd.R_drewN | apply Kd.R_drew)); exact HO151.out), (by (with_reducible repeat (first | apply Kd.V_alloc | apply Kd.V_drewN | apply Kd.V_drew)); exact HO162.out), (by (with_reducible repeat (first | refine blk_drewN ?_ _ | refine blk_drew ?_ | refine blk_alloc ?_ _)); exact BK140.out), (by (with_reducible repeat (first | refine blk_drewN ?_ _ | refine blk_drew ?_ | refine blk_alloc ?_ _)); exact BK164.out), GW164.out, GE164.out, NB140_164.out, NB164_140.out, (by repeat (first | (with_reducible first | exact HB.out | apply below_alloc | apply pw_below_drewN | apply below_drew1 | refine below_set ?_ GE140.out | refine below_set ?_ GE164.out) | exact HB.out))⟩)
              · skip
                refine box_step ?hg (N := 2) ?hd (cs := #[.int .i64 0, .int .i64 0, .int .i64 0, .int .i64 0, .int .i64 0, .string (⟨#[]⟩ : ByteArray), .string (⟨#[]⟩ : ByteArray), .string (⟨#[]⟩ : ByteArray), .slice none 0 0]) (t := 31) ?hr ?_; (case hd => rfl); (case hg => rfl); (case hr => first | (go_simp; done) | (go_simp; rfl))
                intro gb164 hg w14 hbox hb
                have n0_ := Aside0.mk (blk_below (g := gb140) (o := .cells #[.int .i64 2, .int .i64 100] 23 (0, 0)) (by (with_reducible repeat (first | refine blk_drewN ?_ _ | refine blk_drew ?_ | refine blk_alloc ?_ _)); exact BK140.out) hb)
                have n1_ := Aside0.mk (below_step (by repeat (first | (with_reducible first | exact HB.out | apply below_alloc | apply pw_below_drewN | apply below_drew1 | refine below_set ?_ GE140.out) | exact HB.out)) hb)
                have n2_ := Aside0.mk (hbox)
                have n3_ := Aside0.mk ((by rw [hg]; exact (below_size (by repeat (first | (with_reducible first | exact HB.out | apply below_alloc | apply pw_below_drewN | apply below_drew1 | refine below_set ?_ GE140.out) | exact HB.out))) : w.heap.size ≤ gb164))
                have n4_ := Aside0.mk ((by rw [hg]; exact (below_size (by repeat (first | (with_reducible first | exact HB.out | apply below_alloc | apply pw_below_drewN | apply below_drew1 | refine below_set ?_ GE140.out) | exact HB.out))) : w.heap.size ≤ gb164))
                have n5_ := Aside0.mk ((by rw [hg]; exact Nat.ne_of_lt (blk_lt (g := gb140) (o := .cells #[.int .i64 2, .int .i64 100] 23 (0, 0)) (by (with_reducible repeat (first | refine blk_drewN ?_ _ | refine blk_drew ?_ | refine blk_alloc ?_ _)); exact BK140.out)) : gb140 ≠ gb164))
                have n6_ := Aside0.mk ((by rw [hg]; exact Nat.ne_of_gt (blk_lt (g := gb140) (o := .cells #[.int .i64 2, .int .i64 100] 23 (0, 0)) (by (with_reducible repeat (first | refine blk_drewN ?_ _ | refine blk_drew ?_ | refine blk_alloc ?_ _)); exact BK140.out)) : gb164 ≠ gb140))
                clear BK140
                clear HB
                have BK140 := n0_
                have HB := n1_
                have BK164 := n2_
                have GW164 := n3_
                have GE164 := n4_
                have NB140_164 := n5_
                have NB164_140 := n6_
                clear n0_ n1_ n2_ n3_ n4_ n5_ n6_
                clear hb hbox hg
                refine hK.out _ _ ⟨(blk_cell BK140.out 0).trans rfl, (blk_cell BK140.out 1).trans rfl⟩ (fun hHeld => ?_)
                clear hK K
                refine norm_ (a' := ?_) ?_ ?_
                rotate_left
                · show Act.put _ (some 2) _ = _
                  simp only [Act.put, List.setIfInBounds_toArray, List.set_cons_zero, List.set_cons_succ, i64_w, i32_w]
                  rfl
                refine one_ (i := 0) (N := some 10) #[true, true, false, false, false, false, true, false, false] rfl rfl (one_of HT_.out (by kernel_rfl)) (by decide) (fun K hK => ?_)
                refine goes_ Tryd.func12 (by kernel_rfl) rfl #[] (by rfl) rfl rfl (by (try simp only [List.map_toArray, List.map_cons, List.map_nil]); first | done | rfl | (simp only [List.length_drop, List.length_take]; rfl)) ?_
                with_reducible refine (packhorselaw11_empty.calls  t141 t142 t143 t144 t145 t146 t147 t148 t149 _ A1.out).mono ?_
                rintro e w15 ⟨v150, rfl, ho0, hb⟩
                refine ⟨_, rfl, ?_⟩
                have n0_ := Aside0.mk (Kd.R_lower ho0 (below_size (by repeat (first | (with_reducible first | exact HB.out | apply below_alloc | apply pw_below_drewN | apply below_drew1 | refine below_set ?_ GE140.out | refine below_set ?_ GE164.out) | exact HB.out))))
                have n1_ := Aside0.mk (blk_below (g := gb140) (o := .cells #[.int .i64 2, .int .i64 100] 23 (0, 0)) (by (with_reducible repeat (first | refine blk_drewN ?_ _ | refine blk_drew ?_ | refine blk_alloc ?_ _)); exact BK140.out) hb)
                have n2_ := Aside0.mk (blk_below (g := gb164) (o := .cells #[.int .i64 0, .int .i64 0, .int .i64 0, .int .i64 0, .int .i64 0, .string (⟨#[]⟩ : ByteArray), .string (⟨#[]⟩ : ByteArray), .string (⟨#[]⟩ : ByteArray), .slice none 0 0] 31 (0, 0)) (by (with_reducible repeat (first | refine blk_drewN ?_ _ | refine blk_drew ?_ | refine blk_alloc ?_ _)); exact BK164.out) hb)
                have n3_ := Aside0.mk (below_step (by repeat (first | (with_reducible first | exact HB.out | apply below_alloc | apply pw_below_drewN | apply below_drew1 | refine below_set ?_ GE140.out | refine below_set ?_ GE164.out) | exact HB.out)) hb)
                clear BK140
                clear BK164
                clear HB
                have HO151 := n0_
                have BK140 := n1_
                have BK164 := n2_
                have HB := n3_
                clear n0_ n1_ n2_ n3_
                (try clear hb)
                (try clear hb2)
                (try clear hk)
                (try clear hi)
                (try clear ho0)
                obtain ⟨Ao16, co16, eo16⟩ := Kd.R_slice HO151.out
                (first | subst eo16 | (injection eo16 with f1_ f2_ f3_; have f4_ := f1_.symm; have f5_ := f3_.symm; clear f1_ f2_ f3_; subst f4_; subst f5_))
                refine hK.out _ _ ⟨(blk_cell BK140.out 0).trans rfl, (blk_cell BK140.out 1).trans rfl⟩ (fun hHeld => ?_)
                clear hK K
                refine norm_ (a' := ?_) ?_ ?_
                rotate_left
                · show Act.put _ (some 10) _ = _
                  simp only [Act.put, List.setIfInBounds_toArray, List.set_cons_zero, List.set_cons_succ, i64_w, i32_w]
                  rfl
                refine one_ (i := 2) (N := some 12) #[true, true, true, false, false, false, true, false, false] rfl rfl (one_of HT_.out (by kernel_rfl)) (by decide) (fun K hK => ?_)
                refine goes_ Tryd.func13 (by kernel_rfl) rfl #[.agg #[.int .i64 t141, .int .i64 t142, .int .i64 t143, .int .i64 t144, .int .i64 t145, .string t146, .string t147, .string t148, .slice Ao16 t149.length co16], .agg #[.int .i64 2, .int .i64 100], .string (⟨#[97]⟩ : ByteArray), .int .i64 10] (by rfl) rfl rfl (by (try simp only [List.map_toArray, List.map_cons, List.map_nil]); first | done | rfl | (simp only [List.length_drop, List.length_take]; rfl)) ?_
                with_reducible refine (batch_Join.calls k t141 t142 t143 t144 t145 t146 t147 t148 (fun k_ => some k_ = (.slice Ao16 t149.length co16 : Value).ownBlock) _ _ t149 2 100 (⟨#[97]⟩ : ByteArray) 10 t152 t153 t154 t155 t156 t157 t158 t159 t160 t163 _ ?side1 ?side2 A2.out).mono ?_
                (case side1 => exact Kd.R_V (Kd.R_tight rfl (Kd.R_types (Kd.R_types (HO151.out) BK140.out (by decide)) BK164.out (by decide))))
                (case side2 => exact Tabs.below HT.out (by repeat (first | (with_reducible first | exact HB.out | apply below_alloc | apply pw_below_drewN | apply below_drew1 | refine below_set ?_ GE140.out | refine below_set ?_ GE164.out) | exact HB.out)))
                rintro e w17 ⟨v161, rfl, ho0, hb⟩
                refine ⟨_, rfl, ?_⟩
                have n0_ := Aside0.mk (Kd.R_below (by (with_reducible repeat (first | apply Kd.R_alloc | apply Kd.R_drewN | apply Kd.R_drew)); exact HO151.out) hb)
                have n1_ := Aside0.mk (Kd.V_lower (Kd.V_mono (ok' := fun k_ => k_ ≠ gb140 ∧ k_ ≠ gb164) ho0 (fun k_ hk_ => ⟨Or.elim hk_ (fun hs_ => ((Kd.R_types (Kd.R_types (HO151.out) BK140.out (by decide)) BK164.out (by decide)).1 k_ hs_.symm).1.2) (fun hn_ => (Kd.freshB (g := gb140) (o := .cells #[.int .i64 2, .int .i64 100] 23 (0, 0)) (by (with_reducible repeat (first | refine blk_drewN ?_ _ | refine blk_drew ?_ | refine blk_alloc ?_ _)); exact BK140.out) k_ hn_)), Or.elim hk_ (fun hs_ => ((Kd.R_types (Kd.R_types (HO151.out) BK140.out (by decide)) BK164.out (by decide)).1 k_ hs_.symm).2) (fun hn_ => (Kd.freshB (g := gb164) (o := .cells #[.int .i64 0, .int .i64 0, .int .i64 0, .int .i64 0, .int .i64 0, .string (⟨#[]⟩ : ByteArray), .string (⟨#[]⟩ : ByteArray), .string (⟨#[]⟩ : ByteArray), .slice none 0 0] 31 (0, 0)) (by (with_reducible repeat (first | refine blk_drewN ?_ _ | refine blk_drew ?_ | refine blk_alloc ?_ _)); exact BK164.out) k_ hn_))⟩)) (below_size (by repeat (first | (with_reducible first | exact HB.out | apply below_alloc | apply pw_below_drewN | apply below_drew1 | refine below_set ?_ GE140.out | refine below_set ?_ GE164.out) | exact HB.out))))
                have n2_ := Aside0.mk (blk_below (g := gb140) (o := .cells #[.int .i64 2, .int .i64 100] 23 (0, 0)) (by (with_reducible repeat (first | refine blk_drewN ?_ _ | refine blk_drew ?_ | refine blk_alloc ?_ _)); exact BK140.out) hb)
                have n3_ := Aside0.mk (blk_below (g := gb164) (o := .cells #[.int .i64 0, .int .i64 0, .int .i64 0, .int .i64 0, .int .i64 0, .string (⟨#[]⟩ : ByteArray), .string (⟨#[]⟩ : ByteArray), .string (⟨#[]⟩ : ByteArray), .slice none 0 0] 31 (0, 0)) (by (with_reducible repeat (first | refine blk_drewN ?_ _ | refine blk_drew ?_ | refine blk_alloc ?_ _)); exact BK164.out) hb)
                have n4_ := Aside0.mk (below_step (by repeat (first | (with_reducible first | exact HB.out | apply below_alloc | apply pw_below_drewN | apply below_drew1 | refine below_set ?_ GE140.out | refine below_set ?_ GE164.out) | exact HB.out)) hb)
                clear HO151
                clear BK140
                clear BK164
                clear HB
                have HO151 := n0_
                have HO162 := n1_
                have BK140 := n2_
                have BK164 := n3_
                have HB := n4_
                clear n0_ n1_ n2_ n3_ n4_
                (try clear hb)
                (try clear hb2)
                (try clear hk)
                (try clear hi)
                (try clear ho0)
                refine hK.out _ _ ⟨(blk_cell BK140.out 0).trans rfl, (blk_cell BK140.out 1).trans rfl⟩ (fun hHeld => ?_)
                clear hK K
                refine norm_ (a' := ?_) ?_ ?_
                rotate_left
                · show Act.put _ (some 12) _ = _
                  simp only [Act.put, List.setIfInBounds_toArray, List.set_cons_zero, List.set_cons_succ, i64_w, i32_w]
                  rfl
                refine pure_ (i := 3) (N := some 9) (v := ?_) (a' := ?_) #[true, true, true, true, false, false, true, false, false] rfl rfl (any_of HT_.out (by kernel_rfl)) (fun _ _ _ h => h) (Or.inl ⟨by rfl, ?_⟩) ?_ ?_
                rotate_left
                · intro w'
                  go_simp
                  with_reducible rfl
                rotate_left
                · simp only [Act.put, List.setIfInBounds_toArray, List.set_cons_zero, List.set_cons_succ, i64_w, i32_w]
                  rfl
                refine pure_ (i := 4) (N := some 13) (v := ?_) (a' := ?_) #[true, true, true, true, true, false, true, false, false] rfl rfl (any_of HT_.out (by kernel_rfl)) (fun _ _ _ h => h) (Or.inl ⟨by rfl, ?_⟩) ?_ ?_
                rotate_left
                · intro w'
                  go_simp
                  with_reducible rfl
                rotate_left
                · simp only [Act.put, List.setIfInBounds_toArray, List.set_cons_zero, List.set_cons_succ, i64_w, i32_w]
                  rfl
                refine pure_ (i := 5) (N := some 14) (v := ?_) (a' := ?_) #[true, true, true, true, true, true, true, false, false] rfl rfl (any_of HT_.out (by kernel_rfl)) (fun _ _ _ h => h) (Or.inl ⟨by rfl, ?_⟩) ?_ ?_
                rotate_left
                · intro w'
                  go_simp
                  with_reducible rfl
                rotate_left
                · simp only [Act.put, List.setIfInBounds_toArray, List.set_cons_zero, List.set_cons_succ, i64_w, i32_w]
                  rfl
                exact norm_ (by simp only [putAll, Act.put, List.setIfInBounds_toArray, List.set_cons_zero, List.set_cons_succ]) (hCont (.slice Ao16 t149.length co16, v161, gb164) _ ⟨hHeld, (by (with_reducible repeat (first | apply Kd.R_alloc | apply Kd.R_drewN | apply Kd.R_drew)); exact HO151.out), (by (with_reducible repeat (first | apply Kd.V_alloc | apply Kd.V_drewN | apply Kd.V_drew)); exact HO162.out), (by (with_reducible repeat (first | refine blk_drewN ?_ _ | refine blk_drew ?_ | refine blk_alloc ?_ _)); exact BK140.out), (by (with_reducible repeat (first | refine blk_drewN ?_ _ | refine blk_drew ?_ | refine blk_alloc ?_ _)); exact BK164.out), GW164.out, GE164.out, NB140_164.out, NB164_140.out, (by repeat (first | (with_reducible first | exact HB.out | apply below_alloc | apply pw_below_drewN | apply below_drew1 | refine below_set ?_ GE140.out | refine below_set ?_ GE164.out) | exact HB.out))⟩)
            rintro ⟨v150, v161, gb164⟩ w18 ⟨hS_, h0_, h1_, h2_, h3_, h4_, h5_, h6_, h7_, h8_⟩
            have n0_ : Aside0 (Kd.R Kd.string 9 w18 w.heap.size (fun _ => True) v150 t149) := ⟨h0_⟩
            have n1_ : Aside0 (Kd.V Kd.string 9 w18 w.heap.size (fun k_ => k_ ≠ gb140 ∧ k_ ≠ gb164) v161 t160) := ⟨h1_⟩
            have n2_ : Aside0 (w18.heap[gb140]? = some (.cells #[.int .i64 2, .int .i64 100] 23 (0, 0))) := ⟨h2_⟩
            have n3_ : Aside0 (w18.heap[gb164]? = some (.cells #[.int .i64 0, .int .i64 0, .int .i64 0, .int .i64 0, .int .i64 0, .string (⟨#[]⟩ : ByteArray), .string (⟨#[]⟩ : ByteArray), .string (⟨#[]⟩ : ByteArray), .slice none 0 0] 31 (0, 0))) := ⟨h3_⟩
            have n4_ : Aside0 (w.heap.size ≤ gb164) := ⟨h4_⟩
            have n5_ : Aside0 (w.heap.size ≤ gb164) := ⟨h5_⟩
            have n6_ : Aside0 (gb140 ≠ gb164) := ⟨h6_⟩
            have n7_ : Aside0 (gb164 ≠ gb140) := ⟨h7_⟩
            have n8_ : Aside0 (Below w.heap.size w w18) := ⟨h8_⟩
            clear BK140
            clear HB
            clear h0_ h1_ h2_ h3_ h4_ h5_ h6_ h7_ h8_
            have HO151 := n0_
            have HO162 := n1_
            have BK140 := n2_
            have BK164 := n3_
            have GW164 := n4_
            have GE164 := n5_
            have NB140_164 := n6_
            have NB164_140 := n7_
            have HB := n8_
            clear n0_ n1_ n2_ n3_ n4_ n5_ n6_ n7_ n8_
            have hHeld : w18.cell? ⟨gb140, 0, none⟩ = some (.int .i64 2) ∧ w18.cell? ⟨gb140, 1, none⟩ = some (.int .i64 100) := hS_
            obtain ⟨Ao27, co27, eo27⟩ := Kd.V_slice HO162.out
            (first | subst eo27 | (injection eo27 with f1_ f2_ f3_; have f4_ := f1_.symm; have f5_ := f3_.symm; clear f1_ f2_ f3_; subst f4_; subst f5_))
            refine norm_ (a' := ?_) ?_ ?_
            rotate_left
            · simp only [putAll, Act.put, List.setIfInBounds_toArray, List.set_cons_zero, List.set_cons_succ]
              rfl
            refine one_ (i := 7) (N := none) #[true, true, true, true, true, true, true, true, false] rfl rfl (one_of HT_.out (by kernel_rfl)) (by decide) (fun K hK => ?_)
            have hs19 : w18.cell? ⟨gb164, 0, none⟩ = some (.int .i64 0) := (blk_cell BK164.out 0).trans rfl
            have hfs19 := blk_frozen BK164.out 0
            have hns19_0 := NB140_164.out
            have hms19_0 := NB164_140.out
            have hs20 : w18.cell? ⟨gb164, 1, none⟩ = some (.int .i64 0) := (blk_cell BK164.out 1).trans rfl
            have hfs20 := blk_frozen BK164.out 1
            have hns20_0 := NB140_164.out
            have hms20_0 := NB164_140.out
            have hs21 : w18.cell? ⟨gb164, 2, none⟩ = some (.int .i64 0) := (blk_cell BK164.out 2).trans rfl
            have hfs21 := blk_frozen BK164.out 2
            have hns21_0 := NB140_164.out
            have hms21_0 := NB164_140.out
            have hs22 : w18.cell? ⟨gb164, 3, none⟩ = some (.int .i64 0) := (blk_cell BK164.out 3).trans rfl
            have hfs22 := blk_frozen BK164.out 3
            have hns22_0 := NB140_164.out
            have hms22_0 := NB164_140.out
            have hs23 : w18.cell? ⟨gb164, 4, none⟩ = some (.int .i64 0) := (blk_cell BK164.out 4).trans rfl
            have hfs23 := blk_frozen BK164.out 4
            have hns23_0 := NB140_164.out
            have hms23_0 := NB164_140.out
            have hs24 : w18.cell? ⟨gb164, 5, none⟩ = some (.string (⟨#[]⟩ : ByteArray)) := (blk_cell BK164.out 5).trans rfl
            have hfs24 := blk_frozen BK164.out 5
            have hns24_0 := NB140_164.out
            have hms24_0 := NB164_140.out
            have hs25 : w18.cell? ⟨gb164, 6, none⟩ = some (.string (⟨#[]⟩ : ByteArray)) := (blk_cell BK164.out 6).trans rfl
            have hfs25 := blk_frozen BK164.out 6
            have hns25_0 := NB140_164.out
            have hms25_0 := NB164_140.out
            have hs26 : w18.cell? ⟨gb164, 7, none⟩ = some (.string (⟨#[]⟩ : ByteArray)) := (blk_cell BK164.out 7).trans rfl
            have hfs26 := blk_frozen BK164.out 7
            have hns26_0 := NB140_164.out
            have hms26_0 := NB164_140.out
            have hs28 : w18.cell? ⟨gb164, 8, none⟩ = some (.slice none 0 0) := (blk_cell BK164.out 8).trans rfl
            have hfs28 := blk_frozen BK164.out 8
            have hns28_0 := NB140_164.out
            have hms28_0 := NB164_140.out
            refine skip_ (w1 := ?_) (by rfl) rfl ?_ ?_
            rotate_left
            · go_simp
              rfl
            refine hK.out _ _ ⟨((cell_far (p := ⟨gb164, _, none⟩) NB140_164.out _).trans (((cell_far (p := ⟨gb164, _, none⟩) NB140_164.out _).trans (((cell_far (p := ⟨gb164, _, none⟩) NB140_164.out _).trans (((cell_far (p := ⟨gb164, _, none⟩) NB140_164.out _).trans (((cell_far (p := ⟨gb164, _, none⟩) NB140_164.out _).trans (((cell_far (p := ⟨gb164, _, none⟩) NB140_164.out _).trans (((cell_far (p := ⟨gb164, _, none⟩) NB140_164.out _).trans (((cell_far (p := ⟨gb164, _, none⟩) NB140_164.out _).trans (((cell_far (p := ⟨gb164, _, none⟩) NB140_164.out _).trans (hHeld.1)))))))))))))))))), ((cell_far (p := ⟨gb164, _, none⟩) NB140_164.out _).trans (((cell_far (p := ⟨gb164, _, none⟩) NB140_164.out _).trans (((cell_far (p := ⟨gb164, _, none⟩) NB140_164.out _).trans (((cell_far (p := ⟨gb164, _, none⟩) NB140_164.out _).trans (((cell_far (p := ⟨gb164, _, none⟩) NB140_164.out _).trans (((cell_far (p := ⟨gb164, _, none⟩) NB140_164.out _).trans (((cell_far (p := ⟨gb164, _, none⟩) NB140_164.out _).trans (((cell_far (p := ⟨gb164, _, none⟩) NB140_164.out _).trans (((cell_far (p := ⟨gb164, _, none⟩) NB140_164.out _).trans (hHeld.2))))))))))))))))))⟩ (fun hHeld => ?_)
            clear hK K
            refine pure_ (i := 8) (N := some 3) (v := ?_) (a' := ?_) #[true, true, true, true, true, true, true, true, true] rfl rfl (any_of HT_.out (by kernel_rfl)) (fun _ _ _ h => h) (Or.inl ⟨by rfl, ?_⟩) ?_ ?_
            rotate_left
            · intro w'
              go_simp
              with_reducible rfl
            rotate_left
            · simp only [Act.put, List.setIfInBounds_toArray, List.set_cons_zero, List.set_cons_succ, i64_w, i32_w]
              rfl
            refine done_ (done_of HT_.out (by kernel_rfl)) ?_
            have n0_ : Aside0 (Kd.R Kd.string 9 (((((((((w18.setCell ⟨gb164, 0, none⟩ (.int .i64 t152)).setCell ⟨gb164, 1, none⟩ (.int .i64 t153)).setCell ⟨gb164, 2, none⟩ (.int .i64 t154)).setCell ⟨gb164, 3, none⟩ (.int .i64 t155)).setCell ⟨gb164, 4, none⟩ (.int .i64 t156)).setCell ⟨gb164, 5, none⟩ (.string t157)).setCell ⟨gb164, 6, none⟩ (.string t158)).setCell ⟨gb164, 7, none⟩ (.string t159)).setCell ⟨gb164, 8, none⟩ (.slice Ao27 t160.length co27)) w.heap.size (fun _ => True) v150 t149) := ⟨by (with_reducible repeat (first | apply Kd.R_alloc | apply Kd.R_drewN | apply Kd.R_drew)); exact Kd.R_mono (Kd.R_far (p := ⟨gb164, 8, none⟩) (Kd.R_far (p := ⟨gb164, 7, none⟩) (Kd.R_far (p := ⟨gb164, 6, none⟩) (Kd.R_far (p := ⟨gb164, 5, none⟩) (Kd.R_far (p := ⟨gb164, 4, none⟩) (Kd.R_far (p := ⟨gb164, 3, none⟩) (Kd.R_far (p := ⟨gb164, 2, none⟩) (Kd.R_far (p := ⟨gb164, 1, none⟩) (Kd.R_far (p := ⟨gb164, 0, none⟩) (Kd.R_types HO151.out BK164.out (by decide)) (fun _ hk => hk.2) (.int .i64 t152)) (fun _ hk => hk.2) (.int .i64 t153)) (fun _ hk => hk.2) (.int .i64 t154)) (fun _ hk => hk.2) (.int .i64 t155)) (fun _ hk => hk.2) (.int .i64 t156)) (fun _ hk => hk.2) (.string t157)) (fun _ hk => hk.2) (.string t158)) (fun _ hk => hk.2) (.string t159)) (fun _ hk => hk.2) (.slice Ao27 t160.length co27)) (fun _ hk => trivial)⟩
            have n1_ : Aside0 (Kd.V Kd.string 9 (((((((((w18.setCell ⟨gb164, 0, none⟩ (.int .i64 t152)).setCell ⟨gb164, 1, none⟩ (.int .i64 t153)).setCell ⟨gb164, 2, none⟩ (.int .i64 t154)).setCell ⟨gb164, 3, none⟩ (.int .i64 t155)).setCell ⟨gb164, 4, none⟩ (.int .i64 t156)).setCell ⟨gb164, 5, none⟩ (.string t157)).setCell ⟨gb164, 6, none⟩ (.string t158)).setCell ⟨gb164, 7, none⟩ (.string t159)).setCell ⟨gb164, 8, none⟩ (.slice Ao27 t160.length co27)) w.heap.size (fun k_ => k_ ≠ gb140 ∧ k_ ≠ gb164) (.slice Ao27 t160.length co27) t160) := ⟨by (with_reducible repeat (first | apply Kd.V_alloc | apply Kd.V_drewN | apply Kd.V_drew)); exact Kd.V_mono (Kd.V_far (p := ⟨gb164, 8, none⟩) (Kd.V_far (p := ⟨gb164, 7, none⟩) (Kd.V_far (p := ⟨gb164, 6, none⟩) (Kd.V_far (p := ⟨gb164, 5, none⟩) (Kd.V_far (p := ⟨gb164, 4, none⟩) (Kd.V_far (p := ⟨gb164, 3, none⟩) (Kd.V_far (p := ⟨gb164, 2, none⟩) (Kd.V_far (p := ⟨gb164, 1, none⟩) (Kd.V_far (p := ⟨gb164, 0, none⟩) (Kd.V_mono HO162.out (fun k_ hk => (⟨hk, by first | exact hk.2 | exact hk.2.2.2 | exact hk.2.2 | exact hk.2.1 | exact hk.2.2.1⟩ : _ ∧ k_ ≠ gb164))) (fun _ hk => hk.2) (.int .i64 t152)) (fun _ hk => hk.2) (.int .i64 t153)) (fun _ hk => hk.2) (.int .i64 t154)) (fun _ hk => hk.2) (.int .i64 t155)) (fun _ hk => hk.2) (.int .i64 t156)) (fun _ hk => hk.2) (.string t157)) (fun _ hk => hk.2) (.string t158)) (fun _ hk => hk.2) (.string t159)) (fun _ hk => hk.2) (.slice Ao27 t160.length co27)) (fun _ hk => ⟨hk.1.1, hk.1.2⟩)⟩
            have n2_ : Aside0 ((((((((((w18.setCell ⟨gb164, 0, none⟩ (.int .i64 t152)).setCell ⟨gb164, 1, none⟩ (.int .i64 t153)).setCell ⟨gb164, 2, none⟩ (.int .i64 t154)).setCell ⟨gb164, 3, none⟩ (.int .i64 t155)).setCell ⟨gb164, 4, none⟩ (.int .i64 t156)).setCell ⟨gb164, 5, none⟩ (.string t157)).setCell ⟨gb164, 6, none⟩ (.string t158)).setCell ⟨gb164, 7, none⟩ (.string t159)).setCell ⟨gb164, 8, none⟩ (.slice Ao27 t160.length co27)).heap[gb140]? = some (.cells #[.int .i64 2, .int .i64 100] 23 (0, 0))) := ⟨by (with_reducible repeat (first | refine blk_drewN ?_ _ | refine blk_drew ?_ | refine blk_alloc ?_ _)); refine blk_far ?_ NB140_164.out _; (with_reducible repeat (first | refine blk_drewN ?_ _ | refine blk_drew ?_ | refine blk_alloc ?_ _)); refine blk_far ?_ NB140_164.out _; (with_reducible repeat (first | refine blk_drewN ?_ _ | refine blk_drew ?_ | refine blk_alloc ?_ _)); refine blk_far ?_ NB140_164.out _; (with_reducible repeat (first | refine blk_drewN ?_ _ | refine blk_drew ?_ | refine blk_alloc ?_ _)); refine blk_far ?_ NB140_164.out _; (with_reducible repeat (first | refine blk_drewN ?_ _ | refine blk_drew ?_ | refine blk_alloc ?_ _)); refine blk_far ?_ NB140_164.out _; (with_reducible repeat (first | refine blk_drewN ?_ _ | refine blk_drew ?_ | refine blk_alloc ?_ _)); refine blk_far ?_ NB140_164.out _; (with_reducible repeat (first | refine blk_drewN ?_ _ | refine blk_drew ?_ | refine blk_alloc ?_ _)); refine blk_far ?_ NB140_164.out _; (with_reducible repeat (first | refine blk_drewN ?_ _ | refine blk_drew ?_ | refine blk_alloc ?_ _)); refine blk_far ?_ NB140_164.out _; (with_reducible repeat (first | refine blk_drewN ?_ _ | refine blk_drew ?_ | refine blk_alloc ?_ _)); refine blk_far ?_ NB140_164.out _; (with_reducible repeat (first | refine blk_drewN ?_ _ | refine blk_drew ?_ | refine blk_alloc ?_ _)); exact BK140.out⟩
            have n3_ : Aside0 ((((((((((w18.setCell ⟨gb164, 0, none⟩ (.int .i64 t152)).setCell ⟨gb164, 1, none⟩ (.int .i64 t153)).setCell ⟨gb164, 2, none⟩ (.int .i64 t154)).setCell ⟨gb164, 3, none⟩ (.int .i64 t155)).setCell ⟨gb164, 4, none⟩ (.int .i64 t156)).setCell ⟨gb164, 5, none⟩ (.string t157)).setCell ⟨gb164, 6, none⟩ (.string t158)).setCell ⟨gb164, 7, none⟩ (.string t159)).setCell ⟨gb164, 8, none⟩ (.slice Ao27 t160.length co27)).heap[gb164]? = some (.cells #[.int .i64 t152, .int .i64 t153, .int .i64 t154, .int .i64 t155, .int .i64 t156, .string t157, .string t158, .string t159, .slice Ao27 t160.length co27] 31 (0, 0))) := ⟨by (with_reducible repeat (first | refine blk_drewN ?_ _ | refine blk_drew ?_ | refine blk_alloc ?_ _)); refine blk_put (cs := #[.int .i64 t152, .int .i64 t153, .int .i64 t154, .int .i64 t155, .int .i64 t156, .string t157, .string t158, .string t159, .slice none 0 0]) ?_ 8 _ rfl; (with_reducible repeat (first | refine blk_drewN ?_ _ | refine blk_drew ?_ | refine blk_alloc ?_ _)); refine blk_put (cs := #[.int .i64 t152, .int .i64 t153, .int .i64 t154, .int .i64 t155, .int .i64 t156, .string t157, .string t158, .string (⟨#[]⟩ : ByteArray), .slice none 0 0]) ?_ 7 _ rfl; (with_reducible repeat (first | refine blk_drewN ?_ _ | refine blk_drew ?_ | refine blk_alloc ?_ _)); refine blk_put (cs := #[.int .i64 t152, .int .i64 t153, .int .i64 t154, .int .i64 t155, .int .i64 t156, .string t157, .string (⟨#[]⟩ : ByteArray), .string (⟨#[]⟩ : ByteArray), .slice none 0 0]) ?_ 6 _ rfl; (with_reducible repeat (first | refine blk_drewN ?_ _ | refine blk_drew ?_ | refine blk_alloc ?_ _)); refine blk_put (cs := #[.int .i64 t152, .int .i64 t153, .int .i64 t154, .int .i64 t155, .int .i64 t156, .string (⟨#[]⟩ : ByteArray), .string (⟨#[]⟩ : ByteArray), .string (⟨#[]⟩ : ByteArray), .slice none 0 0]) ?_ 5 _ rfl; (with_reducible repeat (first | refine blk_drewN ?_ _ | refine blk_drew ?_ | refine blk_alloc ?_ _)); refine blk_put (cs := #[.int .i64 t152, .int .i64 t153, .int .i64 t154, .int .i64 t155, .int .i64 0, .string (⟨#[]⟩ : ByteArray), .string (⟨#[]⟩ : ByteArray), .string (⟨#[]⟩ : ByteArray), .slice none 0 0]) ?_ 4 _ rfl; (with_reducible repeat (first | refine blk_drewN ?_ _ | refine blk_drew ?_ | refine blk_alloc ?_ _)); refine blk_put (cs := #[.int .i64 t152, .int .i64 t153, .int .i64 t154, .int .i64 0, .int .i64 0, .string (⟨#[]⟩ : ByteArray), .string (⟨#[]⟩ : ByteArray), .string (⟨#[]⟩ : ByteArray), .slice none 0 0]) ?_ 3 _ rfl; (with_reducible repeat (first | refine blk_drewN ?_ _ | refine blk_drew ?_ | refine blk_alloc ?_ _)); refine blk_put (cs := #[.int .i64 t152, .int .i64 t153, .int .i64 0, .int .i64 0, .int .i64 0, .string (⟨#[]⟩ : ByteArray), .string (⟨#[]⟩ : ByteArray), .string (⟨#[]⟩ : ByteArray), .slice none 0 0]) ?_ 2 _ rfl; (with_reducible repeat (first | refine blk_drewN ?_ _ | refine blk_drew ?_ | refine blk_alloc ?_ _)); refine blk_put (cs := #[.int .i64 t152, .int .i64 0, .int .i64 0, .int .i64 0, .int .i64 0, .string (⟨#[]⟩ : ByteArray), .string (⟨#[]⟩ : ByteArray), .string (⟨#[]⟩ : ByteArray), .slice none 0 0]) ?_ 1 _ rfl; (with_reducible repeat (first | refine blk_drewN ?_ _ | refine blk_drew ?_ | refine blk_alloc ?_ _)); refine blk_put (cs := #[.int .i64 0, .int .i64 0, .int .i64 0, .int .i64 0, .int .i64 0, .string (⟨#[]⟩ : ByteArray), .string (⟨#[]⟩ : ByteArray), .string (⟨#[]⟩ : ByteArray), .slice none 0 0]) ?_ 0 _ rfl; (with_reducible repeat (first | refine blk_drewN ?_ _ | refine blk_drew ?_ | refine blk_alloc ?_ _)); exact BK164.out⟩
            have n4_ : Aside0 (Below w.heap.size w (((((((((w18.setCell ⟨gb164, 0, none⟩ (.int .i64 t152)).setCell ⟨gb164, 1, none⟩ (.int .i64 t153)).setCell ⟨gb164, 2, none⟩ (.int .i64 t154)).setCell ⟨gb164, 3, none⟩ (.int .i64 t155)).setCell ⟨gb164, 4, none⟩ (.int .i64 t156)).setCell ⟨gb164, 5, none⟩ (.string t157)).setCell ⟨gb164, 6, none⟩ (.string t158)).setCell ⟨gb164, 7, none⟩ (.string t159)).setCell ⟨gb164, 8, none⟩ (.slice Ao27 t160.length co27))) := ⟨by repeat (first | (with_reducible first | exact HB.out | apply below_alloc | apply pw_below_drewN | apply below_drew1 | refine below_set ?_ GE140.out | refine below_set ?_ GE164.out) | exact HB.out)⟩
            (try clear HO151)
            (try clear HO162)
            (try clear BK140)
            (try clear BK164)
            (try clear HB)
            generalize (((((((((w18.setCell ⟨gb164, 0, none⟩ (.int .i64 t152)).setCell ⟨gb164, 1, none⟩ (.int .i64 t153)).setCell ⟨gb164, 2, none⟩ (.int .i64 t154)).setCell ⟨gb164, 3, none⟩ (.int .i64 t155)).setCell ⟨gb164, 4, none⟩ (.int .i64 t156)).setCell ⟨gb164, 5, none⟩ (.string t157)).setCell ⟨gb164, 6, none⟩ (.string t158)).setCell ⟨gb164, 7, none⟩ (.string t159)).setCell ⟨gb164, 8, none⟩ (.slice Ao27 t160.length co27)) = w29 at n0_ n1_ n2_ n3_ n4_ ⊢
            have HO151 := n0_
            have HO162 := n1_
            have BK140 := n2_
            have BK164 := n3_
            have HB := n4_
            clear n0_ n1_ n2_ n3_ n4_
            have hnb30 := NB164_140.out
            have hnc30 := NB140_164.out
            have hcz31_0 : w29.cell? ⟨gb164, 0, none⟩ = some (.int .i64 t152) := (blk_cell BK164.out 0).trans rfl
            have hcz31_1 : w29.cell? ⟨gb164, 1, none⟩ = some (.int .i64 t153) := (blk_cell BK164.out 1).trans rfl
            have hcz31_2 : w29.cell? ⟨gb164, 2, none⟩ = some (.int .i64 t154) := (blk_cell BK164.out 2).trans rfl
            have hcz31_3 : w29.cell? ⟨gb164, 3, none⟩ = some (.int .i64 t155) := (blk_cell BK164.out 3).trans rfl
            have hcz31_4 : w29.cell? ⟨gb164, 4, none⟩ = some (.int .i64 t156) := (blk_cell BK164.out 4).trans rfl
            have hcz31_5 : w29.cell? ⟨gb164, 5, none⟩ = some (.string t157) := (blk_cell BK164.out 5).trans rfl
            have hcz31_6 : w29.cell? ⟨gb164, 6, none⟩ = some (.string t158) := (blk_cell BK164.out 6).trans rfl
            have hcz31_7 : w29.cell? ⟨gb164, 7, none⟩ = some (.string t159) := (blk_cell BK164.out 7).trans rfl
            have hcz31_8 : w29.cell? ⟨gb164, 8, none⟩ = some (.slice Ao27 t160.length co27) := (blk_cell BK164.out 8).trans rfl
            have hfz31_0 := blk_frozen BK164.out 0
            have hfz31_1 := blk_frozen BK164.out 1
            have hfz31_2 := blk_frozen BK164.out 2
            have hfz31_3 := blk_frozen BK164.out 3
            have hfz31_4 := blk_frozen BK164.out 4
            have hfz31_5 := blk_frozen BK164.out 5
            have hfz31_6 := blk_frozen BK164.out 6
            have hfz31_7 := blk_frozen BK164.out 7
            have hfz31_8 := blk_frozen BK164.out 8
            have hcz32_0 : w29.cell? ⟨gb140, 0, none⟩ = some (.int .i64 2) := (blk_cell BK140.out 0).trans rfl
            have hcz32_1 : w29.cell? ⟨gb140, 1, none⟩ = some (.int .i64 100) := (blk_cell BK140.out 1).trans rfl
            have hfz32_0 := blk_frozen BK140.out 0
            have hfz32_1 := blk_frozen BK140.out 1
            try go_wp2_with (first | ((with_reducible refine gate_callee (f := 13) rfl ?_); refine goesL_ (some 18) rfl rfl Tryd.func13 (by kernel_rfl) rfl #[.agg #[.int .i64 t152, .int .i64 t153, .int .i64 t154, .int .i64 t155, .int .i64 t156, .string t157, .string t158, .string t159, .slice Ao27 t160.length co27], .agg #[.int .i64 2, .int .i64 100], .string (⟨#[98]⟩ : ByteArray), .int .i64 10] rfl (by (try simp only [List.map_toArray, List.map_cons, List.map_nil]); first | done | rfl | (simp only [List.length_drop, List.length_take]; rfl)) ?_; (with_reducible refine (batch_Join.calls k t152 t153 t154 t155 t156 t157 t158 t159 (fun k_ => (k_ ≠ gb140 ∧ k_ ≠ gb164)) _ _ t160 2 100 (⟨#[98]⟩ : ByteArray) 10 t165 t166 t167 t168 t169 t170 t171 t172 t173 t176 _ ?side1 ?side2 A3.out).mono ?_); (case side1 => exact HO162.out); (case side2 => exact Tabs.below HT.out (by repeat (first | (with_reducible first | exact HB.out | apply below_alloc | apply pw_below_drewN | apply below_drew1 | refine below_set ?_ GE140.out | refine below_set ?_ GE164.out) | exact HB.out))); rintro e w33 ⟨v174, rfl, ho0, hb⟩; refine ⟨_, rfl, ?_⟩; have n0_ := Aside0.mk (Kd.R_below (by (with_reducible repeat (first | apply Kd.R_alloc | apply Kd.R_drewN | apply Kd.R_drew)); exact HO151.out) hb); have n1_ := Aside0.mk (Kd.V_below (by (with_reducible repeat (first | apply Kd.V_alloc | apply Kd.V_drewN | apply Kd.V_drew)); exact HO162.out) hb); have n2_ := Aside0.mk (Kd.V_lower (Kd.V_mono (ok' := fun k_ => k_ ≠ gb140 ∧ k_ ≠ gb164) ho0 (fun k_ hk_ => ⟨Or.elim hk_ (fun hs_ => hs_.1) (fun hn_ => (Kd.freshB (g := gb140) (o := .cells #[.int .i64 2, .int .i64 100] 23 (0, 0)) (by (with_reducible repeat (first | refine blk_drewN ?_ _ | refine blk_drew ?_ | refine blk_alloc ?_ _)); exact BK140.out) k_ hn_)), Or.elim hk_ (fun hs_ => hs_.2) (fun hn_ => (Kd.freshB (g := gb164) (o := .cells #[.int .i64 t152, .int .i64 t153, .int .i64 t154, .int .i64 t155, .int .i64 t156, .string t157, .string t158, .string t159, .slice Ao27 t160.length co27] 31 (0, 0)) (by (with_reducible repeat (first | refine blk_drewN ?_ _ | refine blk_drew ?_ | refine blk_alloc ?_ _)); exact BK164.out) k_ hn_))⟩)) (below_size (by repeat (first | (with_reducible first | exact HB.out | apply below_alloc | apply pw_below_drewN | apply below_drew1 | refine below_set ?_ GE140.out | refine below_set ?_ GE164.out) | exact HB.out)))); have n3_ := Aside0.mk (blk_below (g := gb140) (o := .cells #[.int .i64 2, .int .i64 100] 23 (0, 0)) (by (with_reducible repeat (first | refine blk_drewN ?_ _ | refine blk_drew ?_ | refine blk_alloc ?_ _)); exact BK140.out) hb); have n4_ := Aside0.mk (blk_below (g := gb164) (o := .cells #[.int .i64 t152, .int .i64 t153, .int .i64 t154, .int .i64 t155, .int .i64 t156, .string t157, .string t158, .string t159, .slice Ao27 t160.length co27] 31 (0, 0)) (by (with_reducible repeat (first | refine blk_drewN ?_ _ | refine blk_drew ?_ | refine blk_alloc ?_ _)); exact BK164.out) hb); have n5_ := Aside0.mk (below_step (by repeat (first | (with_reducible first | exact HB.out | apply below_alloc | apply pw_below_drewN | apply below_drew1 | refine below_set ?_ GE140.out | refine below_set ?_ GE164.out) | exact HB.out)) hb); clear HO151; clear HO162; clear BK140; clear BK164; clear HB; have HO151 := n0_; have HO162 := n1_; have HO175 := n2_; have BK140 := n3_; have BK164 := n4_; have HB := n5_; clear n0_ n1_ n2_ n3_ n4_ n5_; (try clear hb); (try clear hb2); (try clear hk); (try clear hi); (try clear ho0)) | ((with_reducible refine gate_dst (N := 4) rfl ?_); (try (refine gate_guard (by rfl) ?_; dsimp only)); refine box_event ?hg (N := 4) ?hd (cs := #[.int .i64 0, .int .i64 0, .int .i64 0, .int .i64 0, .int .i64 0, .string (⟨#[]⟩ : ByteArray), .string (⟨#[]⟩ : ByteArray), .string (⟨#[]⟩ : ByteArray), .slice none 0 0]) (t := 31) ?hr ?_; (case hd => rfl); (case hg => rfl); (case hr => first | (go_simp; done) | (go_simp; rfl)); intro gb177 hg w34 hbox hb; have n0_ := Aside0.mk (Kd.R_below (by (with_reducible repeat (first | apply Kd.R_alloc | apply Kd.R_drewN | apply Kd.R_drew)); exact HO151.out) hb); have n1_ := Aside0.mk (Kd.V_below (Kd.V_elderB (by (with_reducible repeat (first | apply Kd.V_alloc | apply Kd.V_drewN | apply Kd.V_drew)); exact HO162.out) gb177 (Nat.le_of_eq hg.symm)) hb); have n2_ := Aside0.mk (Kd.V_below (Kd.V_elderB (by (with_reducible repeat (first | apply Kd.V_alloc | apply Kd.V_drewN | apply Kd.V_drew)); exact HO175.out) gb177 (Nat.le_of_eq hg.symm)) hb); have n3_ := Aside0.mk (blk_below (g := gb140) (o := .cells #[.int .i64 2, .int .i64 100] 23 (0, 0)) (by (with_reducible repeat (first | refine blk_drewN ?_ _ | refine blk_drew ?_ | refine blk_alloc ?_ _)); exact BK140.out) hb); have n4_ := Aside0.mk (blk_below (g := gb164) (o := .cells #[.int .i64 t152, .int .i64 t153, .int .i64 t154, .int .i64 t155, .int .i64 t156, .string t157, .string t158, .string t159, .slice Ao27 t160.length co27] 31 (0, 0)) (by (with_reducible repeat (first | refine blk_drewN ?_ _ | refine blk_drew ?_ | refine blk_alloc ?_ _)); exact BK164.out) hb); have n5_ := Aside0.mk (below_step (by repeat (first | (with_reducible first | exact HB.out | apply below_alloc | apply pw_below_drewN | apply below_drew1 | refine below_set ?_ GE140.out | refine below_set ?_ GE164.out) | exact HB.out)) hb); have n6_ := Aside0.mk (hbox); have n7_ := Aside0.mk ((by rw [hg]; exact (below_size (by repeat (first | (with_reducible first | exact HB.out | apply below_alloc | apply pw_below_drewN | apply below_drew1 | refine below_set ?_ GE140.out | refine below_set ?_ GE164.out) | exact HB.out))) : w.heap.size ≤ gb177)); have n8_ := Aside0.mk ((by rw [hg]; exact (below_size (by repeat (first | (with_reducible first | exact HB.out | apply below_alloc | apply pw_below_drewN | apply below_drew1 | refine below_set ?_ GE140.out | refine below_set ?_ GE164.out) | exact HB.out))) : w.heap.size ≤ gb177)); have n9_ := Aside0.mk ((by rw [hg]; exact Nat.ne_of_lt (blk_lt (g := gb140) (o := .cells #[.int .i64 2, .int .i64 100] 23 (0, 0)) (by (with_reducible repeat (first | refine blk_drewN ?_ _ | refine blk_drew ?_ | refine blk_alloc ?_ _)); exact BK140.out)) : gb140 ≠ gb177)); have n10_ := Aside0.mk ((by rw [hg]; exact Nat.ne_of_gt (blk_lt (g := gb140) (o := .cells #[.int .i64 2, .int .i64 100] 23 (0, 0)) (by (with_reducible repeat (first | refine blk_drewN ?_ _ | refine blk_drew ?_ | refine blk_alloc ?_ _)); exact BK140.out)) : gb177 ≠ gb140)); have n11_ := Aside0.mk ((by rw [hg]; exact Nat.ne_of_lt (blk_lt (g := gb164) (o := .cells #[.int .i64 t152, .int .i64 t153, .int .i64 t154, .int .i64 t155, .int .i64 t156, .string t157, .string t158, .string t159, .slice Ao27 t160.length co27] 31 (0, 0)) (by (with_reducible repeat (first | refine blk_drewN ?_ _ | refine blk_drew ?_ | refine blk_alloc ?_ _)); exact BK164.out)) : gb164 ≠ gb177)); have n12_ := Aside0.mk ((by rw [hg]; exact Nat.ne_of_gt (blk_lt (g := gb164) (o := .cells #[.int .i64 t152, .int .i64 t153, .int .i64 t154, .int .i64 t155, .int .i64 t156, .string t157, .string t158, .string t159, .slice Ao27 t160.length co27] 31 (0, 0)) (by (with_reducible repeat (first | refine blk_drewN ?_ _ | refine blk_drew ?_ | refine blk_alloc ?_ _)); exact BK164.out)) : gb177 ≠ gb164)); clear HO151; clear HO162; clear HO175; clear BK140; clear BK164; clear HB; have HO151 := n0_; have HO162 := n1_; have HO175 := n2_; have BK140 := n3_; have BK164 := n4_; have HB := n5_; have BK177 := n6_; have GW177 := n7_; have GE177 := n8_; have NB140_177 := n9_; have NB177_140 := n10_; have NB164_177 := n11_; have NB177_164 := n12_; clear n0_ n1_ n2_ n3_ n4_ n5_ n6_ n7_ n8_ n9_ n10_ n11_ n12_; clear hb hbox hg; have hnb35 := NB177_140.out; have hnc35 := NB140_177.out; have hnb36 := NB177_164.out; have hnc36 := NB164_177.out; have hcz37_0 : w34.cell? ⟨gb177, 0, none⟩ = some (.int .i64 0) := (blk_cell BK177.out 0).trans rfl; have hcz37_1 : w34.cell? ⟨gb177, 1, none⟩ = some (.int .i64 0) := (blk_cell BK177.out 1).trans rfl; have hcz37_2 : w34.cell? ⟨gb177, 2, none⟩ = some (.int .i64 0) := (blk_cell BK177.out 2).trans rfl; have hcz37_3 : w34.cell? ⟨gb177, 3, none⟩ = some (.int .i64 0) := (blk_cell BK177.out 3).trans rfl; have hcz37_4 : w34.cell? ⟨gb177, 4, none⟩ = some (.int .i64 0) := (blk_cell BK177.out 4).trans rfl; have hcz37_5 : w34.cell? ⟨gb177, 5, none⟩ = some (.string (⟨#[]⟩ : ByteArray)) := (blk_cell BK177.out 5).trans rfl; have hcz37_6 : w34.cell? ⟨gb177, 6, none⟩ = some (.string (⟨#[]⟩ : ByteArray)) := (blk_cell BK177.out 6).trans rfl; have hcz37_7 : w34.cell? ⟨gb177, 7, none⟩ = some (.string (⟨#[]⟩ : ByteArray)) := (blk_cell BK177.out 7).trans rfl; have hcz37_8 : w34.cell? ⟨gb177, 8, none⟩ = some (.slice none 0 0) := (blk_cell BK177.out 8).trans rfl; have hfz37_0 := blk_frozen BK177.out 0; have hfz37_1 := blk_frozen BK177.out 1; have hfz37_2 := blk_frozen BK177.out 2; have hfz37_3 := blk_frozen BK177.out 3; have hfz37_4 := blk_frozen BK177.out 4; have hfz37_5 := blk_frozen BK177.out 5; have hfz37_6 := blk_frozen BK177.out 6; have hfz37_7 := blk_frozen BK177.out 7; have hfz37_8 := blk_frozen BK177.out 8; obtain ⟨Ao38, co38, eo38⟩ := Kd.V_slice HO175.out; subst eo38) | ((with_reducible refine gate_store (t := 31) (p := 4) rfl ?_); refine store_event (t := 31) (p := 4) (v := ?vo_w39) (w1 := (((((((((w34.setCell ⟨gb177, 0, none⟩ (.int .i64 t165)).setCell ⟨gb177, 1, none⟩ (.int .i64 t166)).setCell ⟨gb177, 2, none⟩ (.int .i64 t167)).setCell ⟨gb177, 3, none⟩ (.int .i64 t168)).setCell ⟨gb177, 4, none⟩ (.int .i64 t169)).setCell ⟨gb177, 5, none⟩ (.string t170)).setCell ⟨gb177, 6, none⟩ (.string t171)).setCell ⟨gb177, 7, none⟩ (.string t172)).setCell ⟨gb177, 8, none⟩ (.slice Ao38 t173.length co38))) ?hg ?ho ?hn ?hr ?_; (case ho => rfl); (case hg => rfl); (case hn => rfl); (case hr => first | (go_simp; done) | (go_simp; rfl)); intro w39 hw; have n0_ : Aside0 (Kd.R Kd.string 9 w39 w.heap.size (fun _ => True) v150 t149) := ⟨(by rw [hw]; exact (by (with_reducible repeat (first | apply Kd.R_alloc | apply Kd.R_drewN | apply Kd.R_drew)); exact Kd.R_mono (Kd.R_far (p := ⟨gb177, 8, none⟩) (Kd.R_far (p := ⟨gb177, 7, none⟩) (Kd.R_far (p := ⟨gb177, 6, none⟩) (Kd.R_far (p := ⟨gb177, 5, none⟩) (Kd.R_far (p := ⟨gb177, 4, none⟩) (Kd.R_far (p := ⟨gb177, 3, none⟩) (Kd.R_far (p := ⟨gb177, 2, none⟩) (Kd.R_far (p := ⟨gb177, 1, none⟩) (Kd.R_far (p := ⟨gb177, 0, none⟩) (Kd.R_types HO151.out BK177.out (by decide)) (fun _ hk => hk.2) (.int .i64 t165)) (fun _ hk => hk.2) (.int .i64 t166)) (fun _ hk => hk.2) (.int .i64 t167)) (fun _ hk => hk.2) (.int .i64 t168)) (fun _ hk => hk.2) (.int .i64 t169)) (fun _ hk => hk.2) (.string t170)) (fun _ hk => hk.2) (.string t171)) (fun _ hk => hk.2) (.string t172)) (fun _ hk => hk.2) (.slice Ao38 t173.length co38)) (fun _ hk => trivial)))⟩; have n1_ : Aside0 (Kd.V Kd.string 9 w39 w.heap.size (fun k_ => k_ ≠ gb140 ∧ k_ ≠ gb164 ∧ k_ ≠ gb177) (.slice Ao27 t160.length co27) t160) := ⟨(by rw [hw]; exact (by (with_reducible repeat (first | apply Kd.V_alloc | apply Kd.V_drewN | apply Kd.V_drew)); exact Kd.V_mono (Kd.V_far (p := ⟨gb177, 8, none⟩) (Kd.V_far (p := ⟨gb177, 7, none⟩) (Kd.V_far (p := ⟨gb177, 6, none⟩) (Kd.V_far (p := ⟨gb177, 5, none⟩) (Kd.V_far (p := ⟨gb177, 4, none⟩) (Kd.V_far (p := ⟨gb177, 3, none⟩) (Kd.V_far (p := ⟨gb177, 2, none⟩) (Kd.V_far (p := ⟨gb177, 1, none⟩) (Kd.V_far (p := ⟨gb177, 0, none⟩) (Kd.V_mono HO162.out (fun k_ hk => (⟨hk, by first | exact hk.2 | exact hk.2.2.2 | exact hk.2.2 | exact hk.2.1 | exact hk.2.2.1⟩ : _ ∧ k_ ≠ gb177))) (fun _ hk => hk.2) (.int .i64 t165)) (fun _ hk => hk.2) (.int .i64 t166)) (fun _ hk => hk.2) (.int .i64 t167)) (fun _ hk => hk.2) (.int .i64 t168)) (fun _ hk => hk.2) (.int .i64 t169)) (fun _ hk => hk.2) (.string t170)) (fun _ hk => hk.2) (.string t171)) (fun _ hk => hk.2) (.string t172)) (fun _ hk => hk.2) (.slice Ao38 t173.length co38)) (fun _ hk => ⟨hk.1.1.1, ⟨hk.1.1.2, hk.1.2⟩⟩)))⟩; have n2_ : Aside0 (Kd.V Kd.string 9 w39 w.heap.size (fun k_ => k_ ≠ gb140 ∧ k_ ≠ gb164 ∧ k_ ≠ gb177) (.slice Ao38 t173.length co38) t173) := ⟨(by rw [hw]; exact (by (with_reducible repeat (first | apply Kd.V_alloc | apply Kd.V_drewN | apply Kd.V_drew)); exact Kd.V_mono (Kd.V_far (p := ⟨gb177, 8, none⟩) (Kd.V_far (p := ⟨gb177, 7, none⟩) (Kd.V_far (p := ⟨gb177, 6, none⟩) (Kd.V_far (p := ⟨gb177, 5, none⟩) (Kd.V_far (p := ⟨gb177, 4, none⟩) (Kd.V_far (p := ⟨gb177, 3, none⟩) (Kd.V_far (p := ⟨gb177, 2, none⟩) (Kd.V_far (p := ⟨gb177, 1, none⟩) (Kd.V_far (p := ⟨gb177, 0, none⟩) (Kd.V_mono HO175.out (fun k_ hk => (⟨hk, by first | exact hk.2 | exact hk.2.2.2 | exact hk.2.2 | exact hk.2.1 | exact hk.2.2.1⟩ : _ ∧ k_ ≠ gb177))) (fun _ hk => hk.2) (.int .i64 t165)) (fun _ hk => hk.2) (.int .i64 t166)) (fun _ hk => hk.2) (.int .i64 t167)) (fun _ hk => hk.2) (.int .i64 t168)) (fun _ hk => hk.2) (.int .i64 t169)) (fun _ hk => hk.2) (.string t170)) (fun _ hk => hk.2) (.string t171)) (fun _ hk => hk.2) (.string t172)) (fun _ hk => hk.2) (.slice Ao38 t173.length co38)) (fun _ hk => ⟨hk.1.1.1, ⟨hk.1.1.2, hk.1.2⟩⟩)))⟩; have n3_ : Aside0 (w39.heap[gb140]? = some (.cells #[.int .i64 2, .int .i64 100] 23 (0, 0))) := ⟨(by rw [hw]; exact (by (with_reducible repeat (first | refine blk_drewN ?_ _ | refine blk_drew ?_ | refine blk_alloc ?_ _)); refine blk_far ?_ NB140_177.out _; (with_reducible repeat (first | refine blk_drewN ?_ _ | refine blk_drew ?_ | refine blk_alloc ?_ _)); refine blk_far ?_ NB140_177.out _; (with_reducible repeat (first | refine blk_drewN ?_ _ | refine blk_drew ?_ | refine blk_alloc ?_ _)); refine blk_far ?_ NB140_177.out _; (with_reducible repeat (first | refine blk_drewN ?_ _ | refine blk_drew ?_ | refine blk_alloc ?_ _)); refine blk_far ?_ NB140_177.out _; (with_reducible repeat (first | refine blk_drewN ?_ _ | refine blk_drew ?_ | refine blk_alloc ?_ _)); refine blk_far ?_ NB140_177.out _; (with_reducible repeat (first | refine blk_drewN ?_ _ | refine blk_drew ?_ | refine blk_alloc ?_ _)); refine blk_far ?_ NB140_177.out _; (with_reducible repeat (first | refine blk_drewN ?_ _ | refine blk_drew ?_ | refine blk_alloc ?_ _)); refine blk_far ?_ NB140_177.out _; (with_reducible repeat (first | refine blk_drewN ?_ _ | refine blk_drew ?_ | refine blk_alloc ?_ _)); refine blk_far ?_ NB140_177.out _; (with_reducible repeat (first | refine blk_drewN ?_ _ | refine blk_drew ?_ | refine blk_alloc ?_ _)); refine blk_far ?_ NB140_177.out _; (with_reducible repeat (first | refine blk_drewN ?_ _ | refine blk_drew ?_ | refine blk_alloc ?_ _)); exact BK140.out))⟩; have n4_ : Aside0 (w39.heap[gb164]? = some (.cells #[.int .i64 t152, .int .i64 t153, .int .i64 t154, .int .i64 t155, .int .i64 t156, .string t157, .string t158, .string t159, .slice Ao27 t160.length co27] 31 (0, 0))) := ⟨(by rw [hw]; exact (by (with_reducible repeat (first | refine blk_drewN ?_ _ | refine blk_drew ?_ | refine blk_alloc ?_ _)); refine blk_far ?_ NB164_177.out _; (with_reducible repeat (first | refine blk_drewN ?_ _ | refine blk_drew ?_ | refine blk_alloc ?_ _)); refine blk_far ?_ NB164_177.out _; (with_reducible repeat (first | refine blk_drewN ?_ _ | refine blk_drew ?_ | refine blk_alloc ?_ _)); refine blk_far ?_ NB164_177.out _; (with_reducible repeat (first | refine blk_drewN ?_ _ | refine blk_drew ?_ | refine blk_alloc ?_ _)); refine blk_far ?_ NB164_177.out _; (with_reducible repeat (first | refine blk_drewN ?_ _ | refine blk_drew ?_ | refine blk_alloc ?_ _)); refine blk_far ?_ NB164_177.out _; (with_reducible repeat (first | refine blk_drewN ?_ _ | refine blk_drew ?_ | refine blk_alloc ?_ _)); refine blk_far ?_ NB164_177.out _; (with_reducible repeat (first | refine blk_drewN ?_ _ | refine blk_drew ?_ | refine blk_alloc ?_ _)); refine blk_far ?_ NB164_177.out _; (with_reducible repeat (first | refine blk_drewN ?_ _ | refine blk_drew ?_ | refine blk_alloc ?_ _)); refine blk_far ?_ NB164_177.out _; (with_reducible repeat (first | refine blk_drewN ?_ _ | refine blk_drew ?_ | refine blk_alloc ?_ _)); refine blk_far ?_ NB164_177.out _; (with_reducible repeat (first | refine blk_drewN ?_ _ | refine blk_drew ?_ | refine blk_alloc ?_ _)); exact BK164.out))⟩; have n5_ : Aside0 (w39.heap[gb177]? = some (.cells #[.int .i64 t165, .int .i64 t166, .int .i64 t167, .int .i64 t168, .int .i64 t169, .string t170, .string t171, .string t172, .slice Ao38 t173.length co38] 31 (0, 0))) := ⟨(by rw [hw]; exact (by (with_reducible repeat (first | refine blk_drewN ?_ _ | refine blk_drew ?_ | refine blk_alloc ?_ _)); refine blk_put (cs := #[.int .i64 t165, .int .i64 t166, .int .i64 t167, .int .i64 t168, .int .i64 t169, .string t170, .string t171, .string t172, .slice none 0 0]) ?_ 8 _ rfl; (with_reducible repeat (first | refine blk_drewN ?_ _ | refine blk_drew ?_ | refine blk_alloc ?_ _)); refine blk_put (cs := #[.int .i64 t165, .int .i64 t166, .int .i64 t167, .int .i64 t168, .int .i64 t169, .string t170, .string t171, .string (⟨#[]⟩ : ByteArray), .slice none 0 0]) ?_ 7 _ rfl; (with_reducible repeat (first | refine blk_drewN ?_ _ | refine blk_drew ?_ | refine blk_alloc ?_ _)); refine blk_put (cs := #[.int .i64 t165, .int .i64 t166, .int .i64 t167, .int .i64 t168, .int .i64 t169, .string t170, .string (⟨#[]⟩ : ByteArray), .string (⟨#[]⟩ : ByteArray), .slice none 0 0]) ?_ 6 _ rfl; (with_reducible repeat (first | refine blk_drewN ?_ _ | refine blk_drew ?_ | refine blk_alloc ?_ _)); refine blk_put (cs := #[.int .i64 t165, .int .i64 t166, .int .i64 t167, .int .i64 t168, .int .i64 t169, .string (⟨#[]⟩ : ByteArray), .string (⟨#[]⟩ : ByteArray), .string (⟨#[]⟩ : ByteArray), .slice none 0 0]) ?_ 5 _ rfl; (with_reducible repeat (first | refine blk_drewN ?_ _ | refine blk_drew ?_ | refine blk_alloc ?_ _)); refine blk_put (cs := #[.int .i64 t165, .int .i64 t166, .int .i64 t167, .int .i64 t168, .int .i64 0, .string (⟨#[]⟩ : ByteArray), .string (⟨#[]⟩ : ByteArray), .string (⟨#[]⟩ : ByteArray), .slice none 0 0]) ?_ 4 _ rfl; (with_reducible repeat (first | refine blk_drewN ?_ _ | refine blk_drew ?_ | refine blk_alloc ?_ _)); refine blk_put (cs := #[.int .i64 t165, .int .i64 t166, .int .i64 t167, .int .i64 0, .int .i64 0, .string (⟨#[]⟩ : ByteArray), .string (⟨#[]⟩ : ByteArray), .string (⟨#[]⟩ : ByteArray), .slice none 0 0]) ?_ 3 _ rfl; (with_reducible repeat (first | refine blk_drewN ?_ _ | refine blk_drew ?_ | refine blk_alloc ?_ _)); refine blk_put (cs := #[.int .i64 t165, .int .i64 t166, .int .i64 0, .int .i64 0, .int .i64 0, .string (⟨#[]⟩ : ByteArray), .string (⟨#[]⟩ : ByteArray), .string (⟨#[]⟩ : ByteArray), .slice none 0 0]) ?_ 2 _ rfl; (with_reducible repeat (first | refine blk_drewN ?_ _ | refine blk_drew ?_ | refine blk_alloc ?_ _)); refine blk_put (cs := #[.int .i64 t165, .int .i64 0, .int .i64 0, .int .i64 0, .int .i64 0, .string (⟨#[]⟩ : ByteArray), .string (⟨#[]⟩ : ByteArray), .string (⟨#[]⟩ : ByteArray), .slice none 0 0]) ?_ 1 _ rfl; (with_reducible repeat (first | refine blk_drewN ?_ _ | refine blk_drew ?_ | refine blk_alloc ?_ _)); refine blk_put (cs := #[.int .i64 0, .int .i64 0, .int .i64 0, .int .i64 0, .int .i64 0, .string (⟨#[]⟩ : ByteArray), .string (⟨#[]⟩ : ByteArray), .string (⟨#[]⟩ : ByteArray), .slice none 0 0]) ?_ 0 _ rfl; (with_reducible repeat (first | refine blk_drewN ?_ _ | refine blk_drew ?_ | refine blk_alloc ?_ _)); exact BK177.out))⟩; have n6_ : Aside0 (Below w.heap.size w w39) := ⟨(by rw [hw]; exact (by repeat (first | (with_reducible first | exact HB.out | apply below_alloc | apply pw_below_drewN | apply below_drew1 | refine below_set ?_ GE140.out | refine below_set ?_ GE164.out | refine below_set ?_ GE177.out) | exact HB.out)))⟩; clear hw; clear HO151; clear HO162; clear HO175; clear BK140; clear BK164; clear BK177; clear HB; have HO151 := n0_; have HO162 := n1_; have HO175 := n2_; have BK140 := n3_; have BK164 := n4_; have BK177 := n5_; have HB := n6_; clear n0_ n1_ n2_ n3_ n4_ n5_ n6_; have hcz40_0 : w39.cell? ⟨gb177, 0, none⟩ = some (.int .i64 t165) := (blk_cell BK177.out 0).trans rfl; have hcz40_1 : w39.cell? ⟨gb177, 1, none⟩ = some (.int .i64 t166) := (blk_cell BK177.out 1).trans rfl; have hcz40_2 : w39.cell? ⟨gb177, 2, none⟩ = some (.int .i64 t167) := (blk_cell BK177.out 2).trans rfl; have hcz40_3 : w39.cell? ⟨gb177, 3, none⟩ = some (.int .i64 t168) := (blk_cell BK177.out 3).trans rfl; have hcz40_4 : w39.cell? ⟨gb177, 4, none⟩ = some (.int .i64 t169) := (blk_cell BK177.out 4).trans rfl; have hcz40_5 : w39.cell? ⟨gb177, 5, none⟩ = some (.string t170) := (blk_cell BK177.out 5).trans rfl; have hcz40_6 : w39.cell? ⟨gb177, 6, none⟩ = some (.string t171) := (blk_cell BK177.out 6).trans rfl; have hcz40_7 : w39.cell? ⟨gb177, 7, none⟩ = some (.string t172) := (blk_cell BK177.out 7).trans rfl; have hcz40_8 : w39.cell? ⟨gb177, 8, none⟩ = some (.slice Ao38 t173.length co38) := (blk_cell BK177.out 8).trans rfl; have hfz40_0 := blk_frozen BK177.out 0; have hfz40_1 := blk_frozen BK177.out 1; have hfz40_2 := blk_frozen BK177.out 2; have hfz40_3 := blk_frozen BK177.out 3; have hfz40_4 := blk_frozen BK177.out 4; have hfz40_5 := blk_frozen BK177.out 5; have hfz40_6 := blk_frozen BK177.out 6; have hfz40_7 := blk_frozen BK177.out 7; have hfz40_8 := blk_frozen BK177.out 8; have hcz41_0 : w39.cell? ⟨gb140, 0, none⟩ = some (.int .i64 2) := (blk_cell BK140.out 0).trans rfl; have hcz41_1 : w39.cell? ⟨gb140, 1, none⟩ = some (.int .i64 100) := (blk_cell BK140.out 1).trans rfl; have hfz41_0 := blk_frozen BK140.out 0; have hfz41_1 := blk_frozen BK140.out 1) | ((with_reducible refine gate_callee (f := 13) rfl ?_); refine goesL_ (some 24) rfl rfl Tryd.func13 (by kernel_rfl) rfl #[.agg #[.int .i64 t165, .int .i64 t166, .int .i64 t167, .int .i64 t168, .int .i64 t169, .string t170, .string t171, .string t172, .slice Ao38 t173.length co38], .agg #[.int .i64 2, .int .i64 100], .string (⟨#[100]⟩ : ByteArray), .int .i64 10] rfl (by (try simp only [List.map_toArray, List.map_cons, List.map_nil]); first | done | rfl | (simp only [List.length_drop, List.length_take]; rfl)) ?_; (with_reducible refine (batch_Join.calls k t165 t166 t167 t168 t169 t170 t171 t172 (fun k_ => (k_ ≠ gb140 ∧ (k_ ≠ gb164 ∧ k_ ≠ gb177))) _ _ t173 2 100 (⟨#[100]⟩ : ByteArray) 10 t178 t179 t180 t181 t182 t183 t184 t185 t186 t189 _ ?side1 ?side2 A4.out).mono ?_); (case side1 => exact HO175.out); (case side2 => exact Tabs.below HT.out (by repeat (first | (with_reducible first | exact HB.out | apply below_alloc | apply pw_below_drewN | apply below_drew1 | refine below_set ?_ GE140.out | refine below_set ?_ GE164.out | refine below_set ?_ GE177.out) | exact HB.out))); rintro e w42 ⟨v187, rfl, ho0, hb⟩; refine ⟨_, rfl, ?_⟩; have n0_ := Aside0.mk (Kd.R_below (by (with_reducible repeat (first | apply Kd.R_alloc | apply Kd.R_drewN | apply Kd.R_drew)); exact HO151.out) hb); have n1_ := Aside0.mk (Kd.V_below (by (with_reducible repeat (first | apply Kd.V_alloc | apply Kd.V_drewN | apply Kd.V_drew)); exact HO162.out) hb); have n2_ := Aside0.mk (Kd.V_below (by (with_reducible repeat (first | apply Kd.V_alloc | apply Kd.V_drewN | apply Kd.V_drew)); exact HO175.out) hb); have n3_ := Aside0.mk (Kd.V_lower (Kd.V_mono (ok' := fun k_ => k_ ≠ gb140 ∧ k_ ≠ gb164 ∧ k_ ≠ gb177) ho0 (fun k_ hk_ => ⟨Or.elim hk_ (fun hs_ => hs_.1) (fun hn_ => (Kd.freshB (g := gb140) (o := .cells #[.int .i64 2, .int .i64 100] 23 (0, 0)) (by (with_reducible repeat (first | refine blk_drewN ?_ _ | refine blk_drew ?_ | refine blk_alloc ?_ _)); exact BK140.out) k_ hn_)), Or.elim hk_ (fun hs_ => hs_.2.1) (fun hn_ => (Kd.freshB (g := gb164) (o := .cells #[.int .i64 t152, .int .i64 t153, .int .i64 t154, .int .i64 t155, .int .i64 t156, .string t157, .string t158, .string t159, .slice Ao27 t160.length co27] 31 (0, 0)) (by (with_reducible repeat (first | refine blk_drewN ?_ _ | refine blk_drew ?_ | refine blk_alloc ?_ _)); exact BK164.out) k_ hn_)), Or.elim hk_ (fun hs_ => hs_.2.2) (fun hn_ => (Kd.freshB (g := gb177) (o := .cells #[.int .i64 t165, .int .i64 t166, .int .i64 t167, .int .i64 t168, .int .i64 t169, .string t170, .string t171, .string t172, .slice Ao38 t173.length co38] 31 (0, 0)) (by (with_reducible repeat (first | refine blk_drewN ?_ _ | refine blk_drew ?_ | refine blk_alloc ?_ _)); exact BK177.out) k_ hn_))⟩)) (below_size (by repeat (first | (with_reducible first | exact HB.out | apply below_alloc | apply pw_below_drewN | apply below_drew1 | refine below_set ?_ GE140.out | refine below_set ?_ GE164.out | refine below_set ?_ GE177.out) | exact HB.out)))); have n4_ := Aside0.mk (blk_below (g := gb140) (o := .cells #[.int .i64 2, .int .i64 100] 23 (0, 0)) (by (with_reducible repeat (first | refine blk_drewN ?_ _ | refine blk_drew ?_ | refine blk_alloc ?_ _)); exact BK140.out) hb); have n5_ := Aside0.mk (blk_below (g := gb164) (o := .cells #[.int .i64 t152, .int .i64 t153, .int .i64 t154, .int .i64 t155, .int .i64 t156, .string t157, .string t158, .string t159, .slice Ao27 t160.length co27] 31 (0, 0)) (by (with_reducible repeat (first | refine blk_drewN ?_ _ | refine blk_drew ?_ | refine blk_alloc ?_ _)); exact BK164.out) hb); have n6_ := Aside0.mk (blk_below (g := gb177) (o := .cells #[.int .i64 t165, .int .i64 t166, .int .i64 t167, .int .i64 t168, .int .i64 t169, .string t170, .string t171, .string t172, .slice Ao38 t173.length co38] 31 (0, 0)) (by (with_reducible repeat (first | refine blk_drewN ?_ _ | refine blk_drew ?_ | refine blk_alloc ?_ _)); exact BK177.out) hb); have n7_ := Aside0.mk (below_step (by repeat (first | (with_reducible first | exact HB.out | apply below_alloc | apply pw_below_drewN | apply below_drew1 | refine below_set ?_ GE140.out | refine below_set ?_ GE164.out | refine below_set ?_ GE177.out) | exact HB.out)) hb); clear HO151; clear HO162; clear HO175; clear BK140; clear BK164; clear BK177; clear HB; have HO151 := n0_; have HO162 := n1_; have HO175 := n2_; have HO188 := n3_; have BK140 := n4_; have BK164 := n5_; have BK177 := n6_; have HB := n7_; clear n0_ n1_ n2_ n3_ n4_ n5_ n6_ n7_; (try clear hb); (try clear hb2); (try clear hk); (try clear hi); (try clear ho0)) | ((with_reducible refine gate_dst (N := 6) rfl ?_); (try (refine gate_guard (by rfl) ?_; dsimp only)); refine box_event ?hg (N := 6) ?hd (cs := #[.int .i64 0, .int .i64 0, .int .i64 0, .int .i64 0, .int .i64 0, .string (⟨#[]⟩ : ByteArray), .string (⟨#[]⟩ : ByteArray), .string (⟨#[]⟩ : ByteArray), .slice none 0 0]) (t := 31) ?hr ?_; (case hd => rfl); (case hg => rfl); (case hr => first | (go_simp; done) | (go_simp; rfl)); intro gb190 hg w43 hbox hb; have n0_ := Aside0.mk (Kd.R_below (by (with_reducible repeat (first | apply Kd.R_alloc | apply Kd.R_drewN | apply Kd.R_drew)); exact HO151.out) hb); have n1_ := Aside0.mk (Kd.V_below (Kd.V_elderB (by (with_reducible repeat (first | apply Kd.V_alloc | apply Kd.V_drewN | apply Kd.V_drew)); exact HO162.out) gb190 (Nat.le_of_eq hg.symm)) hb); have n2_ := Aside0.mk (Kd.V_below (Kd.V_elderB (by (with_reducible repeat (first | apply Kd.V_alloc | apply Kd.V_drewN | apply Kd.V_drew)); exact HO175.out) gb190 (Nat.le_of_eq hg.symm)) hb); have n3_ := Aside0.mk (Kd.V_below (Kd.V_elderB (by (with_reducible repeat (first | apply Kd.V_alloc | apply Kd.V_drewN | apply Kd.V_drew)); exact HO188.out) gb190 (Nat.le_of_eq hg.symm)) hb); have n4_ := Aside0.mk (blk_below (g := gb140) (o := .cells #[.int .i64 2, .int .i64 100] 23 (0, 0)) (by (with_reducible repeat (first | refine blk_drewN ?_ _ | refine blk_drew ?_ | refine blk_alloc ?_ _)); exact BK140.out) hb); have n5_ := Aside0.mk (blk_below (g := gb164) (o := .cells #[.int .i64 t152, .int .i64 t153, .int .i64 t154, .int .i64 t155, .int .i64 t156, .string t157, .string t158, .string t159, .slice Ao27 t160.length co27] 31 (0, 0)) (by (with_reducible repeat (first | refine blk_drewN ?_ _ | refine blk_drew ?_ | refine blk_alloc ?_ _)); exact BK164.out) hb); have n6_ := Aside0.mk (blk_below (g := gb177) (o := .cells #[.int .i64 t165, .int .i64 t166, .int .i64 t167, .int .i64 t168, .int .i64 t169, .string t170, .string t171, .string t172, .slice Ao38 t173.length co38] 31 (0, 0)) (by (with_reducible repeat (first | refine blk_drewN ?_ _ | refine blk_drew ?_ | refine blk_alloc ?_ _)); exact BK177.out) hb); have n7_ := Aside0.mk (below_step (by repeat (first | (with_reducible first | exact HB.out | apply below_alloc | apply pw_below_drewN | apply below_drew1 | refine below_set ?_ GE140.out | refine below_set ?_ GE164.out | refine below_set ?_ GE177.out) | exact HB.out)) hb); have n8_ := Aside0.mk (hbox); have n9_ := Aside0.mk ((by rw [hg]; exact (below_size (by repeat (first | (with_reducible first | exact HB.out | apply below_alloc | apply pw_below_drewN | apply below_drew1 | refine below_set ?_ GE140.out | refine below_set ?_ GE164.out | refine below_set ?_ GE177.out) | exact HB.out))) : w.heap.size ≤ gb190)); have n10_ := Aside0.mk ((by rw [hg]; exact (below_size (by repeat (first | (with_reducible first | exact HB.out | apply below_alloc | apply pw_below_drewN | apply below_drew1 | refine below_set ?_ GE140.out | refine below_set ?_ GE164.out | refine below_set ?_ GE177.out) | exact HB.out))) : w.heap.size ≤ gb190)); have n11_ := Aside0.mk ((by rw [hg]; exact Nat.ne_of_lt (blk_lt (g := gb140) (o := .cells #[.int .i64 2, .int .i64 100] 23 (0, 0)) (by (with_reducible repeat (first | refine blk_drewN ?_ _ | refine blk_drew ?_ | refine blk_alloc ?_ _)); exact BK140.out)) : gb140 ≠ gb190)); have n12_ := Aside0.mk ((by rw [hg]; exact Nat.ne_of_gt (blk_lt (g := gb140) (o := .cells #[.int .i64 2, .int .i64 100] 23 (0, 0)) (by (with_reducible repeat (first | refine blk_drewN ?_ _ | refine blk_drew ?_ | refine blk_alloc ?_ _)); exact BK140.out)) : gb190 ≠ gb140)); have n13_ := Aside0.mk ((by rw [hg]; exact Nat.ne_of_lt (blk_lt (g := gb164) (o := .cells #[.int .i64 t152, .int .i64 t153, .int .i64 t154, .int .i64 t155, .int .i64 t156, .string t157, .string t158, .string t159, .slice Ao27 t160.length co27] 31 (0, 0)) (by (with_reducible repeat (first | refine blk_drewN ?_ _ | refine blk_drew ?_ | refine blk_alloc ?_ _)); exact BK164.out)) : gb164 ≠ gb190)); have n14_ := Aside0.mk ((by rw [hg]; exact Nat.ne_of_gt (blk_lt (g := gb164) (o := .cells #[.int .i64 t152, .int .i64 t153, .int .i64 t154, .int .i64 t155, .int .i64 t156, .string t157, .string t158, .string t159, .slice Ao27 t160.length co27] 31 (0, 0)) (by (with_reducible repeat (first | refine blk_drewN ?_ _ | refine blk_drew ?_ | refine blk_alloc ?_ _)); exact BK164.out)) : gb190 ≠ gb164)); have n15_ := Aside0.mk ((by rw [hg]; exact Nat.ne_of_lt (blk_lt (g := gb177) (o := .cells #[.int .i64 t165, .int .i64 t166, .int .i64 t167, .int .i64 t168, .int .i64 t169, .string t170, .string t171, .string t172, .slice Ao38 t173.length co38] 31 (0, 0)) (by (with_reducible repeat (first | refine blk_drewN ?_ _ | refine blk_drew ?_ | refine blk_alloc ?_ _)); exact BK177.out)) : gb177 ≠ gb190)); have n16_ := Aside0.mk ((by rw [hg]; exact Nat.ne_of_gt (blk_lt (g := gb177) (o := .cells #[.int .i64 t165, .int .i64 t166, .int .i64 t167, .int .i64 t168, .int .i64 t169, .string t170, .string t171, .string t172, .slice Ao38 t173.length co38] 31 (0, 0)) (by (with_reducible repeat (first | refine blk_drewN ?_ _ | refine blk_drew ?_ | refine blk_alloc ?_ _)); exact BK177.out)) : gb190 ≠ gb177)); clear HO151; clear HO162; clear HO175; clear HO188; clear BK140; clear BK164; clear BK177; clear HB; have HO151 := n0_; have HO162 := n1_; have HO175 := n2_; have HO188 := n3_; have BK140 := n4_; have BK164 := n5_; have BK177 := n6_; have HB := n7_; have BK190 := n8_; have GW190 := n9_; have GE190 := n10_; have NB140_190 := n11_; have NB190_140 := n12_; have NB164_190 := n13_; have NB190_164 := n14_; have NB177_190 := n15_; have NB190_177 := n16_; clear n0_ n1_ n2_ n3_ n4_ n5_ n6_ n7_ n8_ n9_ n10_ n11_ n12_ n13_ n14_ n15_ n16_; clear hb hbox hg; have hnb44 := NB190_140.out; have hnc44 := NB140_190.out; have hnb45 := NB190_164.out; have hnc45 := NB164_190.out; have hnb46 := NB190_177.out; have hnc46 := NB177_190.out; have hcz47_0 : w43.cell? ⟨gb190, 0, none⟩ = some (.int .i64 0) := (blk_cell BK190.out 0).trans rfl; have hcz47_1 : w43.cell? ⟨gb190, 1, none⟩ = some (.int .i64 0) := (blk_cell BK190.out 1).trans rfl; have hcz47_2 : w43.cell? ⟨gb190, 2, none⟩ = some (.int .i64 0) := (blk_cell BK190.out 2).trans rfl; have hcz47_3 : w43.cell? ⟨gb190, 3, none⟩ = some (.int .i64 0) := (blk_cell BK190.out 3).trans rfl; have hcz47_4 : w43.cell? ⟨gb190, 4, none⟩ = some (.int .i64 0) := (blk_cell BK190.out 4).trans rfl; have hcz47_5 : w43.cell? ⟨gb190, 5, none⟩ = some (.string (⟨#[]⟩ : ByteArray)) := (blk_cell BK190.out 5).trans rfl; have hcz47_6 : w43.cell? ⟨gb190, 6, none⟩ = some (.string (⟨#[]⟩ : ByteArray)) := (blk_cell BK190.out 6).trans rfl; have hcz47_7 : w43.cell? ⟨gb190, 7, none⟩ = some (.string (⟨#[]⟩ : ByteArray)) := (blk_cell BK190.out 7).trans rfl; have hcz47_8 : w43.cell? ⟨gb190, 8, none⟩ = some (.slice none 0 0) := (blk_cell BK190.out 8).trans rfl; have hfz47_0 := blk_frozen BK190.out 0; have hfz47_1 := blk_frozen BK190.out 1; have hfz47_2 := blk_frozen BK190.out 2; have hfz47_3 := blk_frozen BK190.out 3; have hfz47_4 := blk_frozen BK190.out 4; have hfz47_5 := blk_frozen BK190.out 5; have hfz47_6 := blk_frozen BK190.out 6; have hfz47_7 := blk_frozen BK190.out 7; have hfz47_8 := blk_frozen BK190.out 8; obtain ⟨Ao48, co48, eo48⟩ := Kd.V_slice HO188.out; subst eo48; have hcz49_0 : w43.cell? ⟨gb177, 0, none⟩ = some (.int .i64 t165) := (blk_cell BK177.out 0).trans rfl; have hcz49_1 : w43.cell? ⟨gb177, 1, none⟩ = some (.int .i64 t166) := (blk_cell BK177.out 1).trans rfl; have hcz49_2 : w43.cell? ⟨gb177, 2, none⟩ = some (.int .i64 t167) := (blk_cell BK177.out 2).trans rfl; have hcz49_3 : w43.cell? ⟨gb177, 3, none⟩ = some (.int .i64 t168) := (blk_cell BK177.out 3).trans rfl; have hcz49_4 : w43.cell? ⟨gb177, 4, none⟩ = some (.int .i64 t169) := (blk_cell BK177.out 4).trans rfl; have hcz49_5 : w43.cell? ⟨gb177, 5, none⟩ = some (.string t170) := (blk_cell BK177.out 5).trans rfl; have hcz49_6 : w43.cell? ⟨gb177, 6, none⟩ = some (.string t171) := (blk_cell BK177.out 6).trans rfl; have hcz49_7 : w43.cell? ⟨gb177, 7, none⟩ = some (.string t172) := (blk_cell BK177.out 7).trans rfl; have hcz49_8 : w43.cell? ⟨gb177, 8, none⟩ = some (.slice Ao38 t173.length co38) := (blk_cell BK177.out 8).trans rfl; have hfz49_0 := blk_frozen BK177.out 0; have hfz49_1 := blk_frozen BK177.out 1; have hfz49_2 := blk_frozen BK177.out 2; have hfz49_3 := blk_frozen BK177.out 3; have hfz49_4 := blk_frozen BK177.out 4; have hfz49_5 := blk_frozen BK177.out 5; have hfz49_6 := blk_frozen BK177.out 6; have hfz49_7 := blk_frozen BK177.out 7; have hfz49_8 := blk_frozen BK177.out 8; have hcz50_0 : w43.cell? ⟨gb164, 0, none⟩ = some (.int .i64 t152) := (blk_cell BK164.out 0).trans rfl; have hcz50_1 : w43.cell? ⟨gb164, 1, none⟩ = some (.int .i64 t153) := (blk_cell BK164.out 1).trans rfl; have hcz50_2 : w43.cell? ⟨gb164, 2, none⟩ = some (.int .i64 t154) := (blk_cell BK164.out 2).trans rfl; have hcz50_3 : w43.cell? ⟨gb164, 3, none⟩ = some (.int .i64 t155) := (blk_cell BK164.out 3).trans rfl; have hcz50_4 : w43.cell? ⟨gb164, 4, none⟩ = some (.int .i64 t156) := (blk_cell BK164.out 4).trans rfl; have hcz50_5 : w43.cell? ⟨gb164, 5, none⟩ = some (.string t157) := (blk_cell BK164.out 5).trans rfl; have hcz50_6 : w43.cell? ⟨gb164, 6, none⟩ = some (.string t158) := (blk_cell BK164.out 6).trans rfl; have hcz50_7 : w43.cell? ⟨gb164, 7, none⟩ = some (.string t159) := (blk_cell BK164.out 7).trans rfl; have hcz50_8 : w43.cell? ⟨gb164, 8, none⟩ = some (.slice Ao27 t160.length co27) := (blk_cell BK164.out 8).trans rfl; have hfz50_0 := blk_frozen BK164.out 0; have hfz50_1 := blk_frozen BK164.out 1; have hfz50_2 := blk_frozen BK164.out 2; have hfz50_3 := blk_frozen BK164.out 3; have hfz50_4 := blk_frozen BK164.out 4; have hfz50_5 := blk_frozen BK164.out 5; have hfz50_6 := blk_frozen BK164.out 6; have hfz50_7 := blk_frozen BK164.out 7; have hfz50_8 := blk_frozen BK164.out 8))
            go_ret
            exact ⟨by first | rfl | (simp [errW_none, errW_some] <;> rfl) | (simp [*, errW_none, errW_some] <;> rfl), by repeat (first | (with_reducible first | exact HB.out | apply below_alloc | apply pw_below_drewN | apply below_drew1 | refine below_set ?_ GE140.out | refine below_set ?_ GE164.out | refine below_set ?_ GE177.out | refine below_set ?_ GE190.out) | exact HB.out)⟩
          · rw [if_neg c9] at H
            have c9b0 : (t166 == 20) = false := beq_eq_false_iff_ne.mpr c9
            have c9b1 : (t166 != 20) = true := bne_iff_ne.mpr c9
            obtain rfl := Option.some.inj H
            exact absurd HRT.out (by decide)
        · rw [if_neg c8] at H
          have c8b0 : ((t173.length : Int) == 2) = false := beq_eq_false_iff_ne.mpr c8
          have c8b1 : ((t173.length : Int) != 2) = true := bne_iff_ne.mpr c8
          obtain rfl := Option.some.inj H
          exact absurd HRT.out (by decide)
      · rw [if_neg c7] at H
        have c7b0 : (t189 == 111) = false := beq_eq_false_iff_ne.mpr c7
        have c7b1 : (t189 != 111) = true := bne_iff_ne.mpr c7
        obtain rfl := Option.some.inj H
        exact absurd HRT.out (by decide)
    · rw [if_neg c6] at H
      have c6b0 : (t176 == 0) = false := beq_eq_false_iff_ne.mpr c6
      have c6b1 : (t176 != 0) = true := bne_iff_ne.mpr c6
      obtain rfl := Option.some.inj H
      exact absurd HRT.out (by decide)
  · rw [if_neg c5] at H
    have c5b0 : (t163 == 0) = false := beq_eq_false_iff_ne.mpr c5
    have c5b1 : (t163 != 0) = true := bne_iff_ne.mpr c5
    obtain rfl := Option.some.inj H
    exact absurd HRT.out (by decide)

end Go.Proofs.YtapfpdjcbeiibaaDoor.PAll
