
import Derived.Test.YtfikgnneajlgbaaQBankApartBankOf
set_option linter.unusedVariables false
set_option linter.unusedSimpArgs false
namespace Go.Proofs.Ytfikgnneajlgbaa.PAll
open Go Go.Proofs Go.RowKit Go.Proofs.YtfikgnneajlgbaaW.PrintWords Go.Proofs.YtfikgnneajlgbaaW.PrintLast Go.Proofs.YtfikgnneajlgbaaW.PrintMore Go.Maps
attribute [local go_sem] min2_int min_two
structure Only (W W1 : World) (b : Nat) : Prop where
  rest : ∀ k, k ≠ b → W1.heap[k]? = W.heap[k]?
  size : W1.heap.size = W.heap.size
  below : ∀ B, B ≤ b → Below B W W1
theorem Only.refl (W : World) (b : Nat) : Only W W b := ⟨fun _ _ => rfl, rfl, fun _ _ => Below.refl _ _⟩
theorem Only.drew {W W1 : World} {b : Nat} (h : Only W W1 b) : Only W W1.drew b := ⟨h.rest, h.size, fun B hB => below_drew (h.below B hB)⟩
theorem Only.set {W W1 : World} {b : Nat} (h : Only W W1 b) (i : Nat) (u : Value) : Only W (W1.setCell ⟨b, i, none⟩ u) b :=
  ⟨fun k hk => (Below.heap_setCell W1 _ u k hk).trans (h.rest k hk), by rw [World.size_setCell]; exact h.size, fun B hB => (h.below B hB).setCell hB _⟩
theorem Only.keep {W W1 : World} {b : Nat} (h : Only W W1 b) (k : Nat) (o : Obj) (hk : k ≠ b) (hb : W.heap[k]? = some o) : W1.heap[k]? = some o := (h.rest k hk).trans hb
def rightT (t : Int) : Bool := decide (0 ≤ t) && decide (t ≤ 1000000000000)
def askA (t : Int) (a : Acc) : Bool × Acc := if rightT t = true then (true, if a.held = true then a else { a with amount := t, held := true }) else (false, a)
def askC (a : Acc) : Bool × Acc := if a.held = true then (decide (0 < wrap64 (a.times + 1)), ⟨0, mn (wrap64 (a.paid + a.amount)) 1000000000000, false, wrap64 (a.times + 1)⟩) else (decide (0 < a.times), a)
def askV (a : Acc) : Bool × Acc := if 0 < a.times then (false, a) else (true, { a with amount := 0, held := false })
theorem cells65 {W : World} {g : Nat} {a b c d : Value} (h : W.heap[g]? = some (.cells #[a, b, c, d] 65 (0, 0))) : W.cell? ⟨g, 0, none⟩ = some a ∧ W.cell? ⟨g, 1, none⟩ = some b ∧ W.cell? ⟨g, 2, none⟩ = some c ∧ W.cell? ⟨g, 3, none⟩ = some d :=
  ⟨(blk_cell h 0).trans rfl, (blk_cell h 1).trans rfl, (blk_cell h 2).trans rfl, (blk_cell h 3).trans rfl⟩
set_option maxHeartbeats 4000000 in
set_option maxRecDepth 100000 in
theorem right21_calls (t : Int) (w : World) : Calls Try.prog 21 #[.int .i64 t] w fun e w' => e = .returned (.bool (rightT t)) ∧ w' = w := by
  unfold rightT
  by_cases c : 0 ≤ t
  · have c1 : decide (0 ≤ t) = true := decide_eq_true c
    go_enter Try.func21, Try.ntmps21
    go_wp2
    go_ret
    exact ⟨by simp [c], rfl⟩
  · have c1 : decide (0 ≤ t) = false := decide_eq_false c
    go_enter Try.func21, Try.ntmps21
    go_wp2
    go_ret
    exact ⟨by simp [c], rfl⟩
set_option maxHeartbeats 4000000 in
set_option maxRecDepth 100000 in
theorem askV_calls (b : Nat) (a : Acc) (w : World) (hb : w.heap[b]? = some (.cells (accCells a) 65 (0, 0))) : Calls Try.prog 24 #[ptr b] w fun e w' => e = .returned (.bool (askV a).1) ∧ w'.heap[b]? = some (.cells (accCells (askV a).2) 65 (0, 0)) ∧ Only w w' b := by
  have hu65 := Try.underlying65
  obtain ⟨am, pd, hd, tm⟩ := a
  unfold accCells at hb ⊢
  simp only at hb ⊢
  obtain ⟨hc0, hc1, hc2, hc3⟩ := cells65 hb
  have hf0 := blk_frozen hb 0
  have hf2 := blk_frozen hb 2
  have HB := Aside0.mk hb
  clear hb
  by_cases c : 0 < tm
  · have c1 : decide (0 < tm) = true := decide_eq_true c
    have hv : askV ⟨am, pd, hd, tm⟩ = (false, ⟨am, pd, hd, tm⟩) := if_pos c
    rw [hv]
    clear c hv
    go_enter Try.func24, Try.ntmps24
    go_wp2
    go_ret
    exact ⟨rfl, HB.out, Only.refl _ _⟩
  · have c1 : decide (0 < tm) = false := decide_eq_false c
    have hv : askV ⟨am, pd, hd, tm⟩ = (true, ⟨0, pd, false, tm⟩) := if_neg c
    rw [hv]
    clear c hv
    go_enter Try.func24, Try.ntmps24
    go_wp2
    go_ret
    exact ⟨rfl, blk_put (blk_put HB.out 0 _ rfl) 2 _ rfl, ((Only.refl _ _).set 0 _).set 2 _⟩
set_option maxHeartbeats 4000000 in
set_option maxRecDepth 100000 in
theorem askA_calls (b b7 : Nat) (t : Int) (a : Acc) (w : World) (hb : w.heap[b]? = some (.cells (accCells a) 65 (0, 0))) (h7 : w.cell? ⟨b7, 0, none⟩ = some (.int .i64 t)) (hne : b7 ≠ b) : Calls Try.prog 20 #[ptr b, ptr b7] w fun e w' => e = .returned (.bool (askA t a).1) ∧ w'.heap[b]? = some (.cells (accCells (askA t a).2) 65 (0, 0)) ∧ Only w w' b := by
  have hu65 := Try.underlying65
  obtain ⟨am, pd, hd, tm⟩ := a
  unfold accCells at hb ⊢
  simp only at hb ⊢
  obtain ⟨hc0, hc1, hc2, hc3⟩ := cells65 hb
  have hf0 := blk_frozen hb 0
  have hf2 := blk_frozen hb 2
  have HB := Aside0.mk hb
  clear hb
  cases hr : rightT t with
  | false =>
    have hv : askA t ⟨am, pd, hd, tm⟩ = (false, ⟨am, pd, hd, tm⟩) := by unfold askA; rw [hr]; rfl
    rw [hv]
    have HR := Aside0.mk hr
    clear hv hr
    go_enter Try.func20, Try.ntmps20
    go_wp2_with (go_at_call 21; refine (right21_calls t _).mono ?_; rintro e w1 ⟨rfl, rfl⟩; rw [HR.out])
    go_ret
    exact ⟨rfl, HB.out, Only.refl _ _⟩
  | true =>
    have HR := Aside0.mk hr
    cases hd with
    | true =>
      have hv : askA t ⟨am, pd, true, tm⟩ = (true, ⟨am, pd, true, tm⟩) := by unfold askA; rw [hr]; rfl
      rw [hv]
      clear hv hr
      go_enter Try.func20, Try.ntmps20
      go_wp2_with (go_at_call 21; refine (right21_calls t _).mono ?_; rintro e w1 ⟨rfl, rfl⟩; rw [HR.out])
      go_ret
      exact ⟨rfl, HB.out, Only.refl _ _⟩
    | false =>
      have hv : askA t ⟨am, pd, false, tm⟩ = (true, ⟨t, pd, true, tm⟩) := by unfold askA; rw [hr]; rfl
      rw [hv]
      clear hv hr
      go_enter Try.func20, Try.ntmps20
      go_wp2_with (go_at_call 21; refine (right21_calls t _).mono ?_; rintro e w1 ⟨rfl, rfl⟩; rw [HR.out])
      go_ret
      exact ⟨rfl, blk_put (blk_put HB.out 0 _ rfl) 2 _ rfl, ((Only.refl _ _).set 0 _).set 2 _⟩
set_option maxHeartbeats 4000000 in
set_option maxRecDepth 100000 in
theorem askC_calls (b : Nat) (a : Acc) (w : World) (hb : w.heap[b]? = some (.cells (accCells a) 65 (0, 0))) : Calls Try.prog 22 #[ptr b] w fun e w' => e = .returned (.bool (askC a).1) ∧ w'.heap[b]? = some (.cells (accCells (askC a).2) 65 (0, 0)) ∧ Only w w' b := by
  have hu65 := Try.underlying65
  obtain ⟨am, pd, hd, tm⟩ := a
  unfold accCells at hb ⊢
  simp only at hb ⊢
  obtain ⟨hc0, hc1, hc2, hc3⟩ := cells65 hb
  have hf0 := blk_frozen hb 0
  have hf1 := blk_frozen hb 1
  have hf2 := blk_frozen hb 2
  have hf3 := blk_frozen hb 3
  have HB := Aside0.mk hb
  clear hb
  cases hd with
  | false =>
    have hv : askC ⟨am, pd, false, tm⟩ = (decide (0 < tm), ⟨am, pd, false, tm⟩) := rfl
    rw [hv]
    clear hv
    go_enter Try.func22, Try.ntmps22
    go_wp2
    go_ret
    exact ⟨rfl, HB.out, Only.refl _ _⟩
  | true =>
    have hv : askC ⟨am, pd, true, tm⟩ = (decide (0 < wrap64 (tm + 1)), ⟨0, mn (wrap64 (pd + am)) 1000000000000, false, wrap64 (tm + 1)⟩) := rfl
    rw [hv]
    clear hv
    have mixed : Try.prog.follows Departure.mixedOrders = true := by kernel_rfl
    obtain ⟨s1, hs1⟩ : ∃ s1, IntKind.i64.wrap (pd + am) = s1 := ⟨_, rfl⟩
    have hs2 : wrap64 (pd + am) = s1 := (i64_w _).symm.trans hs1
    rw [hs2]
    obtain ⟨s3, hs3⟩ : ∃ s3, (if 1000000000000 < s1 then (1000000000000 : Int) else s1) = s3 := ⟨_, rfl⟩
    rw [show mn s1 1000000000000 = s3 from hs3]
    go_enter Try.func22, Try.ntmps22
    go_upto_region 2 with fail
    go_region_law_o (fail)
    all_goals have HB2 := Aside0.mk (blk_drew (blk_put HB.out 1 (.int .i64 s3) rfl))
    all_goals have HO2 := Aside0.mk ((Only.refl w b).set 1 (.int .i64 s3)).drew
    all_goals clear hc0 hc1 hc2 hc3 hf0 hf1 hf2 hf3 HB
    all_goals generalize (w.setCell ⟨b, 1, none⟩ (.int .i64 s3)).drew = w1 at HB2 HO2 ⊢
    all_goals obtain ⟨hc0, hc1, hc2, hc3⟩ := cells65 HB2.out
    all_goals have hf0 := blk_frozen HB2.out 0
    all_goals have hf2 := blk_frozen HB2.out 2
    all_goals have hf3 := blk_frozen HB2.out 3
    all_goals go_wp2
    all_goals go_ret
    all_goals exact ⟨rfl, blk_put (blk_put (blk_put HB2.out 0 _ rfl) 2 _ rfl) 3 _ rfl, ((HO2.out.set 0 _).set 2 _).set 3 _⟩
end Go.Proofs.Ytfikgnneajlgbaa.PAll
