-- Made by a program of this session (wip/gen)
import Derived.Test.YtdpljfpcpfdlcaaPAllx0
import Derived.Test.YtdpljfpcpfdlcaaPAllx1
namespace Go.Proofs.Ytdpljfpcpfdlcaa.PAll
open Go.RowKit Go.Proofs.YtdpljfpcpfdlcaaW.PrintWords Go.Proofs.YtdpljfpcpfdlcaaW.PrintLast Go.Proofs.YtdpljfpcpfdlcaaW.PrintMore
attribute [local go_sem] max2_int min2_int max_two min_two max_three min_three max_four min_four   -- for this text's walks alone
set_option linter.unusedVariables false
set_option linter.unusedSimpArgs false

/-! ### packhorselaw05_checkAlive: function 9 -/
/-- A block of numbers, read as they stand. -/
theorem reads_cells (W : World) (g : Nat) (cs : Array Value) (t : TypeId) (fr : Nat × Nat) (hb : W.heap[g]? = some (.cells cs t fr)) (k : IntKind) (xs : List Int) (hcs : cs = (xs.map (Value.int k)).toArray) (hl : xs.length ≤ 9223372036854775807) :
    Kd.C (Kd.int k) W (some ⟨g, 0, none⟩) xs.length xs := by
  subst hcs
  refine ⟨rfl, hl, fun _ => ⟨_, rfl, fun j p hj => ⟨[.int k p], rfl, rfl, fun i u hu => ?_⟩⟩⟩
  cases i with
  | zero =>
    obtain rfl : Value.int k p = u := by simpa using hu
    rw [add_plain]
    show W.cell? ⟨g, j * 1 + 0, none⟩ = _
    rw [Nat.mul_one, Nat.add_zero, cell_of_row W g j _ t fr hb]
    simp [hj]
  | succ i => simp at hu
def packhorselaw05_checkAlive.f : Option (Bool) := some true
set_option maxHeartbeats 8000000 in
set_option maxRecDepth 100000 in
theorem packhorselaw05_checkAlive.calls (r : Bool) (w : World) (h : packhorselaw05_checkAlive.f = some r) :
    Calls Try.prog 9 #[] w fun e w' => e = .returned (.bool r) ∧ Below w.heap.size w w' := by
  obtain rfl := Option.some.inj h
  have kc := fun (w : World) (C : Array Value) (n c : Nat) => Lib.run_convert_bytes_const (P := Try.prog) w 22 5 C n c Try.underlying22 Try.underlying5
  have ho := Aside0.mk (show check_Of.f 40 [[49, 50, 51, 52, 53, 54, 55, 56, 57]] = some 3808858755 by decide +kernel)
  go_enter Try.func9, Try.ntmps9
  go_wp2_with fail
  refine (check_Of.calls 40 _ _ [[49, 50, 51, 52, 53, 54, 55, 56, 57]] 3808858755 _ ?hr ?hc ho.out).mono ?_
  case hr =>
    refine ⟨rfl, by decide, fun _ => ⟨_, rfl, fun j p hj => ?_⟩⟩
    obtain ⟨rfl, rfl⟩ : j = 0 ∧ [49, 50, 51, 52, 53, 54, 55, 56, 57] = p := by
      cases j with
      | zero => exact ⟨rfl, by simpa using hj⟩
      | succ j => simp at hj
    refine ⟨[.slice (some ⟨w.heap.size, 0, none⟩) 9 9], rfl, ⟨some ⟨w.heap.size, 0, none⟩, 9, rfl, Nat.le_refl _, ?_⟩, fun i u hu => ?_⟩
    · exact reads_cells _ _ _ _ _ (blk_alloc (blk_new w _) _) .u8 [49, 50, 51, 52, 53, 54, 55, 56, 57] rfl (by decide)
    · cases i with
      | zero =>
        obtain rfl : Value.slice (some ⟨w.heap.size, 0, none⟩) 9 9 = u := by simpa using hu
        rw [add_plain]
        show World.cell? _ ⟨w.heap.size + 1, 0, none⟩ = _
        rw [World.cell?_alloc_at _ _ _ _ (by rw [World.size_alloc])]
        rfl
      | succ i => simp at hu
  case hc => exact Nat.le_refl _
  rintro e w' ⟨rfl, ⟨nd, rfl⟩⟩
  go_wp2
  go_ret
  refine ⟨by simp, ?_⟩
  exact pw_below_drewN (below_alloc (below_alloc (Below.refl _ _) _) _) _

-- NOT PRINTED: function 18 (check_square_times)

-- NOT PRINTED: function 19 (check_square_twice)

end Go.Proofs.Ytdpljfpcpfdlcaa.PAll
