-- Made by a program of this session (wip/gen)
import Derived.Test.YtafmpeibdbadaaaPAllx0
import Derived.Test.YtafmpeibdbadaaaPAllx1
import Derived.Test.YtafmpeibdbadaaaPAllx2
namespace Go.Proofs.Ytafmpeibdbadaaa.PAll
open Go.RowKit Go.Proofs.YtafmpeibdbadaaaW.PrintWords Go.Proofs.YtafmpeibdbadaaaW.PrintLast Go.Proofs.YtafmpeibdbadaaaW.PrintMore
attribute [local go_sem] max2_int min2_int max_two min_two max_three min_three max_four min_four   -- for this text's walks alone
set_option linter.unusedVariables false
set_option linter.unusedSimpArgs false

/-! ### packhorselaw02_TallyRises: function 5 -/
def packhorselaw02_TallyRises.j0 : Nat → Int → Int → Int → Bool → Option (Bool)
  | 0, _, _, _, _ => none
  | k + 1, x0, x15, x16, x80 => if x80 = true then (some false) else ((tally_Right.f x0).bind fun t163 => (if t163 = true then ((tally_Right.f x0).bind fun t164 => (if t164 = true then (if x16 = 0 then (some (x15 == x0)) else (some false)) else (some false))) else (if x16 = 0 then ((tally_Right.f x0).bind fun t165 => (if t165 = true then (some (x15 == x0)) else (some false))) else (some true))))
def packhorselaw02_TallyRises.f (k : Nat) (a0 : Int) (a1 : Int) (a2 : Int) : Option (Bool) := (packhorselaw02_tallyAlive.f k).bind fun t152 => (if t152 = true then ((tally_Add.f a0 a2).bind fun bt153 => ((tally_Add.f a1 a2).bind fun bt155 => ((tally_Times.f k a0 a2).bind fun bt157 => ((tally_Times.f k a1 a2).bind fun bt159 => ((tally_Add.f a0 0).bind fun bt161 => (if bt153.2 = 0 then (if bt155.2 = 0 then (if ((decide (bt153.1 < bt155.1)) != (decide (a0 < a1))) = true then (packhorselaw02_TallyRises.j0 k a0 bt161.1 bt161.2 true) else (if bt157.2 = 0 then (if bt159.2 = 0 then (if a0 ≤ a1 then (packhorselaw02_TallyRises.j0 k a0 bt161.1 bt161.2 (decide (bt157.1 > bt159.1))) else (packhorselaw02_TallyRises.j0 k a0 bt161.1 bt161.2 false)) else (packhorselaw02_TallyRises.j0 k a0 bt161.1 bt161.2 false)) else (packhorselaw02_TallyRises.j0 k a0 bt161.1 bt161.2 false))) else (if bt157.2 = 0 then (if bt159.2 = 0 then (if a0 ≤ a1 then (packhorselaw02_TallyRises.j0 k a0 bt161.1 bt161.2 (decide (bt157.1 > bt159.1))) else (packhorselaw02_TallyRises.j0 k a0 bt161.1 bt161.2 false)) else (packhorselaw02_TallyRises.j0 k a0 bt161.1 bt161.2 false)) else (packhorselaw02_TallyRises.j0 k a0 bt161.1 bt161.2 false))) else (if bt157.2 = 0 then (if bt159.2 = 0 then (if a0 ≤ a1 then (packhorselaw02_TallyRises.j0 k a0 bt161.1 bt161.2 (decide (bt157.1 > bt159.1))) else (packhorselaw02_TallyRises.j0 k a0 bt161.1 bt161.2 false)) else (packhorselaw02_TallyRises.j0 k a0 bt161.1 bt161.2 false)) else (packhorselaw02_TallyRises.j0 k a0 bt161.1 bt161.2 false)))))))) else (some false))
theorem packhorselaw02_TallyRises.mono_l : ∀ k, (∀ y0 y1 y2 y3, LeO (packhorselaw02_TallyRises.j0 k y0 y1 y2 y3) (packhorselaw02_TallyRises.j0 (k + 1) y0 y1 y2 y3))
  | 0 => fun _ _ _ _ r h => by simp [packhorselaw02_TallyRises.j0] at h
  | k + 1 => by
    have ih0 := packhorselaw02_TallyRises.mono_l k
    · intro y0 y1 y2 y3
      unfold packhorselaw02_TallyRises.j0
      repeat' first
      | (with_reducible exact ih0 _ _ _ _)
      | (with_reducible exact packhorselaw02_tallyAlive.mono _)
      | (with_reducible exact tally_Times.mono _ _ _)
      | (with_reducible exact LeO.refl _)
      | (with_reducible exact LeO.none _)
      | (with_reducible refine LeO.ite ?_ ?_)
      | (with_reducible refine LeO.bind ?_ (fun _ => ?_))
      | exact ih0 _ _ _ _
      | exact packhorselaw02_tallyAlive.mono _
      | exact tally_Times.mono _ _ _
      | exact LeO.none _
      | refine LeO.ite ?_ ?_
      | refine LeO.bind ?_ (fun _ => ?_)
theorem packhorselaw02_TallyRises.mono : ∀ a0 a1 a2 k, LeO (packhorselaw02_TallyRises.f k a0 a1 a2) (packhorselaw02_TallyRises.f (k + 1) a0 a1 a2) := by
  intro a0 a1 a2 k
  have ih0 := packhorselaw02_TallyRises.mono_l k
  unfold packhorselaw02_TallyRises.f
  repeat' first
      | (with_reducible exact ih0 _ _ _ _)
      | (with_reducible exact packhorselaw02_tallyAlive.mono _)
      | (with_reducible exact tally_Times.mono _ _ _)
      | (with_reducible exact LeO.refl _)
      | (with_reducible exact LeO.none _)
      | (with_reducible refine LeO.ite ?_ ?_)
      | (with_reducible refine LeO.bind ?_ (fun _ => ?_))
      | exact ih0 _ _ _ _
      | exact packhorselaw02_tallyAlive.mono _
      | exact tally_Times.mono _ _ _
      | exact LeO.none _
      | refine LeO.ite ?_ ?_
      | refine LeO.bind ?_ (fun _ => ?_)
set_option maxHeartbeats 8000000 in
set_option maxRecDepth 100000 in
theorem packhorselaw02_TallyRises.calls (k : Nat) (a0 : Int) (a1 : Int) (a2 : Int) (r : Bool) (w : World) (h : packhorselaw02_TallyRises.f k a0 a1 a2 = some r) :
    Calls Try.prog 5 #[.int .i64 a0, .int .i64 a1, .int .i64 a2] w fun e w' => e = .returned (.bool r) ∧ Below w.heap.size w w' := by
  have HB := Aside0.mk (Below.refl w.heap.size w)
  have H : ((packhorselaw02_tallyAlive.f k).bind fun t152 => (if t152 = true then ((tally_Add.f a0 a2).bind fun bt153 => ((tally_Add.f a1 a2).bind fun bt155 => ((tally_Times.f k a0 a2).bind fun bt157 => ((tally_Times.f k a1 a2).bind fun bt159 => ((tally_Add.f a0 0).bind fun bt161 => (if bt153.2 = 0 then (if bt155.2 = 0 then (if ((decide (bt153.1 < bt155.1)) != (decide (a0 < a1))) = true then (packhorselaw02_TallyRises.j0 k a0 bt161.1 bt161.2 true) else (if bt157.2 = 0 then (if bt159.2 = 0 then (if a0 ≤ a1 then (packhorselaw02_TallyRises.j0 k a0 bt161.1 bt161.2 (decide (bt157.1 > bt159.1))) else (packhorselaw02_TallyRises.j0 k a0 bt161.1 bt161.2 false)) else (packhorselaw02_TallyRises.j0 k a0 bt161.1 bt161.2 false)) else (packhorselaw02_TallyRises.j0 k a0 bt161.1 bt161.2 false))) else (if bt157.2 = 0 then (if bt159.2 = 0 then (if a0 ≤ a1 then (packhorselaw02_TallyRises.j0 k a0 bt161.1 bt161.2 (decide (bt157.1 > bt159.1))) else (packhorselaw02_TallyRises.j0 k a0 bt161.1 bt161.2 false)) else (packhorselaw02_TallyRises.j0 k a0 bt161.1 bt161.2 false)) else (packhorselaw02_TallyRises.j0 k a0 bt161.1 bt161.2 false))) else (if bt157.2 = 0 then (if bt159.2 = 0 then (if a0 ≤ a1 then (packhorselaw02_TallyRises.j0 k a0 bt161.1 bt161.2 (decide (bt157.1 > bt159.1))) else (packhorselaw02_TallyRises.j0 k a0 bt161.1 bt161.2 false)) else (packhorselaw02_TallyRises.j0 k a0 bt161.1 bt161.2 false)) else (packhorselaw02_TallyRises.j0 k a0 bt161.1 bt161.2 false)))))))) else (some false))) = some r := h
  clear h
  replace H := Option.bind_eq_some_iff.mp H
  obtain ⟨t152, A40, H⟩ := H
  replace H : (if t152 = true then ((tally_Add.f a0 a2).bind fun bt153 => ((tally_Add.f a1 a2).bind fun bt155 => ((tally_Times.f k a0 a2).bind fun bt157 => ((tally_Times.f k a1 a2).bind fun bt159 => ((tally_Add.f a0 0).bind fun bt161 => (if bt153.2 = 0 then (if bt155.2 = 0 then (if ((decide (bt153.1 < bt155.1)) != (decide (a0 < a1))) = true then (packhorselaw02_TallyRises.j0 k a0 bt161.1 bt161.2 true) else (if bt157.2 = 0 then (if bt159.2 = 0 then (if a0 ≤ a1 then (packhorselaw02_TallyRises.j0 k a0 bt161.1 bt161.2 (decide (bt157.1 > bt159.1))) else (packhorselaw02_TallyRises.j0 k a0 bt161.1 bt161.2 false)) else (packhorselaw02_TallyRises.j0 k a0 bt161.1 bt161.2 false)) else (packhorselaw02_TallyRises.j0 k a0 bt161.1 bt161.2 false))) else (if bt157.2 = 0 then (if bt159.2 = 0 then (if a0 ≤ a1 then (packhorselaw02_TallyRises.j0 k a0 bt161.1 bt161.2 (decide (bt157.1 > bt159.1))) else (packhorselaw02_TallyRises.j0 k a0 bt161.1 bt161.2 false)) else (packhorselaw02_TallyRises.j0 k a0 bt161.1 bt161.2 false)) else (packhorselaw02_TallyRises.j0 k a0 bt161.1 bt161.2 false))) else (if bt157.2 = 0 then (if bt159.2 = 0 then (if a0 ≤ a1 then (packhorselaw02_TallyRises.j0 k a0 bt161.1 bt161.2 (decide (bt157.1 > bt159.1))) else (packhorselaw02_TallyRises.j0 k a0 bt161.1 bt161.2 false)) else (packhorselaw02_TallyRises.j0 k a0 bt161.1 bt161.2 false)) else (packhorselaw02_TallyRises.j0 k a0 bt161.1 bt161.2 false)))))))) else (some false)) = some r := H
  have A4 := Aside0.mk A40
  clear A40
  by_cases c5 : t152 = true
  · subst c5
    have H1 : ((tally_Add.f a0 a2).bind fun bt153 => ((tally_Add.f a1 a2).bind fun bt155 => ((tally_Times.f k a0 a2).bind fun bt157 => ((tally_Times.f k a1 a2).bind fun bt159 => ((tally_Add.f a0 0).bind fun bt161 => (if bt153.2 = 0 then (if bt155.2 = 0 then (if ((decide (bt153.1 < bt155.1)) != (decide (a0 < a1))) = true then (packhorselaw02_TallyRises.j0 k a0 bt161.1 bt161.2 true) else (if bt157.2 = 0 then (if bt159.2 = 0 then (if a0 ≤ a1 then (packhorselaw02_TallyRises.j0 k a0 bt161.1 bt161.2 (decide (bt157.1 > bt159.1))) else (packhorselaw02_TallyRises.j0 k a0 bt161.1 bt161.2 false)) else (packhorselaw02_TallyRises.j0 k a0 bt161.1 bt161.2 false)) else (packhorselaw02_TallyRises.j0 k a0 bt161.1 bt161.2 false))) else (if bt157.2 = 0 then (if bt159.2 = 0 then (if a0 ≤ a1 then (packhorselaw02_TallyRises.j0 k a0 bt161.1 bt161.2 (decide (bt157.1 > bt159.1))) else (packhorselaw02_TallyRises.j0 k a0 bt161.1 bt161.2 false)) else (packhorselaw02_TallyRises.j0 k a0 bt161.1 bt161.2 false)) else (packhorselaw02_TallyRises.j0 k a0 bt161.1 bt161.2 false))) else (if bt157.2 = 0 then (if bt159.2 = 0 then (if a0 ≤ a1 then (packhorselaw02_TallyRises.j0 k a0 bt161.1 bt161.2 (decide (bt157.1 > bt159.1))) else (packhorselaw02_TallyRises.j0 k a0 bt161.1 bt161.2 false)) else (packhorselaw02_TallyRises.j0 k a0 bt161.1 bt161.2 false)) else (packhorselaw02_TallyRises.j0 k a0 bt161.1 bt161.2 false)))))))) = some r := by rw [if_pos rfl] at H; exact H
    clear H
    have H := H1
    clear H1
    replace H := Option.bind_eq_some_iff.mp H
    obtain ⟨⟨t153, t154⟩, A60, H⟩ := H
    replace H : ((tally_Add.f a1 a2).bind fun bt155 => ((tally_Times.f k a0 a2).bind fun bt157 => ((tally_Times.f k a1 a2).bind fun bt159 => ((tally_Add.f a0 0).bind fun bt161 => (if t154 = 0 then (if bt155.2 = 0 then (if ((decide (t153 < bt155.1)) != (decide (a0 < a1))) = true then (packhorselaw02_TallyRises.j0 k a0 bt161.1 bt161.2 true) else (if bt157.2 = 0 then (if bt159.2 = 0 then (if a0 ≤ a1 then (packhorselaw02_TallyRises.j0 k a0 bt161.1 bt161.2 (decide (bt157.1 > bt159.1))) else (packhorselaw02_TallyRises.j0 k a0 bt161.1 bt161.2 false)) else (packhorselaw02_TallyRises.j0 k a0 bt161.1 bt161.2 false)) else (packhorselaw02_TallyRises.j0 k a0 bt161.1 bt161.2 false))) else (if bt157.2 = 0 then (if bt159.2 = 0 then (if a0 ≤ a1 then (packhorselaw02_TallyRises.j0 k a0 bt161.1 bt161.2 (decide (bt157.1 > bt159.1))) else (packhorselaw02_TallyRises.j0 k a0 bt161.1 bt161.2 false)) else (packhorselaw02_TallyRises.j0 k a0 bt161.1 bt161.2 false)) else (packhorselaw02_TallyRises.j0 k a0 bt161.1 bt161.2 false))) else (if bt157.2 = 0 then (if bt159.2 = 0 then (if a0 ≤ a1 then (packhorselaw02_TallyRises.j0 k a0 bt161.1 bt161.2 (decide (bt157.1 > bt159.1))) else (packhorselaw02_TallyRises.j0 k a0 bt161.1 bt161.2 false)) else (packhorselaw02_TallyRises.j0 k a0 bt161.1 bt161.2 false)) else (packhorselaw02_TallyRises.j0 k a0 bt161.1 bt161.2 false))))))) = some r := H
    have A6 := Aside0.mk A60
    clear A60
    replace H := Option.bind_eq_some_iff.mp H
    obtain ⟨⟨t155, t156⟩, A70, H⟩ := H
    replace H : ((tally_Times.f k a0 a2).bind fun bt157 => ((tally_Times.f k a1 a2).bind fun bt159 => ((tally_Add.f a0 0).bind fun bt161 => (if t154 = 0 then (if t156 = 0 then (if ((decide (t153 < t155)) != (decide (a0 < a1))) = true then (packhorselaw02_TallyRises.j0 k a0 bt161.1 bt161.2 true) else (if bt157.2 = 0 then (if bt159.2 = 0 then (if a0 ≤ a1 then (packhorselaw02_TallyRises.j0 k a0 bt161.1 bt161.2 (decide (bt157.1 > bt159.1))) else (packhorselaw02_TallyRises.j0 k a0 bt161.1 bt161.2 false)) else (packhorselaw02_TallyRises.j0 k a0 bt161.1 bt161.2 false)) else (packhorselaw02_TallyRises.j0 k a0 bt161.1 bt161.2 false))) else (if bt157.2 = 0 then (if bt159.2 = 0 then (if a0 ≤ a1 then (packhorselaw02_TallyRises.j0 k a0 bt161.1 bt161.2 (decide (bt157.1 > bt159.1))) else (packhorselaw02_TallyRises.j0 k a0 bt161.1 bt161.2 false)) else (packhorselaw02_TallyRises.j0 k a0 bt161.1 bt161.2 false)) else (packhorselaw02_TallyRises.j0 k a0 bt161.1 bt161.2 false))) else (if bt157.2 = 0 then (if bt159.2 = 0 then (if a0 ≤ a1 then (packhorselaw02_TallyRises.j0 k a0 bt161.1 bt161.2 (decide (bt157.1 > bt159.1))) else (packhorselaw02_TallyRises.j0 k a0 bt161.1 bt161.2 false)) else (packhorselaw02_TallyRises.j0 k a0 bt161.1 bt161.2 false)) else (packhorselaw02_TallyRises.j0 k a0 bt161.1 bt161.2 false)))))) = some r := H
    have A7 := Aside0.mk A70
    clear A70
    replace H := Option.bind_eq_some_iff.mp H
    obtain ⟨⟨t157, t158⟩, A80, H⟩ := H
    replace H : ((tally_Times.f k a1 a2).bind fun bt159 => ((tally_Add.f a0 0).bind fun bt161 => (if t154 = 0 then (if t156 = 0 then (if ((decide (t153 < t155)) != (decide (a0 < a1))) = true then (packhorselaw02_TallyRises.j0 k a0 bt161.1 bt161.2 true) else (if t158 = 0 then (if bt159.2 = 0 then (if a0 ≤ a1 then (packhorselaw02_TallyRises.j0 k a0 bt161.1 bt161.2 (decide (t157 > bt159.1))) else (packhorselaw02_TallyRises.j0 k a0 bt161.1 bt161.2 false)) else (packhorselaw02_TallyRises.j0 k a0 bt161.1 bt161.2 false)) else (packhorselaw02_TallyRises.j0 k a0 bt161.1 bt161.2 false))) else (if t158 = 0 then (if bt159.2 = 0 then (if a0 ≤ a1 then (packhorselaw02_TallyRises.j0 k a0 bt161.1 bt161.2 (decide (t157 > bt159.1))) else (packhorselaw02_TallyRises.j0 k a0 bt161.1 bt161.2 false)) else (packhorselaw02_TallyRises.j0 k a0 bt161.1 bt161.2 false)) else (packhorselaw02_TallyRises.j0 k a0 bt161.1 bt161.2 false))) else (if t158 = 0 then (if bt159.2 = 0 then (if a0 ≤ a1 then (packhorselaw02_TallyRises.j0 k a0 bt161.1 bt161.2 (decide (t157 > bt159.1))) else (packhorselaw02_TallyRises.j0 k a0 bt161.1 bt161.2 false)) else (packhorselaw02_TallyRises.j0 k a0 bt161.1 bt161.2 false)) else (packhorselaw02_TallyRises.j0 k a0 bt161.1 bt161.2 false))))) = some r := H
    have A8 := Aside0.mk A80
    clear A80
    replace H := Option.bind_eq_some_iff.mp H
    obtain ⟨⟨t159, t160⟩, A90, H⟩ := H
    replace H : ((tally_Add.f a0 0).bind fun bt161 => (if t154 = 0 then (if t156 = 0 then (if ((decide (t153 < t155)) != (decide (a0 < a1))) = true then (packhorselaw02_TallyRises.j0 k a0 bt161.1 bt161.2 true) else (if t158 = 0 then (if t160 = 0 then (if a0 ≤ a1 then (packhorselaw02_TallyRises.j0 k a0 bt161.1 bt161.2 (decide (t157 > t159))) else (packhorselaw02_TallyRises.j0 k a0 bt161.1 bt161.2 false)) else (packhorselaw02_TallyRises.j0 k a0 bt161.1 bt161.2 false)) else (packhorselaw02_TallyRises.j0 k a0 bt161.1 bt161.2 false))) else (if t158 = 0 then (if t160 = 0 then (if a0 ≤ a1 then (packhorselaw02_TallyRises.j0 k a0 bt161.1 bt161.2 (decide (t157 > t159))) else (packhorselaw02_TallyRises.j0 k a0 bt161.1 bt161.2 false)) else (packhorselaw02_TallyRises.j0 k a0 bt161.1 bt161.2 false)) else (packhorselaw02_TallyRises.j0 k a0 bt161.1 bt161.2 false))) else (if t158 = 0 then (if t160 = 0 then (if a0 ≤ a1 then (packhorselaw02_TallyRises.j0 k a0 bt161.1 bt161.2 (decide (t157 > t159))) else (packhorselaw02_TallyRises.j0 k a0 bt161.1 bt161.2 false)) else (packhorselaw02_TallyRises.j0 k a0 bt161.1 bt161.2 false)) else (packhorselaw02_TallyRises.j0 k a0 bt161.1 bt161.2 false)))) = some r := H
    have A9 := Aside0.mk A90
    clear A90
    replace H := Option.bind_eq_some_iff.mp H
    obtain ⟨⟨t161, t162⟩, A100, H⟩ := H
    replace H : (if t154 = 0 then (if t156 = 0 then (if ((decide (t153 < t155)) != (decide (a0 < a1))) = true then (packhorselaw02_TallyRises.j0 k a0 t161 t162 true) else (if t158 = 0 then (if t160 = 0 then (if a0 ≤ a1 then (packhorselaw02_TallyRises.j0 k a0 t161 t162 (decide (t157 > t159))) else (packhorselaw02_TallyRises.j0 k a0 t161 t162 false)) else (packhorselaw02_TallyRises.j0 k a0 t161 t162 false)) else (packhorselaw02_TallyRises.j0 k a0 t161 t162 false))) else (if t158 = 0 then (if t160 = 0 then (if a0 ≤ a1 then (packhorselaw02_TallyRises.j0 k a0 t161 t162 (decide (t157 > t159))) else (packhorselaw02_TallyRises.j0 k a0 t161 t162 false)) else (packhorselaw02_TallyRises.j0 k a0 t161 t162 false)) else (packhorselaw02_TallyRises.j0 k a0 t161 t162 false))) else (if t158 = 0 then (if t160 = 0 then (if a0 ≤ a1 then (packhorselaw02_TallyRises.j0 k a0 t161 t162 (decide (t157 > t159))) else (packhorselaw02_TallyRises.j0 k a0 t161 t162 false)) else (packhorselaw02_TallyRises.j0 k a0 t161 t162 false)) else (packhorselaw02_TallyRises.j0 k a0 t161 t162 false))) = some r := H
    have A10 := Aside0.mk A100
    clear A100
    have HC11 := Aside0.mk H
    clear H
    go_enter Try.func5, Try.ntmps5
    go_upto_region 8 with (first | ((with_reducible refine gate_callee (f := 9) rfl ?_); refine goesL_ (some 17) rfl rfl Try.func9 (by kernel_rfl) rfl #[] rfl (by (try simp only [List.map_toArray, List.map_cons, List.map_nil]); first | done | rfl | (simp only [List.length_drop, List.length_take]; rfl)) ?_; (with_reducible refine (packhorselaw02_tallyAlive.calls k  true _ A4.out).mono ?_); rintro e w12 ⟨rfl, hb⟩; refine ⟨_, rfl, ?_⟩; have n0_ := Aside0.mk (below_step (by repeat (first | (with_reducible first | exact HB.out | apply below_alloc | apply pw_below_drewN | apply below_drew1) | exact HB.out)) hb); clear HB; have HB := n0_; clear n0_; (try clear hb); (try clear hb2); (try clear hk); (try clear hi)) | ((with_reducible refine gate_callee (f := 14) rfl ?_); refine goesL_ (some 22) rfl rfl Try.func14 (by kernel_rfl) rfl #[.int .i64 a0, .int .i64 a2] rfl (by (try simp only [List.map_toArray, List.map_cons, List.map_nil]); first | done | rfl | (simp only [List.length_drop, List.length_take]; rfl)) ?_; (with_reducible refine (tally_Add.calls a0 a2 t153 t154 _ A6.out).mono ?_); rintro e w' ⟨rfl, ⟨nd, rfl⟩⟩; refine ⟨_, rfl, ?_⟩) | ((with_reducible refine gate_callee (f := 14) rfl ?_); refine goesL_ (some 28) rfl rfl Try.func14 (by kernel_rfl) rfl #[.int .i64 a1, .int .i64 a2] rfl (by (try simp only [List.map_toArray, List.map_cons, List.map_nil]); first | done | rfl | (simp only [List.length_drop, List.length_take]; rfl)) ?_; (with_reducible refine (tally_Add.calls a1 a2 t155 t156 _ A7.out).mono ?_); rintro e w' ⟨rfl, ⟨nd, rfl⟩⟩; refine ⟨_, rfl, ?_⟩) | ((with_reducible refine gate_callee (f := 15) rfl ?_); refine goesL_ (some 34) rfl rfl Try.func15 (by kernel_rfl) rfl #[.int .i64 a0, .int .i64 a2] rfl (by (try simp only [List.map_toArray, List.map_cons, List.map_nil]); first | done | rfl | (simp only [List.length_drop, List.length_take]; rfl)) ?_; (with_reducible refine (tally_Times.calls k a0 a2 t157 t158 _ A8.out).mono ?_); rintro e w' ⟨rfl, ⟨nd, rfl⟩⟩; refine ⟨_, rfl, ?_⟩) | ((with_reducible refine gate_callee (f := 15) rfl ?_); refine goesL_ (some 40) rfl rfl Try.func15 (by kernel_rfl) rfl #[.int .i64 a1, .int .i64 a2] rfl (by (try simp only [List.map_toArray, List.map_cons, List.map_nil]); first | done | rfl | (simp only [List.length_drop, List.length_take]; rfl)) ?_; (with_reducible refine (tally_Times.calls k a1 a2 t159 t160 _ A9.out).mono ?_); rintro e w' ⟨rfl, ⟨nd, rfl⟩⟩; refine ⟨_, rfl, ?_⟩) | ((with_reducible refine gate_callee (f := 14) rfl ?_); refine goesL_ (some 45) rfl rfl Try.func14 (by kernel_rfl) rfl #[.int .i64 a0, .int .i64 0] rfl (by (try simp only [List.map_toArray, List.map_cons, List.map_nil]); first | done | rfl | (simp only [List.length_drop, List.length_take]; rfl)) ?_; (with_reducible refine (tally_Add.calls a0 0 t161 t162 _ A10.out).mono ?_); rintro e w' ⟨rfl, ⟨nd, rfl⟩⟩; refine ⟨_, rfl, ?_⟩))
    (try simp only [Act.put, List.setIfInBounds_toArray, List.set_cons_zero, List.set_cons_succ])
    go_cut [80] (fun v80 wc => ∃ (kq : Nat) (x80_10 : Bool), v80 = .bool x80_10 ∧ Aside0 (packhorselaw02_TallyRises.j0 kq a0 t161 t162 x80_10 = some r) ∧ Aside0 (kq ≤ k) ∧ Aside0 (Below w.heap.size w wc))
    case first =>
      have H := HC11.out
      clear HC11
      by_cases c13 : t154 = 0
      · rw [if_pos c13] at H
        have c13b0 : (t154 == 0) = true := beq_iff_eq.mpr c13
        have c13b1 : (t154 != 0) = false := bne_eq_false_iff_eq.mpr c13
        clear c13
        (first | rw [c13b0] | (simp only [i64_w, i32_w]; rw [c13b0]) | skip)
        by_cases c14 : t156 = 0
        · rw [if_pos c14] at H
          have c14b0 : (t156 == 0) = true := beq_iff_eq.mpr c14
          have c14b1 : (t156 != 0) = false := bne_eq_false_iff_eq.mpr c14
          clear c14
          by_cases c15 : ((decide (t153 < t155)) != (decide (a0 < a1))) = true
          · rw [if_pos c15] at H
            have c15b0 : ((decide (t153 < t155)) != (decide (a0 < a1))) = true := c15
            (try (have c15b1 : decide ((decide (t153 < t155)) = (decide (a0 < a1))) = false := by simpa using c15))
            (try (have c15b2 : ((decide (t153 < t155)) == (decide (a0 < a1))) = false := by simpa using c15))
            (try (have c15b3 : ¬ ((decide (t153 < t155)) = (decide (a0 < a1))) := by simpa using c15))
            clear c15
            have H' := Aside0.mk H
            clear H
            go_wp2
            go_meet
            case rel => exact ⟨_, (true), (by first | rfl | (simp; done) | (simp [*]; done)), H', ⟨by first | omega | exact Nat.le_refl _⟩, ⟨by repeat (first | (with_reducible first | exact HB.out | apply below_alloc | apply pw_below_drewN | apply below_drew1) | exact HB.out)⟩⟩
          · rw [if_neg c15] at H
            have c15b0 : ((decide (t153 < t155)) != (decide (a0 < a1))) = false := by simpa using c15
            (try (have c15b1 : decide ((decide (t153 < t155)) = (decide (a0 < a1))) = true := by simpa using c15))
            (try (have c15b2 : ((decide (t153 < t155)) == (decide (a0 < a1))) = true := by simpa using c15))
            clear c15
            by_cases c16 : t158 = 0
            · rw [if_pos c16] at H
              have c16b0 : (t158 == 0) = true := beq_iff_eq.mpr c16
              have c16b1 : (t158 != 0) = false := bne_eq_false_iff_eq.mpr c16
              clear c16
              by_cases c17 : t160 = 0
              · rw [if_pos c17] at H
                have c17b0 : (t160 == 0) = true := beq_iff_eq.mpr c17
                have c17b1 : (t160 != 0) = false := bne_eq_false_iff_eq.mpr c17
                clear c17
                by_cases c18 : a0 ≤ a1
                · rw [if_pos c18] at H
                  have c18b0 : decide (a0 ≤ a1) = true := decide_eq_true c18
                  clear c18
                  have H' := Aside0.mk H
                  clear H
                  go_wp2
                  go_meet
                  case rel => exact ⟨_, (decide (t157 > t159)), (by first | rfl | (simp; done) | (simp [*]; done)), H', ⟨by first | omega | exact Nat.le_refl _⟩, ⟨by repeat (first | (with_reducible first | exact HB.out | apply below_alloc | apply pw_below_drewN | apply below_drew1) | exact HB.out)⟩⟩
                · rw [if_neg c18] at H
                  have c18b0 : decide (a0 ≤ a1) = false := decide_eq_false c18
                  clear c18
                  have H' := Aside0.mk H
                  clear H
                  go_wp2
                  go_meet
                  case rel => exact ⟨_, (false), (by first | rfl | (simp; done) | (simp [*]; done)), H', ⟨by first | omega | exact Nat.le_refl _⟩, ⟨by repeat (first | (with_reducible first | exact HB.out | apply below_alloc | apply pw_below_drewN | apply below_drew1) | exact HB.out)⟩⟩
              · rw [if_neg c17] at H
                have c17b0 : (t160 == 0) = false := beq_eq_false_iff_ne.mpr c17
                have c17b1 : (t160 != 0) = true := bne_iff_ne.mpr c17
                have H' := Aside0.mk H
                clear H
                go_wp2
                go_meet
                case rel => exact ⟨_, (false), (by first | rfl | (simp; done) | (simp [*]; done)), H', ⟨by first | omega | exact Nat.le_refl _⟩, ⟨by repeat (first | (with_reducible first | exact HB.out | apply below_alloc | apply pw_below_drewN | apply below_drew1) | exact HB.out)⟩⟩
            · rw [if_neg c16] at H
              have c16b0 : (t158 == 0) = false := beq_eq_false_iff_ne.mpr c16
              have c16b1 : (t158 != 0) = true := bne_iff_ne.mpr c16
              have H' := Aside0.mk H
              clear H
              go_wp2
              go_meet
              case rel => exact ⟨_, (false), (by first | rfl | (simp; done) | (simp [*]; done)), H', ⟨by first | omega | exact Nat.le_refl _⟩, ⟨by repeat (first | (with_reducible first | exact HB.out | apply below_alloc | apply pw_below_drewN | apply below_drew1) | exact HB.out)⟩⟩
        · rw [if_neg c14] at H
          have c14b0 : (t156 == 0) = false := beq_eq_false_iff_ne.mpr c14
          have c14b1 : (t156 != 0) = true := bne_iff_ne.mpr c14
          by_cases c19 : t158 = 0
          · rw [if_pos c19] at H
            have c19b0 : (t158 == 0) = true := beq_iff_eq.mpr c19
            have c19b1 : (t158 != 0) = false := bne_eq_false_iff_eq.mpr c19
            clear c19
            by_cases c20 : t160 = 0
            · rw [if_pos c20] at H
              have c20b0 : (t160 == 0) = true := beq_iff_eq.mpr c20
              have c20b1 : (t160 != 0) = false := bne_eq_false_iff_eq.mpr c20
              clear c20
              by_cases c21 : a0 ≤ a1
              · rw [if_pos c21] at H
                have c21b0 : decide (a0 ≤ a1) = true := decide_eq_true c21
                clear c21
                have H' := Aside0.mk H
                clear H
                go_wp2
                go_meet
                case rel => exact ⟨_, (decide (t157 > t159)), (by first | rfl | (simp; done) | (simp [*]; done)), H', ⟨by first | omega | exact Nat.le_refl _⟩, ⟨by repeat (first | (with_reducible first | exact HB.out | apply below_alloc | apply pw_below_drewN | apply below_drew1) | exact HB.out)⟩⟩
              · rw [if_neg c21] at H
                have c21b0 : decide (a0 ≤ a1) = false := decide_eq_false c21
                clear c21
                have H' := Aside0.mk H
                clear H
                go_wp2
                go_meet
                case rel => exact ⟨_, (false), (by first | rfl | (simp; done) | (simp [*]; done)), H', ⟨by first | omega | exact Nat.le_refl _⟩, ⟨by repeat (first | (with_reducible first | exact HB.out | apply below_alloc | apply pw_below_drewN | apply below_drew1) | exact HB.out)⟩⟩
            · rw [if_neg c20] at H
              have c20b0 : (t160 == 0) = false := beq_eq_false_iff_ne.mpr c20
              have c20b1 : (t160 != 0) = true := bne_iff_ne.mpr c20
              have H' := Aside0.mk H
              clear H
              go_wp2
              go_meet
              case rel => exact ⟨_, (false), (by first | rfl | (simp; done) | (simp [*]; done)), H', ⟨by first | omega | exact Nat.le_refl _⟩, ⟨by repeat (first | (with_reducible first | exact HB.out | apply below_alloc | apply pw_below_drewN | apply below_drew1) | exact HB.out)⟩⟩
          · rw [if_neg c19] at H
            have c19b0 : (t158 == 0) = false := beq_eq_false_iff_ne.mpr c19
            have c19b1 : (t158 != 0) = true := bne_iff_ne.mpr c19
            have H' := Aside0.mk H
            clear H
            go_wp2
            go_meet
            case rel => exact ⟨_, (false), (by first | rfl | (simp; done) | (simp [*]; done)), H', ⟨by first | omega | exact Nat.le_refl _⟩, ⟨by repeat (first | (with_reducible first | exact HB.out | apply below_alloc | apply pw_below_drewN | apply below_drew1) | exact HB.out)⟩⟩
      · rw [if_neg c13] at H
        have c13b0 : (t154 == 0) = false := beq_eq_false_iff_ne.mpr c13
        have c13b1 : (t154 != 0) = true := bne_iff_ne.mpr c13
        (first | rw [c13b0] | (simp only [i64_w, i32_w]; rw [c13b0]) | skip)
        by_cases c22 : t158 = 0
        · rw [if_pos c22] at H
          have c22b0 : (t158 == 0) = true := beq_iff_eq.mpr c22
          have c22b1 : (t158 != 0) = false := bne_eq_false_iff_eq.mpr c22
          clear c22
          by_cases c23 : t160 = 0
          · rw [if_pos c23] at H
            have c23b0 : (t160 == 0) = true := beq_iff_eq.mpr c23
            have c23b1 : (t160 != 0) = false := bne_eq_false_iff_eq.mpr c23
            clear c23
            by_cases c24 : a0 ≤ a1
            · rw [if_pos c24] at H
              have c24b0 : decide (a0 ≤ a1) = true := decide_eq_true c24
              clear c24
              have H' := Aside0.mk H
              clear H
              go_wp2
              go_meet
              case rel => exact ⟨_, (decide (t157 > t159)), (by first | rfl | (simp; done) | (simp [*]; done)), H', ⟨by first | omega | exact Nat.le_refl _⟩, ⟨by repeat (first | (with_reducible first | exact HB.out | apply below_alloc | apply pw_below_drewN | apply below_drew1) | exact HB.out)⟩⟩
            · rw [if_neg c24] at H
              have c24b0 : decide (a0 ≤ a1) = false := decide_eq_false c24
              clear c24
              have H' := Aside0.mk H
              clear H
              go_wp2
              go_meet
              case rel => exact ⟨_, (false), (by first | rfl | (simp; done) | (simp [*]; done)), H', ⟨by first | omega | exact Nat.le_refl _⟩, ⟨by repeat (first | (with_reducible first | exact HB.out | apply below_alloc | apply pw_below_drewN | apply below_drew1) | exact HB.out)⟩⟩
          · rw [if_neg c23] at H
            have c23b0 : (t160 == 0) = false := beq_eq_false_iff_ne.mpr c23
            have c23b1 : (t160 != 0) = true := bne_iff_ne.mpr c23
            have H' := Aside0.mk H
            clear H
            go_wp2
            go_meet
            case rel => exact ⟨_, (false), (by first | rfl | (simp; done) | (simp [*]; done)), H', ⟨by first | omega | exact Nat.le_refl _⟩, ⟨by repeat (first | (with_reducible first | exact HB.out | apply below_alloc | apply pw_below_drewN | apply below_drew1) | exact HB.out)⟩⟩
        · rw [if_neg c22] at H
          have c22b0 : (t158 == 0) = false := beq_eq_false_iff_ne.mpr c22
          have c22b1 : (t158 != 0) = true := bne_iff_ne.mpr c22
          have H' := Aside0.mk H
          clear H
          go_wp2
          go_meet
          case rel => exact ⟨_, (false), (by first | rfl | (simp; done) | (simp [*]; done)), H', ⟨by first | omega | exact Nat.le_refl _⟩, ⟨by repeat (first | (with_reducible first | exact HB.out | apply below_alloc | apply pw_below_drewN | apply below_drew1) | exact HB.out)⟩⟩
    case rest =>
      clear HC11
      try clear c1
      try clear c2
      try clear p2
      try clear c5
      try clear c9
      try clear c13
      try clear c13b0
      try clear c13b1
      try clear c14
      try clear c14b0
      try clear c14b1
      try clear c15
      try clear c15b0
      try clear c15b1
      try clear c15b2
      try clear c16
      try clear c16b0
      try clear c16b1
      try clear c17
      try clear c17b0
      try clear c17b1
      try clear c18
      try clear c18b0
      try clear c19
      try clear c19b0
      try clear c19b1
      try clear c20
      try clear c20b0
      try clear c20b1
      try clear c21
      try clear c21b0
      try clear c22
      try clear c22b0
      try clear c22b1
      try clear c23
      try clear c23b0
      try clear c23b1
      try clear c24
      try clear c24b0
      obtain ⟨kq, x80_10, rfl, HA, HJ10, HB⟩ := hcut
      cases kq with
      | zero => exact absurd HA.out (by simp [packhorselaw02_TallyRises.j0])
      | succ kj10 =>
        have H := HA.out
        clear HA
        simp only [packhorselaw02_TallyRises.j0] at H
        by_cases c25 : x80_10 = true
        · subst c25
          have H1 : (some false) = some r := by rw [if_pos rfl] at H; exact H
          clear H
          have H := H1
          clear H1
          obtain rfl := Option.some.inj H
          go_wp2
          go_ret
          exact ⟨by first | rfl | (simp [errW_none, errW_some] <;> rfl) | (simp [*, errW_none, errW_some] <;> rfl), by repeat (first | (with_reducible first | exact HB.out | apply below_alloc | apply pw_below_drewN | apply below_drew1) | exact HB.out)⟩
        · replace c25 := Bool.eq_false_iff.mpr c25
          subst c25
          have H1 : ((tally_Right.f a0).bind fun t163 => (if t163 = true then ((tally_Right.f a0).bind fun t164 => (if t164 = true then (if t162 = 0 then (some (t161 == a0)) else (some false)) else (some false))) else (if t162 = 0 then ((tally_Right.f a0).bind fun t165 => (if t165 = true then (some (t161 == a0)) else (some false))) else (some true)))) = some r := by rw [if_neg (show ¬ (false = true) by decide)] at H; exact H
          clear H
          have H := H1
          clear H1
          replace H := Option.bind_eq_some_iff.mp H
          obtain ⟨t163, A260, H⟩ := H
          replace H : (if t163 = true then ((tally_Right.f a0).bind fun t164 => (if t164 = true then (if t162 = 0 then (some (t161 == a0)) else (some false)) else (some false))) else (if t162 = 0 then ((tally_Right.f a0).bind fun t165 => (if t165 = true then (some (t161 == a0)) else (some false))) else (some true))) = some r := H
          have A26 := Aside0.mk A260
          clear A260
          by_cases c27 : t163 = true
          · subst c27
            have H1 : ((tally_Right.f a0).bind fun t164 => (if t164 = true then (if t162 = 0 then (some (t161 == a0)) else (some false)) else (some false))) = some r := by rw [if_pos rfl] at H; exact H
            clear H
            have H := H1
            clear H1
            replace H := Option.bind_eq_some_iff.mp H
            obtain ⟨t164, A280, H⟩ := H
            replace H : (if t164 = true then (if t162 = 0 then (some (t161 == a0)) else (some false)) else (some false)) = some r := H
            have A28 := Aside0.mk A280
            clear A280
            by_cases c29 : t164 = true
            · subst c29
              have H1 : (if t162 = 0 then (some (t161 == a0)) else (some false)) = some r := by rw [if_pos rfl] at H; exact H
              clear H
              have H := H1
              clear H1
              by_cases c30 : t162 = 0
              · rw [if_pos c30] at H
                have c30b0 : (t162 == 0) = true := beq_iff_eq.mpr c30
                have c30b1 : (t162 != 0) = false := bne_eq_false_iff_eq.mpr c30
                clear c30
                obtain rfl := Option.some.inj H
                go_wp2_with (first | ((with_reducible refine gate_callee (f := 13) rfl ?_); refine goesL_ (some 82) rfl rfl Try.func13 (by kernel_rfl) rfl #[.int .i64 a0] rfl (by (try simp only [List.map_toArray, List.map_cons, List.map_nil]); first | done | rfl | (simp only [List.length_drop, List.length_take]; rfl)) ?_; (with_reducible refine (tally_Right.calls a0 true _ A26.out).mono ?_); rintro e w' ⟨rfl, ⟨nd, rfl⟩⟩; refine ⟨_, rfl, ?_⟩) | (go_at_call 13; (with_reducible refine (tally_Right.calls a0 true _ A28.out).mono ?_); rintro e w' ⟨rfl, ⟨nd, rfl⟩⟩))
                go_ret
                exact ⟨by first | rfl | (simp [errW_none, errW_some] <;> rfl) | (simp [*, errW_none, errW_some] <;> rfl), by repeat (first | (with_reducible first | exact HB.out | apply below_alloc | apply pw_below_drewN | apply below_drew1) | exact HB.out)⟩
              · rw [if_neg c30] at H
                have c30b0 : (t162 == 0) = false := beq_eq_false_iff_ne.mpr c30
                have c30b1 : (t162 != 0) = true := bne_iff_ne.mpr c30
                obtain rfl := Option.some.inj H
                go_wp2_with (first | ((with_reducible refine gate_callee (f := 13) rfl ?_); refine goesL_ (some 82) rfl rfl Try.func13 (by kernel_rfl) rfl #[.int .i64 a0] rfl (by (try simp only [List.map_toArray, List.map_cons, List.map_nil]); first | done | rfl | (simp only [List.length_drop, List.length_take]; rfl)) ?_; (with_reducible refine (tally_Right.calls a0 true _ A26.out).mono ?_); rintro e w' ⟨rfl, ⟨nd, rfl⟩⟩; refine ⟨_, rfl, ?_⟩) | (go_at_call 13; (with_reducible refine (tally_Right.calls a0 true _ A28.out).mono ?_); rintro e w' ⟨rfl, ⟨nd, rfl⟩⟩))
                go_ret
                exact ⟨by first | rfl | (simp [errW_none, errW_some] <;> rfl) | (simp [*, errW_none, errW_some] <;> rfl), by repeat (first | (with_reducible first | exact HB.out | apply below_alloc | apply pw_below_drewN | apply below_drew1) | exact HB.out)⟩
            · replace c29 := Bool.eq_false_iff.mpr c29
              subst c29
              have H1 : (some false) = some r := by rw [if_neg (show ¬ (false = true) by decide)] at H; exact H
              clear H
              have H := H1
              clear H1
              obtain rfl := Option.some.inj H
              go_wp2_with (first | ((with_reducible refine gate_callee (f := 13) rfl ?_); refine goesL_ (some 82) rfl rfl Try.func13 (by kernel_rfl) rfl #[.int .i64 a0] rfl (by (try simp only [List.map_toArray, List.map_cons, List.map_nil]); first | done | rfl | (simp only [List.length_drop, List.length_take]; rfl)) ?_; (with_reducible refine (tally_Right.calls a0 true _ A26.out).mono ?_); rintro e w' ⟨rfl, ⟨nd, rfl⟩⟩; refine ⟨_, rfl, ?_⟩) | (go_at_call 13; (with_reducible refine (tally_Right.calls a0 false _ A28.out).mono ?_); rintro e w' ⟨rfl, ⟨nd, rfl⟩⟩))
              go_ret
              exact ⟨by first | rfl | (simp [errW_none, errW_some] <;> rfl) | (simp [*, errW_none, errW_some] <;> rfl), by repeat (first | (with_reducible first | exact HB.out | apply below_alloc | apply pw_below_drewN | apply below_drew1) | exact HB.out)⟩
          · replace c27 := Bool.eq_false_iff.mpr c27
            subst c27
            have H1 : (if t162 = 0 then ((tally_Right.f a0).bind fun t165 => (if t165 = true then (some (t161 == a0)) else (some false))) else (some true)) = some r := by rw [if_neg (show ¬ (false = true) by decide)] at H; exact H
            clear H
            have H := H1
            clear H1
            by_cases c31 : t162 = 0
            · rw [if_pos c31] at H
              have c31b0 : (t162 == 0) = true := beq_iff_eq.mpr c31
              have c31b1 : (t162 != 0) = false := bne_eq_false_iff_eq.mpr c31
              clear c31
              replace H := Option.bind_eq_some_iff.mp H
              obtain ⟨t165, A320, H⟩ := H
              replace H : (if t165 = true then (some (t161 == a0)) else (some false)) = some r := H
              have A32 := Aside0.mk A320
              clear A320
              by_cases c33 : t165 = true
              · subst c33
                have H1 : (some (t161 == a0)) = some r := by rw [if_pos rfl] at H; exact H
                clear H
                have H := H1
                clear H1
                obtain rfl := Option.some.inj H
                go_wp2_with (first | ((with_reducible refine gate_callee (f := 13) rfl ?_); refine goesL_ (some 82) rfl rfl Try.func13 (by kernel_rfl) rfl #[.int .i64 a0] rfl (by (try simp only [List.map_toArray, List.map_cons, List.map_nil]); first | done | rfl | (simp only [List.length_drop, List.length_take]; rfl)) ?_; (with_reducible refine (tally_Right.calls a0 false _ A26.out).mono ?_); rintro e w' ⟨rfl, ⟨nd, rfl⟩⟩; refine ⟨_, rfl, ?_⟩) | (go_at_call 13; (with_reducible refine (tally_Right.calls a0 true _ A32.out).mono ?_); rintro e w' ⟨rfl, ⟨nd, rfl⟩⟩))
                go_ret
                exact ⟨by first | rfl | (simp [errW_none, errW_some] <;> rfl) | (simp [*, errW_none, errW_some] <;> rfl), by repeat (first | (with_reducible first | exact HB.out | apply below_alloc | apply pw_below_drewN | apply below_drew1) | exact HB.out)⟩
              · replace c33 := Bool.eq_false_iff.mpr c33
                subst c33
                have H1 : (some false) = some r := by rw [if_neg (show ¬ (false = true) by decide)] at H; exact H
                clear H
                have H := H1
                clear H1
                obtain rfl := Option.some.inj H
                go_wp2_with (first | ((with_reducible refine gate_callee (f := 13) rfl ?_); refine goesL_ (some 82) rfl rfl Try.func13 (by kernel_rfl) rfl #[.int .i64 a0] rfl (by (try simp only [List.map_toArray, List.map_cons, List.map_nil]); first | done | rfl | (simp only [List.length_drop, List.length_take]; rfl)) ?_; (with_reducible refine (tally_Right.calls a0 false _ A26.out).mono ?_); rintro e w' ⟨rfl, ⟨nd, rfl⟩⟩; refine ⟨_, rfl, ?_⟩) | (go_at_call 13; (with_reducible refine (tally_Right.calls a0 false _ A32.out).mono ?_); rintro e w' ⟨rfl, ⟨nd, rfl⟩⟩))
                go_ret
                exact ⟨by first | rfl | (simp [errW_none, errW_some] <;> rfl) | (simp [*, errW_none, errW_some] <;> rfl), by repeat (first | (with_reducible first | exact HB.out | apply below_alloc | apply pw_below_drewN | apply below_drew1) | exact HB.out)⟩
            · rw [if_neg c31] at H
              have c31b0 : (t162 == 0) = false := beq_eq_false_iff_ne.mpr c31
              have c31b1 : (t162 != 0) = true := bne_iff_ne.mpr c31
              obtain rfl := Option.some.inj H
              go_wp2_with (first | ((with_reducible refine gate_callee (f := 13) rfl ?_); refine goesL_ (some 82) rfl rfl Try.func13 (by kernel_rfl) rfl #[.int .i64 a0] rfl (by (try simp only [List.map_toArray, List.map_cons, List.map_nil]); first | done | rfl | (simp only [List.length_drop, List.length_take]; rfl)) ?_; (with_reducible refine (tally_Right.calls a0 false _ A26.out).mono ?_); rintro e w' ⟨rfl, ⟨nd, rfl⟩⟩; refine ⟨_, rfl, ?_⟩))
              go_ret
              exact ⟨by first | rfl | (simp [errW_none, errW_some] <;> rfl) | (simp [*, errW_none, errW_some] <;> rfl), by repeat (first | (with_reducible first | exact HB.out | apply below_alloc | apply pw_below_drewN | apply below_drew1) | exact HB.out)⟩
  · replace c5 := Bool.eq_false_iff.mpr c5
    subst c5
    have H1 : (some false) = some r := by rw [if_neg (show ¬ (false = true) by decide)] at H; exact H
    clear H
    have H := H1
    clear H1
    obtain rfl := Option.some.inj H
    go_enter Try.func5, Try.ntmps5
    go_wp2_with (first | ((with_reducible refine gate_callee (f := 9) rfl ?_); refine goesL_ (some 17) rfl rfl Try.func9 (by kernel_rfl) rfl #[] rfl (by (try simp only [List.map_toArray, List.map_cons, List.map_nil]); first | done | rfl | (simp only [List.length_drop, List.length_take]; rfl)) ?_; (with_reducible refine (packhorselaw02_tallyAlive.calls k  false _ A4.out).mono ?_); rintro e w34 ⟨rfl, hb⟩; refine ⟨_, rfl, ?_⟩; have n0_ := Aside0.mk (below_step (by repeat (first | (with_reducible first | exact HB.out | apply below_alloc | apply pw_below_drewN | apply below_drew1) | exact HB.out)) hb); clear HB; have HB := n0_; clear n0_; (try clear hb); (try clear hb2); (try clear hk); (try clear hi)))
    go_ret
    exact ⟨by first | rfl | (simp [errW_none, errW_some] <;> rfl) | (simp [*, errW_none, errW_some] <;> rfl), by repeat (first | (with_reducible first | exact HB.out | apply below_alloc | apply pw_below_drewN | apply below_drew1) | exact HB.out)⟩

/-- THE ONE PURE STATEMENT of packhorselaw02_TallyRises: yours. -/
def packhorselaw02_TallyRises.Pure : Prop := ∀ (a0 : Int) (a1 : Int) (a2 : Int), (Lit.int .i64 a0).wf = true → (Lit.int .i64 a1).wf = true → (Lit.int .i64 a2).wf = true → ∃ k, packhorselaw02_TallyRises.f k a0 a1 a2 = some true
theorem packhorselaw02_TallyRises.walk (P : packhorselaw02_TallyRises.Pure) (a0 : Int) (a1 : Int) (a2 : Int) (w : World) (w0 : (Lit.int .i64 a0).wf = true) (w1 : (Lit.int .i64 a1).wf = true) (w2 : (Lit.int .i64 a2).wf = true) :
    Calls Try.prog 5 #[.int .i64 a0, .int .i64 a1, .int .i64 a2] w fun e w' => e = .returned (.bool true) ∧ Below w.heap.size w w' := by
  obtain ⟨k, h⟩ := P a0 a1 a2 w0 w1 w2
  refine (packhorselaw02_TallyRises.calls k a0 a1 a2 true w h).mono ?_
  rintro e w' ⟨rfl, hd⟩
  exact ⟨rfl, hd⟩

/-! ### tally_Less: function 16 -/
def tally_Less.f (a0 : Int) (a1 : Int) : Option (Int × Int) := (tally_Right.f a0).bind fun t166 => (if t166 = true then ((tally_Right.f a1).bind fun t167 => (if t167 = true then ((tally_told.f (wrap64 (a0 - a1))).bind fun bt168 => (some (bt168.1, bt168.2))) else (some (0, 21)))) else (some (0, 21)))
set_option maxHeartbeats 8000000 in
set_option maxRecDepth 100000 in
theorem tally_Less.calls (a0 : Int) (a1 : Int) (r1 : Int) (r2 : Int) (w : World) (h : tally_Less.f a0 a1 = some (r1, r2)) :
    Calls Try.prog 16 #[.int .i64 a0, .int .i64 a1] w fun e w' => e = .returned (.tuple #[.int .i64 r1, .int .i64 r2]) ∧ Drawn0 w w' := by
  have H : ((tally_Right.f a0).bind fun t166 => (if t166 = true then ((tally_Right.f a1).bind fun t167 => (if t167 = true then ((tally_told.f (wrap64 (a0 - a1))).bind fun bt168 => (some (bt168.1, bt168.2))) else (some (0, 21)))) else (some (0, 21)))) = some (r1, r2) := h
  clear h
  replace H := Option.bind_eq_some_iff.mp H
  obtain ⟨t166, A30, H⟩ := H
  replace H : (if t166 = true then ((tally_Right.f a1).bind fun t167 => (if t167 = true then ((tally_told.f (wrap64 (a0 - a1))).bind fun bt168 => (some (bt168.1, bt168.2))) else (some (0, 21)))) else (some (0, 21))) = some (r1, r2) := H
  have A3 := Aside0.mk A30
  clear A30
  by_cases c4 : t166 = true
  · subst c4
    have H1 : ((tally_Right.f a1).bind fun t167 => (if t167 = true then ((tally_told.f (wrap64 (a0 - a1))).bind fun bt168 => (some (bt168.1, bt168.2))) else (some (0, 21)))) = some (r1, r2) := by rw [if_pos rfl] at H; exact H
    clear H
    have H := H1
    clear H1
    replace H := Option.bind_eq_some_iff.mp H
    obtain ⟨t167, A50, H⟩ := H
    replace H : (if t167 = true then ((tally_told.f (wrap64 (a0 - a1))).bind fun bt168 => (some (bt168.1, bt168.2))) else (some (0, 21))) = some (r1, r2) := H
    have A5 := Aside0.mk A50
    clear A50
    by_cases c6 : t167 = true
    · subst c6
      have H1 : ((tally_told.f (wrap64 (a0 - a1))).bind fun bt168 => (some (bt168.1, bt168.2))) = some (r1, r2) := by rw [if_pos rfl] at H; exact H
      clear H
      have H := H1
      clear H1
      replace H := Option.bind_eq_some_iff.mp H
      obtain ⟨⟨t168, t169⟩, A70, H⟩ := H
      replace H : (some (t168, t169)) = some (r1, r2) := H
      have A7 := Aside0.mk A70
      clear A70
      simp only [Option.some.injEq, Prod.mk.injEq] at H
      obtain ⟨rfl, rfl⟩ := H
      go_enter Try.func16, Try.ntmps16
      go_wp2_with (first | ((with_reducible refine gate_callee (f := 13) rfl ?_); refine goesL_ (some 7) rfl rfl Try.func13 (by kernel_rfl) rfl #[.int .i64 a0] rfl (by (try simp only [List.map_toArray, List.map_cons, List.map_nil]); first | done | rfl | (simp only [List.length_drop, List.length_take]; rfl)) ?_; (with_reducible refine (tally_Right.calls a0 true _ A3.out).mono ?_); rintro e w' ⟨rfl, ⟨nd, rfl⟩⟩; refine ⟨_, rfl, ?_⟩) | (go_at_call 13; (with_reducible refine (tally_Right.calls a1 true _ A5.out).mono ?_); rintro e w' ⟨rfl, ⟨nd, rfl⟩⟩) | ((with_reducible refine gate_callee (f := 21) rfl ?_); refine goesL_ (some 17) rfl rfl Try.func21 (by kernel_rfl) rfl #[.int .i64 (wrap64 (a0 - a1))] rfl (by (try simp only [List.map_toArray, List.map_cons, List.map_nil]); first | done | rfl | (simp only [List.length_drop, List.length_take]; rfl)) ?_; (with_reducible refine (tally_told.calls (wrap64 (a0 - a1)) t168 t169 _ A7.out).mono ?_); rintro e w' ⟨rfl, ⟨nd, rfl⟩⟩; refine ⟨_, rfl, ?_⟩))
      go_ret2
      exact ⟨by first | rfl | (simp; done) | (simp [*]; done), by repeat (first | exact Drawn0.refl _ | apply Drawn0.step)⟩
    · replace c6 := Bool.eq_false_iff.mpr c6
      subst c6
      have H1 : (some (0, 21)) = some (r1, r2) := by rw [if_neg (show ¬ (false = true) by decide)] at H; exact H
      clear H
      have H := H1
      clear H1
      simp only [Option.some.injEq, Prod.mk.injEq] at H
      obtain ⟨rfl, rfl⟩ := H
      go_enter Try.func16, Try.ntmps16
      go_wp2_with (first | ((with_reducible refine gate_callee (f := 13) rfl ?_); refine goesL_ (some 7) rfl rfl Try.func13 (by kernel_rfl) rfl #[.int .i64 a0] rfl (by (try simp only [List.map_toArray, List.map_cons, List.map_nil]); first | done | rfl | (simp only [List.length_drop, List.length_take]; rfl)) ?_; (with_reducible refine (tally_Right.calls a0 true _ A3.out).mono ?_); rintro e w' ⟨rfl, ⟨nd, rfl⟩⟩; refine ⟨_, rfl, ?_⟩) | (go_at_call 13; (with_reducible refine (tally_Right.calls a1 false _ A5.out).mono ?_); rintro e w' ⟨rfl, ⟨nd, rfl⟩⟩))
      go_ret2
      exact ⟨by first | rfl | (simp; done) | (simp [*]; done), by repeat (first | exact Drawn0.refl _ | apply Drawn0.step)⟩
  · replace c4 := Bool.eq_false_iff.mpr c4
    subst c4
    have H1 : (some (0, 21)) = some (r1, r2) := by rw [if_neg (show ¬ (false = true) by decide)] at H; exact H
    clear H
    have H := H1
    clear H1
    simp only [Option.some.injEq, Prod.mk.injEq] at H
    obtain ⟨rfl, rfl⟩ := H
    go_enter Try.func16, Try.ntmps16
    go_wp2_with (first | ((with_reducible refine gate_callee (f := 13) rfl ?_); refine goesL_ (some 7) rfl rfl Try.func13 (by kernel_rfl) rfl #[.int .i64 a0] rfl (by (try simp only [List.map_toArray, List.map_cons, List.map_nil]); first | done | rfl | (simp only [List.length_drop, List.length_take]; rfl)) ?_; (with_reducible refine (tally_Right.calls a0 false _ A3.out).mono ?_); rintro e w' ⟨rfl, ⟨nd, rfl⟩⟩; refine ⟨_, rfl, ?_⟩))
    go_ret2
    exact ⟨by first | rfl | (simp; done) | (simp [*]; done), by repeat (first | exact Drawn0.refl _ | apply Drawn0.step)⟩

/-! ### packhorselaw02_TallyNames: function 6 -/
def packhorselaw02_TallyNames.f (k : Nat)  : Option (Bool) := (tally_Add.f 1000000000000 1).bind fun bt170 => ((tally_Less.f 0 1).bind fun bt172 => ((tally_Times.f k 1000000 1000000).bind fun bt174 => ((tally_Share.f k 1 1001).bind fun bt176 => ((tally_Sum.f k ([] : List Int)).bind fun bt180 => ((packhorselaw02_tallyAlive.f k).bind fun t182 => (if t182 = true then (if bt170.2 = 21 then (if bt172.2 = 21 then (if bt174.1 = 1000000000000 then (if bt174.2 = 0 then (if bt176.2 = 21 then (if bt180.1 = 0 then (some (bt180.2 == 0)) else (some false)) else (some false)) else (some false)) else (some false)) else (some false)) else (some false)) else (some false)))))))
theorem packhorselaw02_TallyNames.mono : ∀ k, LeO (packhorselaw02_TallyNames.f k ) (packhorselaw02_TallyNames.f (k + 1) ) := by
  intro  k
  unfold packhorselaw02_TallyNames.f
  repeat' first
      | (with_reducible exact packhorselaw02_tallyAlive.mono _)
      | (with_reducible exact tally_Share.mono _ _ _)
      | (with_reducible exact tally_Sum.mono _ _)
      | (with_reducible exact tally_Times.mono _ _ _)
      | (with_reducible exact LeO.refl _)
      | (with_reducible exact LeO.none _)
      | (with_reducible refine LeO.ite ?_ ?_)
      | (with_reducible refine LeO.bind ?_ (fun _ => ?_))
      | exact packhorselaw02_tallyAlive.mono _
      | exact tally_Share.mono _ _ _
      | exact tally_Sum.mono _ _
      | exact tally_Times.mono _ _ _
      | exact LeO.none _
      | refine LeO.ite ?_ ?_
      | refine LeO.bind ?_ (fun _ => ?_)
set_option maxHeartbeats 8000000 in
set_option maxRecDepth 100000 in
theorem packhorselaw02_TallyNames.calls (k : Nat)  (r : Bool) (w : World) (h : packhorselaw02_TallyNames.f k  = some r) :
    Calls Try.prog 6 #[] w fun e w' => e = .returned (.bool r) ∧ Below w.heap.size w w' := by
  have HB := Aside0.mk (Below.refl w.heap.size w)
  have H : ((tally_Add.f 1000000000000 1).bind fun bt170 => ((tally_Less.f 0 1).bind fun bt172 => ((tally_Times.f k 1000000 1000000).bind fun bt174 => ((tally_Share.f k 1 1001).bind fun bt176 => ((tally_Sum.f k ([] : List Int)).bind fun bt180 => ((packhorselaw02_tallyAlive.f k).bind fun t182 => (if t182 = true then (if bt170.2 = 21 then (if bt172.2 = 21 then (if bt174.1 = 1000000000000 then (if bt174.2 = 0 then (if bt176.2 = 21 then (if bt180.1 = 0 then (some (bt180.2 == 0)) else (some false)) else (some false)) else (some false)) else (some false)) else (some false)) else (some false)) else (some false)))))))) = some r := h
  clear h
  replace H := Option.bind_eq_some_iff.mp H
  obtain ⟨⟨t170, t171⟩, A10, H⟩ := H
  replace H : ((tally_Less.f 0 1).bind fun bt172 => ((tally_Times.f k 1000000 1000000).bind fun bt174 => ((tally_Share.f k 1 1001).bind fun bt176 => ((tally_Sum.f k ([] : List Int)).bind fun bt180 => ((packhorselaw02_tallyAlive.f k).bind fun t182 => (if t182 = true then (if t171 = 21 then (if bt172.2 = 21 then (if bt174.1 = 1000000000000 then (if bt174.2 = 0 then (if bt176.2 = 21 then (if bt180.1 = 0 then (some (bt180.2 == 0)) else (some false)) else (some false)) else (some false)) else (some false)) else (some false)) else (some false)) else (some false))))))) = some r := H
  have A1 := Aside0.mk A10
  clear A10
  replace H := Option.bind_eq_some_iff.mp H
  obtain ⟨⟨t172, t173⟩, A20, H⟩ := H
  replace H : ((tally_Times.f k 1000000 1000000).bind fun bt174 => ((tally_Share.f k 1 1001).bind fun bt176 => ((tally_Sum.f k ([] : List Int)).bind fun bt180 => ((packhorselaw02_tallyAlive.f k).bind fun t182 => (if t182 = true then (if t171 = 21 then (if t173 = 21 then (if bt174.1 = 1000000000000 then (if bt174.2 = 0 then (if bt176.2 = 21 then (if bt180.1 = 0 then (some (bt180.2 == 0)) else (some false)) else (some false)) else (some false)) else (some false)) else (some false)) else (some false)) else (some false)))))) = some r := H
  have A2 := Aside0.mk A20
  clear A20
  replace H := Option.bind_eq_some_iff.mp H
  obtain ⟨⟨t174, t175⟩, A30, H⟩ := H
  replace H : ((tally_Share.f k 1 1001).bind fun bt176 => ((tally_Sum.f k ([] : List Int)).bind fun bt180 => ((packhorselaw02_tallyAlive.f k).bind fun t182 => (if t182 = true then (if t171 = 21 then (if t173 = 21 then (if t174 = 1000000000000 then (if t175 = 0 then (if bt176.2 = 21 then (if bt180.1 = 0 then (some (bt180.2 == 0)) else (some false)) else (some false)) else (some false)) else (some false)) else (some false)) else (some false)) else (some false))))) = some r := H
  have A3 := Aside0.mk A30
  clear A30
  replace H := Option.bind_eq_some_iff.mp H
  obtain ⟨⟨t176, t177⟩, A40, H⟩ := H
  replace H : ((tally_Sum.f k ([] : List Int)).bind fun bt180 => ((packhorselaw02_tallyAlive.f k).bind fun t182 => (if t182 = true then (if t171 = 21 then (if t173 = 21 then (if t174 = 1000000000000 then (if t175 = 0 then (if t177 = 21 then (if bt180.1 = 0 then (some (bt180.2 == 0)) else (some false)) else (some false)) else (some false)) else (some false)) else (some false)) else (some false)) else (some false)))) = some r := H
  have A4 := Aside0.mk A40
  clear A40
  replace H := Option.bind_eq_some_iff.mp H
  obtain ⟨⟨t180, t181⟩, A50, H⟩ := H
  replace H : ((packhorselaw02_tallyAlive.f k).bind fun t182 => (if t182 = true then (if t171 = 21 then (if t173 = 21 then (if t174 = 1000000000000 then (if t175 = 0 then (if t177 = 21 then (if t180 = 0 then (some (t181 == 0)) else (some false)) else (some false)) else (some false)) else (some false)) else (some false)) else (some false)) else (some false))) = some r := H
  have A5 := Aside0.mk A50
  clear A50
  replace H := Option.bind_eq_some_iff.mp H
  obtain ⟨t182, A60, H⟩ := H
  replace H : (if t182 = true then (if t171 = 21 then (if t173 = 21 then (if t174 = 1000000000000 then (if t175 = 0 then (if t177 = 21 then (if t180 = 0 then (some (t181 == 0)) else (some false)) else (some false)) else (some false)) else (some false)) else (some false)) else (some false)) else (some false)) = some r := H
  have A6 := Aside0.mk A60
  clear A60
  by_cases c7 : t182 = true
  · subst c7
    have H1 : (if t171 = 21 then (if t173 = 21 then (if t174 = 1000000000000 then (if t175 = 0 then (if t177 = 21 then (if t180 = 0 then (some (t181 == 0)) else (some false)) else (some false)) else (some false)) else (some false)) else (some false)) else (some false)) = some r := by rw [if_pos rfl] at H; exact H
    clear H
    have H := H1
    clear H1
    by_cases c8 : t171 = 21
    · rw [if_pos c8] at H
      have c8b0 : (t171 == 21) = true := beq_iff_eq.mpr c8
      have c8b1 : (t171 != 21) = false := bne_eq_false_iff_eq.mpr c8
      clear c8
      by_cases c9 : t173 = 21
      · rw [if_pos c9] at H
        have c9b0 : (t173 == 21) = true := beq_iff_eq.mpr c9
        have c9b1 : (t173 != 21) = false := bne_eq_false_iff_eq.mpr c9
        clear c9
        by_cases c10 : t174 = 1000000000000
        · rw [if_pos c10] at H
          have c10b0 : (t174 == 1000000000000) = true := beq_iff_eq.mpr c10
          have c10b1 : (t174 != 1000000000000) = false := bne_eq_false_iff_eq.mpr c10
          clear c10
          by_cases c11 : t175 = 0
          · rw [if_pos c11] at H
            have c11b0 : (t175 == 0) = true := beq_iff_eq.mpr c11
            have c11b1 : (t175 != 0) = false := bne_eq_false_iff_eq.mpr c11
            clear c11
            by_cases c12 : t177 = 21
            · rw [if_pos c12] at H
              have c12b0 : (t177 == 21) = true := beq_iff_eq.mpr c12
              have c12b1 : (t177 != 21) = false := bne_eq_false_iff_eq.mpr c12
              clear c12
              by_cases c13 : t180 = 0
              · rw [if_pos c13] at H
                have c13b0 : (t180 == 0) = true := beq_iff_eq.mpr c13
                have c13b1 : (t180 != 0) = false := bne_eq_false_iff_eq.mpr c13
                clear c13
                obtain rfl := Option.some.inj H
                go_enter Try.func6, Try.ntmps6
                go_wp2_with (first | ((with_reducible refine gate_callee (f := 14) rfl ?_); refine goesL_ (some 12) rfl rfl Try.func14 (by kernel_rfl) rfl #[.int .i64 1000000000000, .int .i64 1] rfl (by (try simp only [List.map_toArray, List.map_cons, List.map_nil]); first | done | rfl | (simp only [List.length_drop, List.length_take]; rfl)) ?_; (with_reducible refine (tally_Add.calls 1000000000000 1 t170 t171 _ A1.out).mono ?_); rintro e w' ⟨rfl, ⟨nd, rfl⟩⟩; refine ⟨_, rfl, ?_⟩) | ((with_reducible refine gate_callee (f := 16) rfl ?_); refine goesL_ (some 16) rfl rfl Try.func16 (by kernel_rfl) rfl #[.int .i64 0, .int .i64 1] rfl (by (try simp only [List.map_toArray, List.map_cons, List.map_nil]); first | done | rfl | (simp only [List.length_drop, List.length_take]; rfl)) ?_; (with_reducible refine (tally_Less.calls 0 1 t172 t173 _ A2.out).mono ?_); rintro e w' ⟨rfl, ⟨nd, rfl⟩⟩; refine ⟨_, rfl, ?_⟩) | ((with_reducible refine gate_callee (f := 15) rfl ?_); refine goesL_ (some 20) rfl rfl Try.func15 (by kernel_rfl) rfl #[.int .i64 1000000, .int .i64 1000000] rfl (by (try simp only [List.map_toArray, List.map_cons, List.map_nil]); first | done | rfl | (simp only [List.length_drop, List.length_take]; rfl)) ?_; (with_reducible refine (tally_Times.calls k 1000000 1000000 t174 t175 _ A3.out).mono ?_); rintro e w' ⟨rfl, ⟨nd, rfl⟩⟩; refine ⟨_, rfl, ?_⟩) | ((with_reducible refine gate_callee (f := 12) rfl ?_); refine goesL_ (some 24) rfl rfl Try.func12 (by kernel_rfl) rfl #[.int .i64 1, .int .i64 1001] rfl (by (try simp only [List.map_toArray, List.map_cons, List.map_nil]); first | done | rfl | (simp only [List.length_drop, List.length_take]; rfl)) ?_; (with_reducible refine (tally_Share.calls k 1 1001 t176 t177 _ A4.out).mono ?_); rintro e w14 ⟨v178, rfl, ho0, hb⟩; refine ⟨_, rfl, ?_⟩; have n0_ := Aside0.mk (Kd.R_lower ho0 (below_size (by repeat (first | (with_reducible first | exact HB.out | apply below_alloc | apply pw_below_drewN | apply below_drew1) | exact HB.out)))); have n1_ := Aside0.mk (below_step (by repeat (first | (with_reducible first | exact HB.out | apply below_alloc | apply pw_below_drewN | apply below_drew1) | exact HB.out)) hb); clear HB; have HO179 := n0_; have HB := n1_; clear n0_ n1_; (try clear hb); (try clear hb2); (try clear hk); (try clear hi); (try clear ho0)) | ((with_reducible refine gate_callee (f := 10) rfl ?_); refine goesL_ (some 28) rfl rfl Try.func10 (by kernel_rfl) rfl #[.slice none 0 0] rfl (by (try simp only [List.map_toArray, List.map_cons, List.map_nil]); first | done | rfl | (simp only [List.length_drop, List.length_take]; rfl)) ?_; (refine (tally_Sum.calls k _ _ ([] : List Int) t180 t181 _ ?side1 ?side2 A5.out).mono ?_); (case side1 => exact Kd.C_nil _ _); (case side2 => exact Nat.le_refl _); rintro e w' ⟨rfl, ⟨nd, rfl⟩⟩; refine ⟨_, rfl, ?_⟩) | ((with_reducible refine gate_callee (f := 9) rfl ?_); refine goesL_ (some 31) rfl rfl Try.func9 (by kernel_rfl) rfl #[] rfl (by (try simp only [List.map_toArray, List.map_cons, List.map_nil]); first | done | rfl | (simp only [List.length_drop, List.length_take]; rfl)) ?_; (with_reducible refine (packhorselaw02_tallyAlive.calls k  true _ A6.out).mono ?_); rintro e w15 ⟨rfl, hb⟩; refine ⟨_, rfl, ?_⟩; have n0_ := Aside0.mk (Kd.R_below (by (with_reducible repeat (first | apply Kd.R_alloc | apply Kd.R_drewN | apply Kd.R_drew)); exact HO179.out) hb); have n1_ := Aside0.mk (below_step (by repeat (first | (with_reducible first | exact HB.out | apply below_alloc | apply pw_below_drewN | apply below_drew1) | exact HB.out)) hb); clear HO179; clear HB; have HO179 := n0_; have HB := n1_; clear n0_ n1_; (try clear hb); (try clear hb2); (try clear hk); (try clear hi)))
                go_ret
                exact ⟨by first | rfl | (simp [errW_none, errW_some] <;> rfl) | (simp [*, errW_none, errW_some] <;> rfl), by repeat (first | (with_reducible first | exact HB.out | apply below_alloc | apply pw_below_drewN | apply below_drew1) | exact HB.out)⟩
              · rw [if_neg c13] at H
                have c13b0 : (t180 == 0) = false := beq_eq_false_iff_ne.mpr c13
                have c13b1 : (t180 != 0) = true := bne_iff_ne.mpr c13
                obtain rfl := Option.some.inj H
                go_enter Try.func6, Try.ntmps6
                go_wp2_with (first | ((with_reducible refine gate_callee (f := 14) rfl ?_); refine goesL_ (some 12) rfl rfl Try.func14 (by kernel_rfl) rfl #[.int .i64 1000000000000, .int .i64 1] rfl (by (try simp only [List.map_toArray, List.map_cons, List.map_nil]); first | done | rfl | (simp only [List.length_drop, List.length_take]; rfl)) ?_; (with_reducible refine (tally_Add.calls 1000000000000 1 t170 t171 _ A1.out).mono ?_); rintro e w' ⟨rfl, ⟨nd, rfl⟩⟩; refine ⟨_, rfl, ?_⟩) | ((with_reducible refine gate_callee (f := 16) rfl ?_); refine goesL_ (some 16) rfl rfl Try.func16 (by kernel_rfl) rfl #[.int .i64 0, .int .i64 1] rfl (by (try simp only [List.map_toArray, List.map_cons, List.map_nil]); first | done | rfl | (simp only [List.length_drop, List.length_take]; rfl)) ?_; (with_reducible refine (tally_Less.calls 0 1 t172 t173 _ A2.out).mono ?_); rintro e w' ⟨rfl, ⟨nd, rfl⟩⟩; refine ⟨_, rfl, ?_⟩) | ((with_reducible refine gate_callee (f := 15) rfl ?_); refine goesL_ (some 20) rfl rfl Try.func15 (by kernel_rfl) rfl #[.int .i64 1000000, .int .i64 1000000] rfl (by (try simp only [List.map_toArray, List.map_cons, List.map_nil]); first | done | rfl | (simp only [List.length_drop, List.length_take]; rfl)) ?_; (with_reducible refine (tally_Times.calls k 1000000 1000000 t174 t175 _ A3.out).mono ?_); rintro e w' ⟨rfl, ⟨nd, rfl⟩⟩; refine ⟨_, rfl, ?_⟩) | ((with_reducible refine gate_callee (f := 12) rfl ?_); refine goesL_ (some 24) rfl rfl Try.func12 (by kernel_rfl) rfl #[.int .i64 1, .int .i64 1001] rfl (by (try simp only [List.map_toArray, List.map_cons, List.map_nil]); first | done | rfl | (simp only [List.length_drop, List.length_take]; rfl)) ?_; (with_reducible refine (tally_Share.calls k 1 1001 t176 t177 _ A4.out).mono ?_); rintro e w16 ⟨v178, rfl, ho0, hb⟩; refine ⟨_, rfl, ?_⟩; have n0_ := Aside0.mk (Kd.R_lower ho0 (below_size (by repeat (first | (with_reducible first | exact HB.out | apply below_alloc | apply pw_below_drewN | apply below_drew1) | exact HB.out)))); have n1_ := Aside0.mk (below_step (by repeat (first | (with_reducible first | exact HB.out | apply below_alloc | apply pw_below_drewN | apply below_drew1) | exact HB.out)) hb); clear HB; have HO179 := n0_; have HB := n1_; clear n0_ n1_; (try clear hb); (try clear hb2); (try clear hk); (try clear hi); (try clear ho0)) | ((with_reducible refine gate_callee (f := 10) rfl ?_); refine goesL_ (some 28) rfl rfl Try.func10 (by kernel_rfl) rfl #[.slice none 0 0] rfl (by (try simp only [List.map_toArray, List.map_cons, List.map_nil]); first | done | rfl | (simp only [List.length_drop, List.length_take]; rfl)) ?_; (refine (tally_Sum.calls k _ _ ([] : List Int) t180 t181 _ ?side1 ?side2 A5.out).mono ?_); (case side1 => exact Kd.C_nil _ _); (case side2 => exact Nat.le_refl _); rintro e w' ⟨rfl, ⟨nd, rfl⟩⟩; refine ⟨_, rfl, ?_⟩) | ((with_reducible refine gate_callee (f := 9) rfl ?_); refine goesL_ (some 31) rfl rfl Try.func9 (by kernel_rfl) rfl #[] rfl (by (try simp only [List.map_toArray, List.map_cons, List.map_nil]); first | done | rfl | (simp only [List.length_drop, List.length_take]; rfl)) ?_; (with_reducible refine (packhorselaw02_tallyAlive.calls k  true _ A6.out).mono ?_); rintro e w17 ⟨rfl, hb⟩; refine ⟨_, rfl, ?_⟩; have n0_ := Aside0.mk (Kd.R_below (by (with_reducible repeat (first | apply Kd.R_alloc | apply Kd.R_drewN | apply Kd.R_drew)); exact HO179.out) hb); have n1_ := Aside0.mk (below_step (by repeat (first | (with_reducible first | exact HB.out | apply below_alloc | apply pw_below_drewN | apply below_drew1) | exact HB.out)) hb); clear HO179; clear HB; have HO179 := n0_; have HB := n1_; clear n0_ n1_; (try clear hb); (try clear hb2); (try clear hk); (try clear hi)))
                go_ret
                exact ⟨by first | rfl | (simp [errW_none, errW_some] <;> rfl) | (simp [*, errW_none, errW_some] <;> rfl), by repeat (first | (with_reducible first | exact HB.out | apply below_alloc | apply pw_below_drewN | apply below_drew1) | exact HB.out)⟩
            · rw [if_neg c12] at H
              have c12b0 : (t177 == 21) = false := beq_eq_false_iff_ne.mpr c12
              have c12b1 : (t177 != 21) = true := bne_iff_ne.mpr c12
              obtain rfl := Option.some.inj H
              go_enter Try.func6, Try.ntmps6
              go_wp2_with (first | ((with_reducible refine gate_callee (f := 14) rfl ?_); refine goesL_ (some 12) rfl rfl Try.func14 (by kernel_rfl) rfl #[.int .i64 1000000000000, .int .i64 1] rfl (by (try simp only [List.map_toArray, List.map_cons, List.map_nil]); first | done | rfl | (simp only [List.length_drop, List.length_take]; rfl)) ?_; (with_reducible refine (tally_Add.calls 1000000000000 1 t170 t171 _ A1.out).mono ?_); rintro e w' ⟨rfl, ⟨nd, rfl⟩⟩; refine ⟨_, rfl, ?_⟩) | ((with_reducible refine gate_callee (f := 16) rfl ?_); refine goesL_ (some 16) rfl rfl Try.func16 (by kernel_rfl) rfl #[.int .i64 0, .int .i64 1] rfl (by (try simp only [List.map_toArray, List.map_cons, List.map_nil]); first | done | rfl | (simp only [List.length_drop, List.length_take]; rfl)) ?_; (with_reducible refine (tally_Less.calls 0 1 t172 t173 _ A2.out).mono ?_); rintro e w' ⟨rfl, ⟨nd, rfl⟩⟩; refine ⟨_, rfl, ?_⟩) | ((with_reducible refine gate_callee (f := 15) rfl ?_); refine goesL_ (some 20) rfl rfl Try.func15 (by kernel_rfl) rfl #[.int .i64 1000000, .int .i64 1000000] rfl (by (try simp only [List.map_toArray, List.map_cons, List.map_nil]); first | done | rfl | (simp only [List.length_drop, List.length_take]; rfl)) ?_; (with_reducible refine (tally_Times.calls k 1000000 1000000 t174 t175 _ A3.out).mono ?_); rintro e w' ⟨rfl, ⟨nd, rfl⟩⟩; refine ⟨_, rfl, ?_⟩) | ((with_reducible refine gate_callee (f := 12) rfl ?_); refine goesL_ (some 24) rfl rfl Try.func12 (by kernel_rfl) rfl #[.int .i64 1, .int .i64 1001] rfl (by (try simp only [List.map_toArray, List.map_cons, List.map_nil]); first | done | rfl | (simp only [List.length_drop, List.length_take]; rfl)) ?_; (with_reducible refine (tally_Share.calls k 1 1001 t176 t177 _ A4.out).mono ?_); rintro e w18 ⟨v178, rfl, ho0, hb⟩; refine ⟨_, rfl, ?_⟩; have n0_ := Aside0.mk (Kd.R_lower ho0 (below_size (by repeat (first | (with_reducible first | exact HB.out | apply below_alloc | apply pw_below_drewN | apply below_drew1) | exact HB.out)))); have n1_ := Aside0.mk (below_step (by repeat (first | (with_reducible first | exact HB.out | apply below_alloc | apply pw_below_drewN | apply below_drew1) | exact HB.out)) hb); clear HB; have HO179 := n0_; have HB := n1_; clear n0_ n1_; (try clear hb); (try clear hb2); (try clear hk); (try clear hi); (try clear ho0)) | ((with_reducible refine gate_callee (f := 10) rfl ?_); refine goesL_ (some 28) rfl rfl Try.func10 (by kernel_rfl) rfl #[.slice none 0 0] rfl (by (try simp only [List.map_toArray, List.map_cons, List.map_nil]); first | done | rfl | (simp only [List.length_drop, List.length_take]; rfl)) ?_; (refine (tally_Sum.calls k _ _ ([] : List Int) t180 t181 _ ?side1 ?side2 A5.out).mono ?_); (case side1 => exact Kd.C_nil _ _); (case side2 => exact Nat.le_refl _); rintro e w' ⟨rfl, ⟨nd, rfl⟩⟩; refine ⟨_, rfl, ?_⟩) | ((with_reducible refine gate_callee (f := 9) rfl ?_); refine goesL_ (some 31) rfl rfl Try.func9 (by kernel_rfl) rfl #[] rfl (by (try simp only [List.map_toArray, List.map_cons, List.map_nil]); first | done | rfl | (simp only [List.length_drop, List.length_take]; rfl)) ?_; (with_reducible refine (packhorselaw02_tallyAlive.calls k  true _ A6.out).mono ?_); rintro e w19 ⟨rfl, hb⟩; refine ⟨_, rfl, ?_⟩; have n0_ := Aside0.mk (Kd.R_below (by (with_reducible repeat (first | apply Kd.R_alloc | apply Kd.R_drewN | apply Kd.R_drew)); exact HO179.out) hb); have n1_ := Aside0.mk (below_step (by repeat (first | (with_reducible first | exact HB.out | apply below_alloc | apply pw_below_drewN | apply below_drew1) | exact HB.out)) hb); clear HO179; clear HB; have HO179 := n0_; have HB := n1_; clear n0_ n1_; (try clear hb); (try clear hb2); (try clear hk); (try clear hi)))
              go_ret
              exact ⟨by first | rfl | (simp [errW_none, errW_some] <;> rfl) | (simp [*, errW_none, errW_some] <;> rfl), by repeat (first | (with_reducible first | exact HB.out | apply below_alloc | apply pw_below_drewN | apply below_drew1) | exact HB.out)⟩
          · rw [if_neg c11] at H
            have c11b0 : (t175 == 0) = false := beq_eq_false_iff_ne.mpr c11
            have c11b1 : (t175 != 0) = true := bne_iff_ne.mpr c11
            obtain rfl := Option.some.inj H
            go_enter Try.func6, Try.ntmps6
            go_wp2_with (first | ((with_reducible refine gate_callee (f := 14) rfl ?_); refine goesL_ (some 12) rfl rfl Try.func14 (by kernel_rfl) rfl #[.int .i64 1000000000000, .int .i64 1] rfl (by (try simp only [List.map_toArray, List.map_cons, List.map_nil]); first | done | rfl | (simp only [List.length_drop, List.length_take]; rfl)) ?_; (with_reducible refine (tally_Add.calls 1000000000000 1 t170 t171 _ A1.out).mono ?_); rintro e w' ⟨rfl, ⟨nd, rfl⟩⟩; refine ⟨_, rfl, ?_⟩) | ((with_reducible refine gate_callee (f := 16) rfl ?_); refine goesL_ (some 16) rfl rfl Try.func16 (by kernel_rfl) rfl #[.int .i64 0, .int .i64 1] rfl (by (try simp only [List.map_toArray, List.map_cons, List.map_nil]); first | done | rfl | (simp only [List.length_drop, List.length_take]; rfl)) ?_; (with_reducible refine (tally_Less.calls 0 1 t172 t173 _ A2.out).mono ?_); rintro e w' ⟨rfl, ⟨nd, rfl⟩⟩; refine ⟨_, rfl, ?_⟩) | ((with_reducible refine gate_callee (f := 15) rfl ?_); refine goesL_ (some 20) rfl rfl Try.func15 (by kernel_rfl) rfl #[.int .i64 1000000, .int .i64 1000000] rfl (by (try simp only [List.map_toArray, List.map_cons, List.map_nil]); first | done | rfl | (simp only [List.length_drop, List.length_take]; rfl)) ?_; (with_reducible refine (tally_Times.calls k 1000000 1000000 t174 t175 _ A3.out).mono ?_); rintro e w' ⟨rfl, ⟨nd, rfl⟩⟩; refine ⟨_, rfl, ?_⟩) | ((with_reducible refine gate_callee (f := 12) rfl ?_); refine goesL_ (some 24) rfl rfl Try.func12 (by kernel_rfl) rfl #[.int .i64 1, .int .i64 1001] rfl (by (try simp only [List.map_toArray, List.map_cons, List.map_nil]); first | done | rfl | (simp only [List.length_drop, List.length_take]; rfl)) ?_; (with_reducible refine (tally_Share.calls k 1 1001 t176 t177 _ A4.out).mono ?_); rintro e w20 ⟨v178, rfl, ho0, hb⟩; refine ⟨_, rfl, ?_⟩; have n0_ := Aside0.mk (Kd.R_lower ho0 (below_size (by repeat (first | (with_reducible first | exact HB.out | apply below_alloc | apply pw_below_drewN | apply below_drew1) | exact HB.out)))); have n1_ := Aside0.mk (below_step (by repeat (first | (with_reducible first | exact HB.out | apply below_alloc | apply pw_below_drewN | apply below_drew1) | exact HB.out)) hb); clear HB; have HO179 := n0_; have HB := n1_; clear n0_ n1_; (try clear hb); (try clear hb2); (try clear hk); (try clear hi); (try clear ho0)) | ((with_reducible refine gate_callee (f := 10) rfl ?_); refine goesL_ (some 28) rfl rfl Try.func10 (by kernel_rfl) rfl #[.slice none 0 0] rfl (by (try simp only [List.map_toArray, List.map_cons, List.map_nil]); first | done | rfl | (simp only [List.length_drop, List.length_take]; rfl)) ?_; (refine (tally_Sum.calls k _ _ ([] : List Int) t180 t181 _ ?side1 ?side2 A5.out).mono ?_); (case side1 => exact Kd.C_nil _ _); (case side2 => exact Nat.le_refl _); rintro e w' ⟨rfl, ⟨nd, rfl⟩⟩; refine ⟨_, rfl, ?_⟩) | ((with_reducible refine gate_callee (f := 9) rfl ?_); refine goesL_ (some 31) rfl rfl Try.func9 (by kernel_rfl) rfl #[] rfl (by (try simp only [List.map_toArray, List.map_cons, List.map_nil]); first | done | rfl | (simp only [List.length_drop, List.length_take]; rfl)) ?_; (with_reducible refine (packhorselaw02_tallyAlive.calls k  true _ A6.out).mono ?_); rintro e w21 ⟨rfl, hb⟩; refine ⟨_, rfl, ?_⟩; have n0_ := Aside0.mk (Kd.R_below (by (with_reducible repeat (first | apply Kd.R_alloc | apply Kd.R_drewN | apply Kd.R_drew)); exact HO179.out) hb); have n1_ := Aside0.mk (below_step (by repeat (first | (with_reducible first | exact HB.out | apply below_alloc | apply pw_below_drewN | apply below_drew1) | exact HB.out)) hb); clear HO179; clear HB; have HO179 := n0_; have HB := n1_; clear n0_ n1_; (try clear hb); (try clear hb2); (try clear hk); (try clear hi)))
            go_ret
            exact ⟨by first | rfl | (simp [errW_none, errW_some] <;> rfl) | (simp [*, errW_none, errW_some] <;> rfl), by repeat (first | (with_reducible first | exact HB.out | apply below_alloc | apply pw_below_drewN | apply below_drew1) | exact HB.out)⟩
        · rw [if_neg c10] at H
          have c10b0 : (t174 == 1000000000000) = false := beq_eq_false_iff_ne.mpr c10
          have c10b1 : (t174 != 1000000000000) = true := bne_iff_ne.mpr c10
          obtain rfl := Option.some.inj H
          go_enter Try.func6, Try.ntmps6
          go_wp2_with (first | ((with_reducible refine gate_callee (f := 14) rfl ?_); refine goesL_ (some 12) rfl rfl Try.func14 (by kernel_rfl) rfl #[.int .i64 1000000000000, .int .i64 1] rfl (by (try simp only [List.map_toArray, List.map_cons, List.map_nil]); first | done | rfl | (simp only [List.length_drop, List.length_take]; rfl)) ?_; (with_reducible refine (tally_Add.calls 1000000000000 1 t170 t171 _ A1.out).mono ?_); rintro e w' ⟨rfl, ⟨nd, rfl⟩⟩; refine ⟨_, rfl, ?_⟩) | ((with_reducible refine gate_callee (f := 16) rfl ?_); refine goesL_ (some 16) rfl rfl Try.func16 (by kernel_rfl) rfl #[.int .i64 0, .int .i64 1] rfl (by (try simp only [List.map_toArray, List.map_cons, List.map_nil]); first | done | rfl | (simp only [List.length_drop, List.length_take]; rfl)) ?_; (with_reducible refine (tally_Less.calls 0 1 t172 t173 _ A2.out).mono ?_); rintro e w' ⟨rfl, ⟨nd, rfl⟩⟩; refine ⟨_, rfl, ?_⟩) | ((with_reducible refine gate_callee (f := 15) rfl ?_); refine goesL_ (some 20) rfl rfl Try.func15 (by kernel_rfl) rfl #[.int .i64 1000000, .int .i64 1000000] rfl (by (try simp only [List.map_toArray, List.map_cons, List.map_nil]); first | done | rfl | (simp only [List.length_drop, List.length_take]; rfl)) ?_; (with_reducible refine (tally_Times.calls k 1000000 1000000 t174 t175 _ A3.out).mono ?_); rintro e w' ⟨rfl, ⟨nd, rfl⟩⟩; refine ⟨_, rfl, ?_⟩) | ((with_reducible refine gate_callee (f := 12) rfl ?_); refine goesL_ (some 24) rfl rfl Try.func12 (by kernel_rfl) rfl #[.int .i64 1, .int .i64 1001] rfl (by (try simp only [List.map_toArray, List.map_cons, List.map_nil]); first | done | rfl | (simp only [List.length_drop, List.length_take]; rfl)) ?_; (with_reducible refine (tally_Share.calls k 1 1001 t176 t177 _ A4.out).mono ?_); rintro e w22 ⟨v178, rfl, ho0, hb⟩; refine ⟨_, rfl, ?_⟩; have n0_ := Aside0.mk (Kd.R_lower ho0 (below_size (by repeat (first | (with_reducible first | exact HB.out | apply below_alloc | apply pw_below_drewN | apply below_drew1) | exact HB.out)))); have n1_ := Aside0.mk (below_step (by repeat (first | (with_reducible first | exact HB.out | apply below_alloc | apply pw_below_drewN | apply below_drew1) | exact HB.out)) hb); clear HB; have HO179 := n0_; have HB := n1_; clear n0_ n1_; (try clear hb); (try clear hb2); (try clear hk); (try clear hi); (try clear ho0)) | ((with_reducible refine gate_callee (f := 10) rfl ?_); refine goesL_ (some 28) rfl rfl Try.func10 (by kernel_rfl) rfl #[.slice none 0 0] rfl (by (try simp only [List.map_toArray, List.map_cons, List.map_nil]); first | done | rfl | (simp only [List.length_drop, List.length_take]; rfl)) ?_; (refine (tally_Sum.calls k _ _ ([] : List Int) t180 t181 _ ?side1 ?side2 A5.out).mono ?_); (case side1 => exact Kd.C_nil _ _); (case side2 => exact Nat.le_refl _); rintro e w' ⟨rfl, ⟨nd, rfl⟩⟩; refine ⟨_, rfl, ?_⟩) | ((with_reducible refine gate_callee (f := 9) rfl ?_); refine goesL_ (some 31) rfl rfl Try.func9 (by kernel_rfl) rfl #[] rfl (by (try simp only [List.map_toArray, List.map_cons, List.map_nil]); first | done | rfl | (simp only [List.length_drop, List.length_take]; rfl)) ?_; (with_reducible refine (packhorselaw02_tallyAlive.calls k  true _ A6.out).mono ?_); rintro e w23 ⟨rfl, hb⟩; refine ⟨_, rfl, ?_⟩; have n0_ := Aside0.mk (Kd.R_below (by (with_reducible repeat (first | apply Kd.R_alloc | apply Kd.R_drewN | apply Kd.R_drew)); exact HO179.out) hb); have n1_ := Aside0.mk (below_step (by repeat (first | (with_reducible first | exact HB.out | apply below_alloc | apply pw_below_drewN | apply below_drew1) | exact HB.out)) hb); clear HO179; clear HB; have HO179 := n0_; have HB := n1_; clear n0_ n1_; (try clear hb); (try clear hb2); (try clear hk); (try clear hi)))
          go_ret
          exact ⟨by first | rfl | (simp [errW_none, errW_some] <;> rfl) | (simp [*, errW_none, errW_some] <;> rfl), by repeat (first | (with_reducible first | exact HB.out | apply below_alloc | apply pw_below_drewN | apply below_drew1) | exact HB.out)⟩
      · rw [if_neg c9] at H
        have c9b0 : (t173 == 21) = false := beq_eq_false_iff_ne.mpr c9
        have c9b1 : (t173 != 21) = true := bne_iff_ne.mpr c9
        obtain rfl := Option.some.inj H
        go_enter Try.func6, Try.ntmps6
        go_wp2_with (first | ((with_reducible refine gate_callee (f := 14) rfl ?_); refine goesL_ (some 12) rfl rfl Try.func14 (by kernel_rfl) rfl #[.int .i64 1000000000000, .int .i64 1] rfl (by (try simp only [List.map_toArray, List.map_cons, List.map_nil]); first | done | rfl | (simp only [List.length_drop, List.length_take]; rfl)) ?_; (with_reducible refine (tally_Add.calls 1000000000000 1 t170 t171 _ A1.out).mono ?_); rintro e w' ⟨rfl, ⟨nd, rfl⟩⟩; refine ⟨_, rfl, ?_⟩) | ((with_reducible refine gate_callee (f := 16) rfl ?_); refine goesL_ (some 16) rfl rfl Try.func16 (by kernel_rfl) rfl #[.int .i64 0, .int .i64 1] rfl (by (try simp only [List.map_toArray, List.map_cons, List.map_nil]); first | done | rfl | (simp only [List.length_drop, List.length_take]; rfl)) ?_; (with_reducible refine (tally_Less.calls 0 1 t172 t173 _ A2.out).mono ?_); rintro e w' ⟨rfl, ⟨nd, rfl⟩⟩; refine ⟨_, rfl, ?_⟩) | ((with_reducible refine gate_callee (f := 15) rfl ?_); refine goesL_ (some 20) rfl rfl Try.func15 (by kernel_rfl) rfl #[.int .i64 1000000, .int .i64 1000000] rfl (by (try simp only [List.map_toArray, List.map_cons, List.map_nil]); first | done | rfl | (simp only [List.length_drop, List.length_take]; rfl)) ?_; (with_reducible refine (tally_Times.calls k 1000000 1000000 t174 t175 _ A3.out).mono ?_); rintro e w' ⟨rfl, ⟨nd, rfl⟩⟩; refine ⟨_, rfl, ?_⟩) | ((with_reducible refine gate_callee (f := 12) rfl ?_); refine goesL_ (some 24) rfl rfl Try.func12 (by kernel_rfl) rfl #[.int .i64 1, .int .i64 1001] rfl (by (try simp only [List.map_toArray, List.map_cons, List.map_nil]); first | done | rfl | (simp only [List.length_drop, List.length_take]; rfl)) ?_; (with_reducible refine (tally_Share.calls k 1 1001 t176 t177 _ A4.out).mono ?_); rintro e w24 ⟨v178, rfl, ho0, hb⟩; refine ⟨_, rfl, ?_⟩; have n0_ := Aside0.mk (Kd.R_lower ho0 (below_size (by repeat (first | (with_reducible first | exact HB.out | apply below_alloc | apply pw_below_drewN | apply below_drew1) | exact HB.out)))); have n1_ := Aside0.mk (below_step (by repeat (first | (with_reducible first | exact HB.out | apply below_alloc | apply pw_below_drewN | apply below_drew1) | exact HB.out)) hb); clear HB; have HO179 := n0_; have HB := n1_; clear n0_ n1_; (try clear hb); (try clear hb2); (try clear hk); (try clear hi); (try clear ho0)) | ((with_reducible refine gate_callee (f := 10) rfl ?_); refine goesL_ (some 28) rfl rfl Try.func10 (by kernel_rfl) rfl #[.slice none 0 0] rfl (by (try simp only [List.map_toArray, List.map_cons, List.map_nil]); first | done | rfl | (simp only [List.length_drop, List.length_take]; rfl)) ?_; (refine (tally_Sum.calls k _ _ ([] : List Int) t180 t181 _ ?side1 ?side2 A5.out).mono ?_); (case side1 => exact Kd.C_nil _ _); (case side2 => exact Nat.le_refl _); rintro e w' ⟨rfl, ⟨nd, rfl⟩⟩; refine ⟨_, rfl, ?_⟩) | ((with_reducible refine gate_callee (f := 9) rfl ?_); refine goesL_ (some 31) rfl rfl Try.func9 (by kernel_rfl) rfl #[] rfl (by (try simp only [List.map_toArray, List.map_cons, List.map_nil]); first | done | rfl | (simp only [List.length_drop, List.length_take]; rfl)) ?_; (with_reducible refine (packhorselaw02_tallyAlive.calls k  true _ A6.out).mono ?_); rintro e w25 ⟨rfl, hb⟩; refine ⟨_, rfl, ?_⟩; have n0_ := Aside0.mk (Kd.R_below (by (with_reducible repeat (first | apply Kd.R_alloc | apply Kd.R_drewN | apply Kd.R_drew)); exact HO179.out) hb); have n1_ := Aside0.mk (below_step (by repeat (first | (with_reducible first | exact HB.out | apply below_alloc | apply pw_below_drewN | apply below_drew1) | exact HB.out)) hb); clear HO179; clear HB; have HO179 := n0_; have HB := n1_; clear n0_ n1_; (try clear hb); (try clear hb2); (try clear hk); (try clear hi)))
        go_ret
        exact ⟨by first | rfl | (simp [errW_none, errW_some] <;> rfl) | (simp [*, errW_none, errW_some] <;> rfl), by repeat (first | (with_reducible first | exact HB.out | apply below_alloc | apply pw_below_drewN | apply below_drew1) | exact HB.out)⟩
    · rw [if_neg c8] at H
      have c8b0 : (t171 == 21) = false := beq_eq_false_iff_ne.mpr c8
      have c8b1 : (t171 != 21) = true := bne_iff_ne.mpr c8
      obtain rfl := Option.some.inj H
      go_enter Try.func6, Try.ntmps6
      go_wp2_with (first | ((with_reducible refine gate_callee (f := 14) rfl ?_); refine goesL_ (some 12) rfl rfl Try.func14 (by kernel_rfl) rfl #[.int .i64 1000000000000, .int .i64 1] rfl (by (try simp only [List.map_toArray, List.map_cons, List.map_nil]); first | done | rfl | (simp only [List.length_drop, List.length_take]; rfl)) ?_; (with_reducible refine (tally_Add.calls 1000000000000 1 t170 t171 _ A1.out).mono ?_); rintro e w' ⟨rfl, ⟨nd, rfl⟩⟩; refine ⟨_, rfl, ?_⟩) | ((with_reducible refine gate_callee (f := 16) rfl ?_); refine goesL_ (some 16) rfl rfl Try.func16 (by kernel_rfl) rfl #[.int .i64 0, .int .i64 1] rfl (by (try simp only [List.map_toArray, List.map_cons, List.map_nil]); first | done | rfl | (simp only [List.length_drop, List.length_take]; rfl)) ?_; (with_reducible refine (tally_Less.calls 0 1 t172 t173 _ A2.out).mono ?_); rintro e w' ⟨rfl, ⟨nd, rfl⟩⟩; refine ⟨_, rfl, ?_⟩) | ((with_reducible refine gate_callee (f := 15) rfl ?_); refine goesL_ (some 20) rfl rfl Try.func15 (by kernel_rfl) rfl #[.int .i64 1000000, .int .i64 1000000] rfl (by (try simp only [List.map_toArray, List.map_cons, List.map_nil]); first | done | rfl | (simp only [List.length_drop, List.length_take]; rfl)) ?_; (with_reducible refine (tally_Times.calls k 1000000 1000000 t174 t175 _ A3.out).mono ?_); rintro e w' ⟨rfl, ⟨nd, rfl⟩⟩; refine ⟨_, rfl, ?_⟩) | ((with_reducible refine gate_callee (f := 12) rfl ?_); refine goesL_ (some 24) rfl rfl Try.func12 (by kernel_rfl) rfl #[.int .i64 1, .int .i64 1001] rfl (by (try simp only [List.map_toArray, List.map_cons, List.map_nil]); first | done | rfl | (simp only [List.length_drop, List.length_take]; rfl)) ?_; (with_reducible refine (tally_Share.calls k 1 1001 t176 t177 _ A4.out).mono ?_); rintro e w26 ⟨v178, rfl, ho0, hb⟩; refine ⟨_, rfl, ?_⟩; have n0_ := Aside0.mk (Kd.R_lower ho0 (below_size (by repeat (first | (with_reducible first | exact HB.out | apply below_alloc | apply pw_below_drewN | apply below_drew1) | exact HB.out)))); have n1_ := Aside0.mk (below_step (by repeat (first | (with_reducible first | exact HB.out | apply below_alloc | apply pw_below_drewN | apply below_drew1) | exact HB.out)) hb); clear HB; have HO179 := n0_; have HB := n1_; clear n0_ n1_; (try clear hb); (try clear hb2); (try clear hk); (try clear hi); (try clear ho0)) | ((with_reducible refine gate_callee (f := 10) rfl ?_); refine goesL_ (some 28) rfl rfl Try.func10 (by kernel_rfl) rfl #[.slice none 0 0] rfl (by (try simp only [List.map_toArray, List.map_cons, List.map_nil]); first | done | rfl | (simp only [List.length_drop, List.length_take]; rfl)) ?_; (refine (tally_Sum.calls k _ _ ([] : List Int) t180 t181 _ ?side1 ?side2 A5.out).mono ?_); (case side1 => exact Kd.C_nil _ _); (case side2 => exact Nat.le_refl _); rintro e w' ⟨rfl, ⟨nd, rfl⟩⟩; refine ⟨_, rfl, ?_⟩) | ((with_reducible refine gate_callee (f := 9) rfl ?_); refine goesL_ (some 31) rfl rfl Try.func9 (by kernel_rfl) rfl #[] rfl (by (try simp only [List.map_toArray, List.map_cons, List.map_nil]); first | done | rfl | (simp only [List.length_drop, List.length_take]; rfl)) ?_; (with_reducible refine (packhorselaw02_tallyAlive.calls k  true _ A6.out).mono ?_); rintro e w27 ⟨rfl, hb⟩; refine ⟨_, rfl, ?_⟩; have n0_ := Aside0.mk (Kd.R_below (by (with_reducible repeat (first | apply Kd.R_alloc | apply Kd.R_drewN | apply Kd.R_drew)); exact HO179.out) hb); have n1_ := Aside0.mk (below_step (by repeat (first | (with_reducible first | exact HB.out | apply below_alloc | apply pw_below_drewN | apply below_drew1) | exact HB.out)) hb); clear HO179; clear HB; have HO179 := n0_; have HB := n1_; clear n0_ n1_; (try clear hb); (try clear hb2); (try clear hk); (try clear hi)))
      go_ret
      exact ⟨by first | rfl | (simp [errW_none, errW_some] <;> rfl) | (simp [*, errW_none, errW_some] <;> rfl), by repeat (first | (with_reducible first | exact HB.out | apply below_alloc | apply pw_below_drewN | apply below_drew1) | exact HB.out)⟩
  · replace c7 := Bool.eq_false_iff.mpr c7
    subst c7
    have H1 : (some false) = some r := by rw [if_neg (show ¬ (false = true) by decide)] at H; exact H
    clear H
    have H := H1
    clear H1
    obtain rfl := Option.some.inj H
    go_enter Try.func6, Try.ntmps6
    go_wp2_with (first | ((with_reducible refine gate_callee (f := 14) rfl ?_); refine goesL_ (some 12) rfl rfl Try.func14 (by kernel_rfl) rfl #[.int .i64 1000000000000, .int .i64 1] rfl (by (try simp only [List.map_toArray, List.map_cons, List.map_nil]); first | done | rfl | (simp only [List.length_drop, List.length_take]; rfl)) ?_; (with_reducible refine (tally_Add.calls 1000000000000 1 t170 t171 _ A1.out).mono ?_); rintro e w' ⟨rfl, ⟨nd, rfl⟩⟩; refine ⟨_, rfl, ?_⟩) | ((with_reducible refine gate_callee (f := 16) rfl ?_); refine goesL_ (some 16) rfl rfl Try.func16 (by kernel_rfl) rfl #[.int .i64 0, .int .i64 1] rfl (by (try simp only [List.map_toArray, List.map_cons, List.map_nil]); first | done | rfl | (simp only [List.length_drop, List.length_take]; rfl)) ?_; (with_reducible refine (tally_Less.calls 0 1 t172 t173 _ A2.out).mono ?_); rintro e w' ⟨rfl, ⟨nd, rfl⟩⟩; refine ⟨_, rfl, ?_⟩) | ((with_reducible refine gate_callee (f := 15) rfl ?_); refine goesL_ (some 20) rfl rfl Try.func15 (by kernel_rfl) rfl #[.int .i64 1000000, .int .i64 1000000] rfl (by (try simp only [List.map_toArray, List.map_cons, List.map_nil]); first | done | rfl | (simp only [List.length_drop, List.length_take]; rfl)) ?_; (with_reducible refine (tally_Times.calls k 1000000 1000000 t174 t175 _ A3.out).mono ?_); rintro e w' ⟨rfl, ⟨nd, rfl⟩⟩; refine ⟨_, rfl, ?_⟩) | ((with_reducible refine gate_callee (f := 12) rfl ?_); refine goesL_ (some 24) rfl rfl Try.func12 (by kernel_rfl) rfl #[.int .i64 1, .int .i64 1001] rfl (by (try simp only [List.map_toArray, List.map_cons, List.map_nil]); first | done | rfl | (simp only [List.length_drop, List.length_take]; rfl)) ?_; (with_reducible refine (tally_Share.calls k 1 1001 t176 t177 _ A4.out).mono ?_); rintro e w28 ⟨v178, rfl, ho0, hb⟩; refine ⟨_, rfl, ?_⟩; have n0_ := Aside0.mk (Kd.R_lower ho0 (below_size (by repeat (first | (with_reducible first | exact HB.out | apply below_alloc | apply pw_below_drewN | apply below_drew1) | exact HB.out)))); have n1_ := Aside0.mk (below_step (by repeat (first | (with_reducible first | exact HB.out | apply below_alloc | apply pw_below_drewN | apply below_drew1) | exact HB.out)) hb); clear HB; have HO179 := n0_; have HB := n1_; clear n0_ n1_; (try clear hb); (try clear hb2); (try clear hk); (try clear hi); (try clear ho0)) | ((with_reducible refine gate_callee (f := 10) rfl ?_); refine goesL_ (some 28) rfl rfl Try.func10 (by kernel_rfl) rfl #[.slice none 0 0] rfl (by (try simp only [List.map_toArray, List.map_cons, List.map_nil]); first | done | rfl | (simp only [List.length_drop, List.length_take]; rfl)) ?_; (refine (tally_Sum.calls k _ _ ([] : List Int) t180 t181 _ ?side1 ?side2 A5.out).mono ?_); (case side1 => exact Kd.C_nil _ _); (case side2 => exact Nat.le_refl _); rintro e w' ⟨rfl, ⟨nd, rfl⟩⟩; refine ⟨_, rfl, ?_⟩) | ((with_reducible refine gate_callee (f := 9) rfl ?_); refine goesL_ (some 31) rfl rfl Try.func9 (by kernel_rfl) rfl #[] rfl (by (try simp only [List.map_toArray, List.map_cons, List.map_nil]); first | done | rfl | (simp only [List.length_drop, List.length_take]; rfl)) ?_; (with_reducible refine (packhorselaw02_tallyAlive.calls k  false _ A6.out).mono ?_); rintro e w29 ⟨rfl, hb⟩; refine ⟨_, rfl, ?_⟩; have n0_ := Aside0.mk (Kd.R_below (by (with_reducible repeat (first | apply Kd.R_alloc | apply Kd.R_drewN | apply Kd.R_drew)); exact HO179.out) hb); have n1_ := Aside0.mk (below_step (by repeat (first | (with_reducible first | exact HB.out | apply below_alloc | apply pw_below_drewN | apply below_drew1) | exact HB.out)) hb); clear HO179; clear HB; have HO179 := n0_; have HB := n1_; clear n0_ n1_; (try clear hb); (try clear hb2); (try clear hk); (try clear hi)))
    go_ret
    exact ⟨by first | rfl | (simp [errW_none, errW_some] <;> rfl) | (simp [*, errW_none, errW_some] <;> rfl), by repeat (first | (with_reducible first | exact HB.out | apply below_alloc | apply pw_below_drewN | apply below_drew1) | exact HB.out)⟩

/-- THE ONE PURE STATEMENT of packhorselaw02_TallyNames: yours. -/
def packhorselaw02_TallyNames.Pure : Prop := ∃ k, packhorselaw02_TallyNames.f k  = some true
theorem packhorselaw02_TallyNames.walk (P : packhorselaw02_TallyNames.Pure)  (w : World)  :
    Calls Try.prog 6 #[] w fun e w' => e = .returned (.bool true) ∧ Below w.heap.size w w' := by
  obtain ⟨k, h⟩ := P  
  refine (packhorselaw02_TallyNames.calls k  true w h).mono ?_
  rintro e w' ⟨rfl, hd⟩
  exact ⟨rfl, hd⟩

/-! ### packhorseref02_Add: function 17 -/
def packhorseref02_Add.f (a0 : Int) (a1 : Int) : Option (Int × Int) := (packhorseref02_Right.f a0).bind fun t183 => (if t183 = true then ((packhorseref02_Right.f a1).bind fun t184 => (if t184 = true then (if a0 > (wrap64 (1000000000000 - a1)) then (some (0, 21)) else (some (wrap64 (a0 + a1), 0))) else (some (0, 21)))) else (some (0, 21)))
set_option maxHeartbeats 8000000 in
set_option maxRecDepth 100000 in
theorem packhorseref02_Add.calls (a0 : Int) (a1 : Int) (r1 : Int) (r2 : Int) (w : World) (h : packhorseref02_Add.f a0 a1 = some (r1, r2)) :
    Calls Try.prog 17 #[.int .i64 a0, .int .i64 a1] w fun e w' => e = .returned (.tuple #[.int .i64 r1, .int .i64 r2]) ∧ Drawn0 w w' := by
  have H : ((packhorseref02_Right.f a0).bind fun t183 => (if t183 = true then ((packhorseref02_Right.f a1).bind fun t184 => (if t184 = true then (if a0 > (wrap64 (1000000000000 - a1)) then (some (0, 21)) else (some (wrap64 (a0 + a1), 0))) else (some (0, 21)))) else (some (0, 21)))) = some (r1, r2) := h
  clear h
  replace H := Option.bind_eq_some_iff.mp H
  obtain ⟨t183, A30, H⟩ := H
  replace H : (if t183 = true then ((packhorseref02_Right.f a1).bind fun t184 => (if t184 = true then (if a0 > (wrap64 (1000000000000 - a1)) then (some (0, 21)) else (some (wrap64 (a0 + a1), 0))) else (some (0, 21)))) else (some (0, 21))) = some (r1, r2) := H
  have A3 := Aside0.mk A30
  clear A30
  by_cases c4 : t183 = true
  · subst c4
    have H1 : ((packhorseref02_Right.f a1).bind fun t184 => (if t184 = true then (if a0 > (wrap64 (1000000000000 - a1)) then (some (0, 21)) else (some (wrap64 (a0 + a1), 0))) else (some (0, 21)))) = some (r1, r2) := by rw [if_pos rfl] at H; exact H
    clear H
    have H := H1
    clear H1
    replace H := Option.bind_eq_some_iff.mp H
    obtain ⟨t184, A50, H⟩ := H
    replace H : (if t184 = true then (if a0 > (wrap64 (1000000000000 - a1)) then (some (0, 21)) else (some (wrap64 (a0 + a1), 0))) else (some (0, 21))) = some (r1, r2) := H
    have A5 := Aside0.mk A50
    clear A50
    by_cases c6 : t184 = true
    · subst c6
      have H1 : (if a0 > (wrap64 (1000000000000 - a1)) then (some (0, 21)) else (some (wrap64 (a0 + a1), 0))) = some (r1, r2) := by rw [if_pos rfl] at H; exact H
      clear H
      have H := H1
      clear H1
      by_cases c7 : a0 > (wrap64 (1000000000000 - a1))
      · rw [if_pos c7] at H
        have c7b0 : decide ((wrap64 (1000000000000 - a1)) < a0) = true := decide_eq_true c7
        clear c7
        simp only [Option.some.injEq, Prod.mk.injEq] at H
        obtain ⟨rfl, rfl⟩ := H
        go_enter Try.func17, Try.ntmps17
        go_wp2_with (first | ((with_reducible refine gate_callee (f := 20) rfl ?_); refine goesL_ (some 7) rfl rfl Try.func20 (by kernel_rfl) rfl #[.int .i64 a0] rfl (by (try simp only [List.map_toArray, List.map_cons, List.map_nil]); first | done | rfl | (simp only [List.length_drop, List.length_take]; rfl)) ?_; (with_reducible refine (packhorseref02_Right.calls a0 true _ A3.out).mono ?_); rintro e w' ⟨rfl, ⟨nd, rfl⟩⟩; refine ⟨_, rfl, ?_⟩) | (go_at_call 20; (with_reducible refine (packhorseref02_Right.calls a1 true _ A5.out).mono ?_); rintro e w' ⟨rfl, ⟨nd, rfl⟩⟩))
        go_ret2
        exact ⟨by first | rfl | (simp; done) | (simp [*]; done), by repeat (first | exact Drawn0.refl _ | apply Drawn0.step)⟩
      · rw [if_neg c7] at H
        have c7b0 : decide ((wrap64 (1000000000000 - a1)) < a0) = false := decide_eq_false c7
        clear c7
        simp only [Option.some.injEq, Prod.mk.injEq] at H
        obtain ⟨rfl, rfl⟩ := H
        go_enter Try.func17, Try.ntmps17
        go_wp2_with (first | ((with_reducible refine gate_callee (f := 20) rfl ?_); refine goesL_ (some 7) rfl rfl Try.func20 (by kernel_rfl) rfl #[.int .i64 a0] rfl (by (try simp only [List.map_toArray, List.map_cons, List.map_nil]); first | done | rfl | (simp only [List.length_drop, List.length_take]; rfl)) ?_; (with_reducible refine (packhorseref02_Right.calls a0 true _ A3.out).mono ?_); rintro e w' ⟨rfl, ⟨nd, rfl⟩⟩; refine ⟨_, rfl, ?_⟩) | (go_at_call 20; (with_reducible refine (packhorseref02_Right.calls a1 true _ A5.out).mono ?_); rintro e w' ⟨rfl, ⟨nd, rfl⟩⟩))
        go_ret2
        exact ⟨by first | rfl | (simp; done) | (simp [*]; done), by repeat (first | exact Drawn0.refl _ | apply Drawn0.step)⟩
    · replace c6 := Bool.eq_false_iff.mpr c6
      subst c6
      have H1 : (some (0, 21)) = some (r1, r2) := by rw [if_neg (show ¬ (false = true) by decide)] at H; exact H
      clear H
      have H := H1
      clear H1
      simp only [Option.some.injEq, Prod.mk.injEq] at H
      obtain ⟨rfl, rfl⟩ := H
      go_enter Try.func17, Try.ntmps17
      go_wp2_with (first | ((with_reducible refine gate_callee (f := 20) rfl ?_); refine goesL_ (some 7) rfl rfl Try.func20 (by kernel_rfl) rfl #[.int .i64 a0] rfl (by (try simp only [List.map_toArray, List.map_cons, List.map_nil]); first | done | rfl | (simp only [List.length_drop, List.length_take]; rfl)) ?_; (with_reducible refine (packhorseref02_Right.calls a0 true _ A3.out).mono ?_); rintro e w' ⟨rfl, ⟨nd, rfl⟩⟩; refine ⟨_, rfl, ?_⟩) | (go_at_call 20; (with_reducible refine (packhorseref02_Right.calls a1 false _ A5.out).mono ?_); rintro e w' ⟨rfl, ⟨nd, rfl⟩⟩))
      go_ret2
      exact ⟨by first | rfl | (simp; done) | (simp [*]; done), by repeat (first | exact Drawn0.refl _ | apply Drawn0.step)⟩
  · replace c4 := Bool.eq_false_iff.mpr c4
    subst c4
    have H1 : (some (0, 21)) = some (r1, r2) := by rw [if_neg (show ¬ (false = true) by decide)] at H; exact H
    clear H
    have H := H1
    clear H1
    simp only [Option.some.injEq, Prod.mk.injEq] at H
    obtain ⟨rfl, rfl⟩ := H
    go_enter Try.func17, Try.ntmps17
    go_wp2_with (first | ((with_reducible refine gate_callee (f := 20) rfl ?_); refine goesL_ (some 7) rfl rfl Try.func20 (by kernel_rfl) rfl #[.int .i64 a0] rfl (by (try simp only [List.map_toArray, List.map_cons, List.map_nil]); first | done | rfl | (simp only [List.length_drop, List.length_take]; rfl)) ?_; (with_reducible refine (packhorseref02_Right.calls a0 false _ A3.out).mono ?_); rintro e w' ⟨rfl, ⟨nd, rfl⟩⟩; refine ⟨_, rfl, ?_⟩))
    go_ret2
    exact ⟨by first | rfl | (simp; done) | (simp [*]; done), by repeat (first | exact Drawn0.refl _ | apply Drawn0.step)⟩

/-! ### packhorseref02_Less: function 18 -/
def packhorseref02_Less.f (a0 : Int) (a1 : Int) : Option (Int × Int) := (packhorseref02_Right.f a0).bind fun t185 => (if t185 = true then ((packhorseref02_Right.f a1).bind fun t186 => (if t186 = true then (if a0 < a1 then (some (0, 21)) else (some (wrap64 (a0 - a1), 0))) else (some (0, 21)))) else (some (0, 21)))
set_option maxHeartbeats 8000000 in
set_option maxRecDepth 100000 in
theorem packhorseref02_Less.calls (a0 : Int) (a1 : Int) (r1 : Int) (r2 : Int) (w : World) (h : packhorseref02_Less.f a0 a1 = some (r1, r2)) :
    Calls Try.prog 18 #[.int .i64 a0, .int .i64 a1] w fun e w' => e = .returned (.tuple #[.int .i64 r1, .int .i64 r2]) ∧ Drawn0 w w' := by
  have H : ((packhorseref02_Right.f a0).bind fun t185 => (if t185 = true then ((packhorseref02_Right.f a1).bind fun t186 => (if t186 = true then (if a0 < a1 then (some (0, 21)) else (some (wrap64 (a0 - a1), 0))) else (some (0, 21)))) else (some (0, 21)))) = some (r1, r2) := h
  clear h
  replace H := Option.bind_eq_some_iff.mp H
  obtain ⟨t185, A30, H⟩ := H
  replace H : (if t185 = true then ((packhorseref02_Right.f a1).bind fun t186 => (if t186 = true then (if a0 < a1 then (some (0, 21)) else (some (wrap64 (a0 - a1), 0))) else (some (0, 21)))) else (some (0, 21))) = some (r1, r2) := H
  have A3 := Aside0.mk A30
  clear A30
  by_cases c4 : t185 = true
  · subst c4
    have H1 : ((packhorseref02_Right.f a1).bind fun t186 => (if t186 = true then (if a0 < a1 then (some (0, 21)) else (some (wrap64 (a0 - a1), 0))) else (some (0, 21)))) = some (r1, r2) := by rw [if_pos rfl] at H; exact H
    clear H
    have H := H1
    clear H1
    replace H := Option.bind_eq_some_iff.mp H
    obtain ⟨t186, A50, H⟩ := H
    replace H : (if t186 = true then (if a0 < a1 then (some (0, 21)) else (some (wrap64 (a0 - a1), 0))) else (some (0, 21))) = some (r1, r2) := H
    have A5 := Aside0.mk A50
    clear A50
    by_cases c6 : t186 = true
    · subst c6
      have H1 : (if a0 < a1 then (some (0, 21)) else (some (wrap64 (a0 - a1), 0))) = some (r1, r2) := by rw [if_pos rfl] at H; exact H
      clear H
      have H := H1
      clear H1
      by_cases c7 : a0 < a1
      · rw [if_pos c7] at H
        have c7b0 : decide (a0 < a1) = true := decide_eq_true c7
        clear c7
        simp only [Option.some.injEq, Prod.mk.injEq] at H
        obtain ⟨rfl, rfl⟩ := H
        go_enter Try.func18, Try.ntmps18
        go_wp2_with (first | ((with_reducible refine gate_callee (f := 20) rfl ?_); refine goesL_ (some 7) rfl rfl Try.func20 (by kernel_rfl) rfl #[.int .i64 a0] rfl (by (try simp only [List.map_toArray, List.map_cons, List.map_nil]); first | done | rfl | (simp only [List.length_drop, List.length_take]; rfl)) ?_; (with_reducible refine (packhorseref02_Right.calls a0 true _ A3.out).mono ?_); rintro e w' ⟨rfl, ⟨nd, rfl⟩⟩; refine ⟨_, rfl, ?_⟩) | (go_at_call 20; (with_reducible refine (packhorseref02_Right.calls a1 true _ A5.out).mono ?_); rintro e w' ⟨rfl, ⟨nd, rfl⟩⟩))
        go_ret2
        exact ⟨by first | rfl | (simp; done) | (simp [*]; done), by repeat (first | exact Drawn0.refl _ | apply Drawn0.step)⟩
      · rw [if_neg c7] at H
        have c7b0 : decide (a0 < a1) = false := decide_eq_false c7
        clear c7
        simp only [Option.some.injEq, Prod.mk.injEq] at H
        obtain ⟨rfl, rfl⟩ := H
        go_enter Try.func18, Try.ntmps18
        go_wp2_with (first | ((with_reducible refine gate_callee (f := 20) rfl ?_); refine goesL_ (some 7) rfl rfl Try.func20 (by kernel_rfl) rfl #[.int .i64 a0] rfl (by (try simp only [List.map_toArray, List.map_cons, List.map_nil]); first | done | rfl | (simp only [List.length_drop, List.length_take]; rfl)) ?_; (with_reducible refine (packhorseref02_Right.calls a0 true _ A3.out).mono ?_); rintro e w' ⟨rfl, ⟨nd, rfl⟩⟩; refine ⟨_, rfl, ?_⟩) | (go_at_call 20; (with_reducible refine (packhorseref02_Right.calls a1 true _ A5.out).mono ?_); rintro e w' ⟨rfl, ⟨nd, rfl⟩⟩))
        go_ret2
        exact ⟨by first | rfl | (simp; done) | (simp [*]; done), by repeat (first | exact Drawn0.refl _ | apply Drawn0.step)⟩
    · replace c6 := Bool.eq_false_iff.mpr c6
      subst c6
      have H1 : (some (0, 21)) = some (r1, r2) := by rw [if_neg (show ¬ (false = true) by decide)] at H; exact H
      clear H
      have H := H1
      clear H1
      simp only [Option.some.injEq, Prod.mk.injEq] at H
      obtain ⟨rfl, rfl⟩ := H
      go_enter Try.func18, Try.ntmps18
      go_wp2_with (first | ((with_reducible refine gate_callee (f := 20) rfl ?_); refine goesL_ (some 7) rfl rfl Try.func20 (by kernel_rfl) rfl #[.int .i64 a0] rfl (by (try simp only [List.map_toArray, List.map_cons, List.map_nil]); first | done | rfl | (simp only [List.length_drop, List.length_take]; rfl)) ?_; (with_reducible refine (packhorseref02_Right.calls a0 true _ A3.out).mono ?_); rintro e w' ⟨rfl, ⟨nd, rfl⟩⟩; refine ⟨_, rfl, ?_⟩) | (go_at_call 20; (with_reducible refine (packhorseref02_Right.calls a1 false _ A5.out).mono ?_); rintro e w' ⟨rfl, ⟨nd, rfl⟩⟩))
      go_ret2
      exact ⟨by first | rfl | (simp; done) | (simp [*]; done), by repeat (first | exact Drawn0.refl _ | apply Drawn0.step)⟩
  · replace c4 := Bool.eq_false_iff.mpr c4
    subst c4
    have H1 : (some (0, 21)) = some (r1, r2) := by rw [if_neg (show ¬ (false = true) by decide)] at H; exact H
    clear H
    have H := H1
    clear H1
    simp only [Option.some.injEq, Prod.mk.injEq] at H
    obtain ⟨rfl, rfl⟩ := H
    go_enter Try.func18, Try.ntmps18
    go_wp2_with (first | ((with_reducible refine gate_callee (f := 20) rfl ?_); refine goesL_ (some 7) rfl rfl Try.func20 (by kernel_rfl) rfl #[.int .i64 a0] rfl (by (try simp only [List.map_toArray, List.map_cons, List.map_nil]); first | done | rfl | (simp only [List.length_drop, List.length_take]; rfl)) ?_; (with_reducible refine (packhorseref02_Right.calls a0 false _ A3.out).mono ?_); rintro e w' ⟨rfl, ⟨nd, rfl⟩⟩; refine ⟨_, rfl, ?_⟩))
    go_ret2
    exact ⟨by first | rfl | (simp; done) | (simp [*]; done), by repeat (first | exact Drawn0.refl _ | apply Drawn0.step)⟩

end Go.Proofs.Ytafmpeibdbadaaa.PAll
