-- Made by a program of this session (wip/gen)
import Derived.Test.YtcghipdlihpbcaaPAllx0
import Derived.Test.YtcghipdlihpbcaaPAllx4
import Derived.Test.YtcghipdlihpbcaaPAllx5
namespace Go.Proofs.Ytcghipdlihpbcaa.PAll
open Go.RowKit Go.Proofs.YtcghipdlihpbcaaW.PrintWords Go.Proofs.YtcghipdlihpbcaaW.PrintLast Go.Proofs.YtcghipdlihpbcaaW.PrintMore
attribute [local go_sem] max2_int min2_int max_two min_two max_three min_three max_four min_four   -- for this text's walks alone
set_option linter.unusedVariables false
set_option linter.unusedSimpArgs false

/-! ### packhorselaw14_SagaEnds: function 4 -/
mutual
def packhorselaw14_SagaEnds.j0 : Nat → List Bool → Int → Bool → Int → Bool → Int → Option (Bool)
  | 0, _, _, _, _, _, _ => none
  | k + 1, x1, x2, x41, x257000, x257001, x257002 => if x41 = true then (some true) else (packhorselaw14_SagaEnds.l0 k x1 x2 0 0 x257000 x257001 x257002)
def packhorselaw14_SagaEnds.l0 : Nat → List Bool → Int → Int → Int → Int → Bool → Int → Option (Bool)
  | 0, _, _, _, _, _, _, _ => none
  | k + 1, x1, x2, x7, x8, x257000, x257001, x257002 => if x8 < 300 then (if x257000 = 8 then (packhorselaw14_SagaEnds.j2 k x1 x2 x7 x8 true x257000 x257001 x257002) else (if x257000 = 11 then (packhorselaw14_SagaEnds.j2 k x1 x2 x7 x8 true x257000 x257001 x257002) else (packhorselaw14_SagaEnds.j2 k x1 x2 x7 x8 (x257000 == 12) x257000 x257001 x257002))) else (some (decide ((x1.length : Int) > 250)))
def packhorselaw14_SagaEnds.j2 : Nat → List Bool → Int → Int → Int → Bool → Int → Bool → Int → Option (Bool)
  | 0, _, _, _, _, _, _, _, _ => none
  | k + 1, x1, x2, x7, x8, x58, x257000, x257001, x257002 => if x58 = true then (if x8 ≤ (wrap64 ((wrap64 (12 + (wrap64 (2 * x2)))) + (x1.length : Int))) then (if x257000 = 12 then (if x7 ≥ x2 then (some true) else (some (x8 == 0))) else (some true)) else (some false)) else (if x257000 = 3 then (packhorselaw14_SagaEnds.j3 k x1 x2 x7 x8 1 true x257000 x257001 x257002) else (packhorselaw14_SagaEnds.j3 k x1 x2 x7 x8 1 (x257000 == 5) x257000 x257001 x257002))
def packhorselaw14_SagaEnds.j3 : Nat → List Bool → Int → Int → Int → Int → Bool → Int → Bool → Int → Option (Bool)
  | 0, _, _, _, _, _, _, _, _, _ => none
  | k + 1, x1, x2, x7, x8, x9, x88, x257000, x257001, x257002 => if x88 = true then (packhorselaw14_SagaEnds.j4 k x1 x2 x7 x8 4 x257000 x257001 x257002) else (if x8 < (x1.length : Int) then (if 0 ≤ x8 then (if rdOf false x1 x8 = true then (packhorselaw14_SagaEnds.j4 k x1 x2 x7 x8 2 x257000 x257001 x257002) else (packhorselaw14_SagaEnds.j4 k x1 x2 x7 x8 x9 x257000 x257001 x257002)) else (none)) else (packhorselaw14_SagaEnds.j4 k x1 x2 x7 x8 x9 x257000 x257001 x257002))
def packhorselaw14_SagaEnds.j4 : Nat → List Bool → Int → Int → Int → Int → Int → Bool → Int → Option (Bool)
  | 0, _, _, _, _, _, _, _, _ => none
  | k + 1, x1, x2, x7, x8, x9, x257000, x257001, x257002 => if x257000 = 9 then (packhorselaw14_SagaEnds.j5 k x1 x2 x7 x8 x9 true x257000 x257001 x257002) else (packhorselaw14_SagaEnds.j5 k x1 x2 x7 x8 x9 (x257000 == 10) x257000 x257001 x257002)
def packhorselaw14_SagaEnds.j5 : Nat → List Bool → Int → Int → Int → Int → Bool → Int → Bool → Int → Option (Bool)
  | 0, _, _, _, _, _, _, _, _, _ => none
  | k + 1, x1, x2, x7, x8, x9, x10, x257000, x257001, x257002 => if x10 = true then (packhorselaw14_SagaEnds.j6 k x1 x2 x7 x8 x9 x10 (x9 == 2) x257000 x257001 x257002) else (packhorselaw14_SagaEnds.j6 k x1 x2 x7 x8 x9 x10 false x257000 x257001 x257002)
def packhorselaw14_SagaEnds.j6 : Nat → List Bool → Int → Int → Int → Int → Bool → Bool → Int → Bool → Int → Option (Bool)
  | 0, _, _, _, _, _, _, _, _, _, _ => none
  | k + 1, x1, x2, x7, x8, x9, x10, x111, x257000, x257001, x257002 => if x111 = true then (packhorselaw14_SagaEnds.j7 k x1 x2 (wrap64 (x7 + 1)) x8 x9 x10 x257000 x257001 x257002) else (packhorselaw14_SagaEnds.j7 k x1 x2 x7 x8 x9 x10 x257000 x257001 x257002)
def packhorselaw14_SagaEnds.j7 : Nat → List Bool → Int → Int → Int → Int → Bool → Int → Bool → Int → Option (Bool)
  | 0, _, _, _, _, _, _, _, _, _ => none
  | k + 1, x1, x2, x7, x8, x9, x10, x257000, x257001, x257002 => (saga_Step.f k x257000 x257001 x257002 x9 x2).bind fun bt259 => (if bt259.2.2.2.2 = 0 then (if x10 = true then (if x9 = 1 then (packhorselaw14_SagaEnds.l0 k x1 x2 0 (wrap64 (x8 + 1)) bt259.1 bt259.2.1 bt259.2.2.1) else (packhorselaw14_SagaEnds.l0 k x1 x2 x7 (wrap64 (x8 + 1)) bt259.1 bt259.2.1 bt259.2.2.1)) else (packhorselaw14_SagaEnds.l0 k x1 x2 x7 (wrap64 (x8 + 1)) bt259.1 bt259.2.1 bt259.2.2.1)) else (some false))
end
def packhorselaw14_SagaEnds.f (k : Nat) (a0_0 : Int) (a0_1 : Bool) (a0_2 : Int) (l1 : List Bool) (a2 : Int) : Option (Bool) := (packhorselaw14_sagaAlive.f k).bind fun t257 => (if t257 = true then (if a0_0 < 1 then (packhorselaw14_SagaEnds.j0 k l1 a2 true a0_0 a0_1 a0_2) else (if a0_0 > 12 then (packhorselaw14_SagaEnds.j0 k l1 a2 true a0_0 a0_1 a0_2) else (if a0_2 = 0 then (if a2 < 1 then (packhorselaw14_SagaEnds.j0 k l1 a2 true a0_0 a0_1 a0_2) else (if a2 > 50 then (packhorselaw14_SagaEnds.j0 k l1 a2 true a0_0 a0_1 a0_2) else (packhorselaw14_SagaEnds.j0 k l1 a2 (decide ((l1.length : Int) > 300)) a0_0 a0_1 a0_2))) else (packhorselaw14_SagaEnds.j0 k l1 a2 true a0_0 a0_1 a0_2)))) else (some false))
theorem packhorselaw14_SagaEnds.mono_l : ∀ k, (∀ y0 y1 y2 y3 y4 y5, LeO (packhorselaw14_SagaEnds.j0 k y0 y1 y2 y3 y4 y5) (packhorselaw14_SagaEnds.j0 (k + 1) y0 y1 y2 y3 y4 y5)) ∧ (∀ y0 y1 y2 y3 y4 y5 y6, LeO (packhorselaw14_SagaEnds.l0 k y0 y1 y2 y3 y4 y5 y6) (packhorselaw14_SagaEnds.l0 (k + 1) y0 y1 y2 y3 y4 y5 y6)) ∧ (∀ y0 y1 y2 y3 y4 y5 y6 y7, LeO (packhorselaw14_SagaEnds.j2 k y0 y1 y2 y3 y4 y5 y6 y7) (packhorselaw14_SagaEnds.j2 (k + 1) y0 y1 y2 y3 y4 y5 y6 y7)) ∧ (∀ y0 y1 y2 y3 y4 y5 y6 y7 y8, LeO (packhorselaw14_SagaEnds.j3 k y0 y1 y2 y3 y4 y5 y6 y7 y8) (packhorselaw14_SagaEnds.j3 (k + 1) y0 y1 y2 y3 y4 y5 y6 y7 y8)) ∧ (∀ y0 y1 y2 y3 y4 y5 y6 y7, LeO (packhorselaw14_SagaEnds.j4 k y0 y1 y2 y3 y4 y5 y6 y7) (packhorselaw14_SagaEnds.j4 (k + 1) y0 y1 y2 y3 y4 y5 y6 y7)) ∧ (∀ y0 y1 y2 y3 y4 y5 y6 y7 y8, LeO (packhorselaw14_SagaEnds.j5 k y0 y1 y2 y3 y4 y5 y6 y7 y8) (packhorselaw14_SagaEnds.j5 (k + 1) y0 y1 y2 y3 y4 y5 y6 y7 y8)) ∧ (∀ y0 y1 y2 y3 y4 y5 y6 y7 y8 y9, LeO (packhorselaw14_SagaEnds.j6 k y0 y1 y2 y3 y4 y5 y6 y7 y8 y9) (packhorselaw14_SagaEnds.j6 (k + 1) y0 y1 y2 y3 y4 y5 y6 y7 y8 y9)) ∧ (∀ y0 y1 y2 y3 y4 y5 y6 y7 y8, LeO (packhorselaw14_SagaEnds.j7 k y0 y1 y2 y3 y4 y5 y6 y7 y8) (packhorselaw14_SagaEnds.j7 (k + 1) y0 y1 y2 y3 y4 y5 y6 y7 y8))
  | 0 => ⟨fun _ _ _ _ _ _ r h => by simp [packhorselaw14_SagaEnds.j0] at h, fun _ _ _ _ _ _ _ r h => by simp [packhorselaw14_SagaEnds.l0] at h, fun _ _ _ _ _ _ _ _ r h => by simp [packhorselaw14_SagaEnds.j2] at h, fun _ _ _ _ _ _ _ _ _ r h => by simp [packhorselaw14_SagaEnds.j3] at h, fun _ _ _ _ _ _ _ _ r h => by simp [packhorselaw14_SagaEnds.j4] at h, fun _ _ _ _ _ _ _ _ _ r h => by simp [packhorselaw14_SagaEnds.j5] at h, fun _ _ _ _ _ _ _ _ _ _ r h => by simp [packhorselaw14_SagaEnds.j6] at h, fun _ _ _ _ _ _ _ _ _ r h => by simp [packhorselaw14_SagaEnds.j7] at h⟩
  | k + 1 => by
    obtain ⟨ih0, ih1, ih2, ih3, ih4, ih5, ih6, ih7⟩ := packhorselaw14_SagaEnds.mono_l k
    refine ⟨?_, ?_, ?_, ?_, ?_, ?_, ?_, ?_⟩
    · intro y0 y1 y2 y3 y4 y5
      unfold packhorselaw14_SagaEnds.j0
      repeat' first
      | (with_reducible exact ih0 _ _ _ _ _ _)
      | (with_reducible exact ih1 _ _ _ _ _ _ _)
      | (with_reducible exact ih2 _ _ _ _ _ _ _ _)
      | (with_reducible exact ih3 _ _ _ _ _ _ _ _ _)
      | (with_reducible exact ih4 _ _ _ _ _ _ _ _)
      | (with_reducible exact ih5 _ _ _ _ _ _ _ _ _)
      | (with_reducible exact ih6 _ _ _ _ _ _ _ _ _ _)
      | (with_reducible exact ih7 _ _ _ _ _ _ _ _ _)
      | (with_reducible exact packhorselaw14_sagaAlive.mono _)
      | (with_reducible exact saga_Step.mono _ _ _ _ _ _)
      | (with_reducible exact LeO.refl _)
      | (with_reducible exact LeO.none _)
      | (with_reducible refine LeO.ite ?_ ?_)
      | (with_reducible refine LeO.bind ?_ (fun _ => ?_))
      | exact ih0 _ _ _ _ _ _
      | exact ih1 _ _ _ _ _ _ _
      | exact ih2 _ _ _ _ _ _ _ _
      | exact ih3 _ _ _ _ _ _ _ _ _
      | exact ih4 _ _ _ _ _ _ _ _
      | exact ih5 _ _ _ _ _ _ _ _ _
      | exact ih6 _ _ _ _ _ _ _ _ _ _
      | exact ih7 _ _ _ _ _ _ _ _ _
      | exact packhorselaw14_sagaAlive.mono _
      | exact saga_Step.mono _ _ _ _ _ _
      | exact LeO.none _
      | refine LeO.ite ?_ ?_
      | refine LeO.bind ?_ (fun _ => ?_)
    · intro y0 y1 y2 y3 y4 y5 y6
      unfold packhorselaw14_SagaEnds.l0
      repeat' first
      | (with_reducible exact ih0 _ _ _ _ _ _)
      | (with_reducible exact ih1 _ _ _ _ _ _ _)
      | (with_reducible exact ih2 _ _ _ _ _ _ _ _)
      | (with_reducible exact ih3 _ _ _ _ _ _ _ _ _)
      | (with_reducible exact ih4 _ _ _ _ _ _ _ _)
      | (with_reducible exact ih5 _ _ _ _ _ _ _ _ _)
      | (with_reducible exact ih6 _ _ _ _ _ _ _ _ _ _)
      | (with_reducible exact ih7 _ _ _ _ _ _ _ _ _)
      | (with_reducible exact packhorselaw14_sagaAlive.mono _)
      | (with_reducible exact saga_Step.mono _ _ _ _ _ _)
      | (with_reducible exact LeO.refl _)
      | (with_reducible exact LeO.none _)
      | (with_reducible refine LeO.ite ?_ ?_)
      | (with_reducible refine LeO.bind ?_ (fun _ => ?_))
      | exact ih0 _ _ _ _ _ _
      | exact ih1 _ _ _ _ _ _ _
      | exact ih2 _ _ _ _ _ _ _ _
      | exact ih3 _ _ _ _ _ _ _ _ _
      | exact ih4 _ _ _ _ _ _ _ _
      | exact ih5 _ _ _ _ _ _ _ _ _
      | exact ih6 _ _ _ _ _ _ _ _ _ _
      | exact ih7 _ _ _ _ _ _ _ _ _
      | exact packhorselaw14_sagaAlive.mono _
      | exact saga_Step.mono _ _ _ _ _ _
      | exact LeO.none _
      | refine LeO.ite ?_ ?_
      | refine LeO.bind ?_ (fun _ => ?_)
    · intro y0 y1 y2 y3 y4 y5 y6 y7
      unfold packhorselaw14_SagaEnds.j2
      repeat' first
      | (with_reducible exact ih0 _ _ _ _ _ _)
      | (with_reducible exact ih1 _ _ _ _ _ _ _)
      | (with_reducible exact ih2 _ _ _ _ _ _ _ _)
      | (with_reducible exact ih3 _ _ _ _ _ _ _ _ _)
      | (with_reducible exact ih4 _ _ _ _ _ _ _ _)
      | (with_reducible exact ih5 _ _ _ _ _ _ _ _ _)
      | (with_reducible exact ih6 _ _ _ _ _ _ _ _ _ _)
      | (with_reducible exact ih7 _ _ _ _ _ _ _ _ _)
      | (with_reducible exact packhorselaw14_sagaAlive.mono _)
      | (with_reducible exact saga_Step.mono _ _ _ _ _ _)
      | (with_reducible exact LeO.refl _)
      | (with_reducible exact LeO.none _)
      | (with_reducible refine LeO.ite ?_ ?_)
      | (with_reducible refine LeO.bind ?_ (fun _ => ?_))
      | exact ih0 _ _ _ _ _ _
      | exact ih1 _ _ _ _ _ _ _
      | exact ih2 _ _ _ _ _ _ _ _
      | exact ih3 _ _ _ _ _ _ _ _ _
      | exact ih4 _ _ _ _ _ _ _ _
      | exact ih5 _ _ _ _ _ _ _ _ _
      | exact ih6 _ _ _ _ _ _ _ _ _ _
      | exact ih7 _ _ _ _ _ _ _ _ _
      | exact packhorselaw14_sagaAlive.mono _
      | exact saga_Step.mono _ _ _ _ _ _
      | exact LeO.none _
      | refine LeO.ite ?_ ?_
      | refine LeO.bind ?_ (fun _ => ?_)
    · intro y0 y1 y2 y3 y4 y5 y6 y7 y8
      unfold packhorselaw14_SagaEnds.j3
      repeat' first
      | (with_reducible exact ih0 _ _ _ _ _ _)
      | (with_reducible exact ih1 _ _ _ _ _ _ _)
      | (with_reducible exact ih2 _ _ _ _ _ _ _ _)
      | (with_reducible exact ih3 _ _ _ _ _ _ _ _ _)
      | (with_reducible exact ih4 _ _ _ _ _ _ _ _)
      | (with_reducible exact ih5 _ _ _ _ _ _ _ _ _)
      | (with_reducible exact ih6 _ _ _ _ _ _ _ _ _ _)
      | (with_reducible exact ih7 _ _ _ _ _ _ _ _ _)
      | (with_reducible exact packhorselaw14_sagaAlive.mono _)
      | (with_reducible exact saga_Step.mono _ _ _ _ _ _)
      | (with_reducible exact LeO.refl _)
      | (with_reducible exact LeO.none _)
      | (with_reducible refine LeO.ite ?_ ?_)
      | (with_reducible refine LeO.bind ?_ (fun _ => ?_))
      | exact ih0 _ _ _ _ _ _
      | exact ih1 _ _ _ _ _ _ _
      | exact ih2 _ _ _ _ _ _ _ _
      | exact ih3 _ _ _ _ _ _ _ _ _
      | exact ih4 _ _ _ _ _ _ _ _
      | exact ih5 _ _ _ _ _ _ _ _ _
      | exact ih6 _ _ _ _ _ _ _ _ _ _
      | exact ih7 _ _ _ _ _ _ _ _ _
      | exact packhorselaw14_sagaAlive.mono _
      | exact saga_Step.mono _ _ _ _ _ _
      | exact LeO.none _
      | refine LeO.ite ?_ ?_
      | refine LeO.bind ?_ (fun _ => ?_)
    · intro y0 y1 y2 y3 y4 y5 y6 y7
      unfold packhorselaw14_SagaEnds.j4
      repeat' first
      | (with_reducible exact ih0 _ _ _ _ _ _)
      | (with_reducible exact ih1 _ _ _ _ _ _ _)
      | (with_reducible exact ih2 _ _ _ _ _ _ _ _)
      | (with_reducible exact ih3 _ _ _ _ _ _ _ _ _)
      | (with_reducible exact ih4 _ _ _ _ _ _ _ _)
      | (with_reducible exact ih5 _ _ _ _ _ _ _ _ _)
      | (with_reducible exact ih6 _ _ _ _ _ _ _ _ _ _)
      | (with_reducible exact ih7 _ _ _ _ _ _ _ _ _)
      | (with_reducible exact packhorselaw14_sagaAlive.mono _)
      | (with_reducible exact saga_Step.mono _ _ _ _ _ _)
      | (with_reducible exact LeO.refl _)
      | (with_reducible exact LeO.none _)
      | (with_reducible refine LeO.ite ?_ ?_)
      | (with_reducible refine LeO.bind ?_ (fun _ => ?_))
      | exact ih0 _ _ _ _ _ _
      | exact ih1 _ _ _ _ _ _ _
      | exact ih2 _ _ _ _ _ _ _ _
      | exact ih3 _ _ _ _ _ _ _ _ _
      | exact ih4 _ _ _ _ _ _ _ _
      | exact ih5 _ _ _ _ _ _ _ _ _
      | exact ih6 _ _ _ _ _ _ _ _ _ _
      | exact ih7 _ _ _ _ _ _ _ _ _
      | exact packhorselaw14_sagaAlive.mono _
      | exact saga_Step.mono _ _ _ _ _ _
      | exact LeO.none _
      | refine LeO.ite ?_ ?_
      | refine LeO.bind ?_ (fun _ => ?_)
    · intro y0 y1 y2 y3 y4 y5 y6 y7 y8
      unfold packhorselaw14_SagaEnds.j5
      repeat' first
      | (with_reducible exact ih0 _ _ _ _ _ _)
      | (with_reducible exact ih1 _ _ _ _ _ _ _)
      | (with_reducible exact ih2 _ _ _ _ _ _ _ _)
      | (with_reducible exact ih3 _ _ _ _ _ _ _ _ _)
      | (with_reducible exact ih4 _ _ _ _ _ _ _ _)
      | (with_reducible exact ih5 _ _ _ _ _ _ _ _ _)
      | (with_reducible exact ih6 _ _ _ _ _ _ _ _ _ _)
      | (with_reducible exact ih7 _ _ _ _ _ _ _ _ _)
      | (with_reducible exact packhorselaw14_sagaAlive.mono _)
      | (with_reducible exact saga_Step.mono _ _ _ _ _ _)
      | (with_reducible exact LeO.refl _)
      | (with_reducible exact LeO.none _)
      | (with_reducible refine LeO.ite ?_ ?_)
      | (with_reducible refine LeO.bind ?_ (fun _ => ?_))
      | exact ih0 _ _ _ _ _ _
      | exact ih1 _ _ _ _ _ _ _
      | exact ih2 _ _ _ _ _ _ _ _
      | exact ih3 _ _ _ _ _ _ _ _ _
      | exact ih4 _ _ _ _ _ _ _ _
      | exact ih5 _ _ _ _ _ _ _ _ _
      | exact ih6 _ _ _ _ _ _ _ _ _ _
      | exact ih7 _ _ _ _ _ _ _ _ _
      | exact packhorselaw14_sagaAlive.mono _
      | exact saga_Step.mono _ _ _ _ _ _
      | exact LeO.none _
      | refine LeO.ite ?_ ?_
      | refine LeO.bind ?_ (fun _ => ?_)
    · intro y0 y1 y2 y3 y4 y5 y6 y7 y8 y9
      unfold packhorselaw14_SagaEnds.j6
      repeat' first
      | (with_reducible exact ih0 _ _ _ _ _ _)
      | (with_reducible exact ih1 _ _ _ _ _ _ _)
      | (with_reducible exact ih2 _ _ _ _ _ _ _ _)
      | (with_reducible exact ih3 _ _ _ _ _ _ _ _ _)
      | (with_reducible exact ih4 _ _ _ _ _ _ _ _)
      | (with_reducible exact ih5 _ _ _ _ _ _ _ _ _)
      | (with_reducible exact ih6 _ _ _ _ _ _ _ _ _ _)
      | (with_reducible exact ih7 _ _ _ _ _ _ _ _ _)
      | (with_reducible exact packhorselaw14_sagaAlive.mono _)
      | (with_reducible exact saga_Step.mono _ _ _ _ _ _)
      | (with_reducible exact LeO.refl _)
      | (with_reducible exact LeO.none _)
      | (with_reducible refine LeO.ite ?_ ?_)
      | (with_reducible refine LeO.bind ?_ (fun _ => ?_))
      | exact ih0 _ _ _ _ _ _
      | exact ih1 _ _ _ _ _ _ _
      | exact ih2 _ _ _ _ _ _ _ _
      | exact ih3 _ _ _ _ _ _ _ _ _
      | exact ih4 _ _ _ _ _ _ _ _
      | exact ih5 _ _ _ _ _ _ _ _ _
      | exact ih6 _ _ _ _ _ _ _ _ _ _
      | exact ih7 _ _ _ _ _ _ _ _ _
      | exact packhorselaw14_sagaAlive.mono _
      | exact saga_Step.mono _ _ _ _ _ _
      | exact LeO.none _
      | refine LeO.ite ?_ ?_
      | refine LeO.bind ?_ (fun _ => ?_)
    · intro y0 y1 y2 y3 y4 y5 y6 y7 y8
      unfold packhorselaw14_SagaEnds.j7
      repeat' first
      | (with_reducible exact ih0 _ _ _ _ _ _)
      | (with_reducible exact ih1 _ _ _ _ _ _ _)
      | (with_reducible exact ih2 _ _ _ _ _ _ _ _)
      | (with_reducible exact ih3 _ _ _ _ _ _ _ _ _)
      | (with_reducible exact ih4 _ _ _ _ _ _ _ _)
      | (with_reducible exact ih5 _ _ _ _ _ _ _ _ _)
      | (with_reducible exact ih6 _ _ _ _ _ _ _ _ _ _)
      | (with_reducible exact ih7 _ _ _ _ _ _ _ _ _)
      | (with_reducible exact packhorselaw14_sagaAlive.mono _)
      | (with_reducible exact saga_Step.mono _ _ _ _ _ _)
      | (with_reducible exact LeO.refl _)
      | (with_reducible exact LeO.none _)
      | (with_reducible refine LeO.ite ?_ ?_)
      | (with_reducible refine LeO.bind ?_ (fun _ => ?_))
      | exact ih0 _ _ _ _ _ _
      | exact ih1 _ _ _ _ _ _ _
      | exact ih2 _ _ _ _ _ _ _ _
      | exact ih3 _ _ _ _ _ _ _ _ _
      | exact ih4 _ _ _ _ _ _ _ _
      | exact ih5 _ _ _ _ _ _ _ _ _
      | exact ih6 _ _ _ _ _ _ _ _ _ _
      | exact ih7 _ _ _ _ _ _ _ _ _
      | exact packhorselaw14_sagaAlive.mono _
      | exact saga_Step.mono _ _ _ _ _ _
      | exact LeO.none _
      | refine LeO.ite ?_ ?_
      | refine LeO.bind ?_ (fun _ => ?_)
theorem packhorselaw14_SagaEnds.mono : ∀ a0 a1 a2 a3 a4 k, LeO (packhorselaw14_SagaEnds.f k a0 a1 a2 a3 a4) (packhorselaw14_SagaEnds.f (k + 1) a0 a1 a2 a3 a4) := by
  intro a0 a1 a2 a3 a4 k
  obtain ⟨ih0, ih1, ih2, ih3, ih4, ih5, ih6, ih7⟩ := packhorselaw14_SagaEnds.mono_l k
  unfold packhorselaw14_SagaEnds.f
  repeat' first
      | (with_reducible exact ih0 _ _ _ _ _ _)
      | (with_reducible exact ih1 _ _ _ _ _ _ _)
      | (with_reducible exact ih2 _ _ _ _ _ _ _ _)
      | (with_reducible exact ih3 _ _ _ _ _ _ _ _ _)
      | (with_reducible exact ih4 _ _ _ _ _ _ _ _)
      | (with_reducible exact ih5 _ _ _ _ _ _ _ _ _)
      | (with_reducible exact ih6 _ _ _ _ _ _ _ _ _ _)
      | (with_reducible exact ih7 _ _ _ _ _ _ _ _ _)
      | (with_reducible exact packhorselaw14_sagaAlive.mono _)
      | (with_reducible exact saga_Step.mono _ _ _ _ _ _)
      | (with_reducible exact LeO.refl _)
      | (with_reducible exact LeO.none _)
      | (with_reducible refine LeO.ite ?_ ?_)
      | (with_reducible refine LeO.bind ?_ (fun _ => ?_))
      | exact ih0 _ _ _ _ _ _
      | exact ih1 _ _ _ _ _ _ _
      | exact ih2 _ _ _ _ _ _ _ _
      | exact ih3 _ _ _ _ _ _ _ _ _
      | exact ih4 _ _ _ _ _ _ _ _
      | exact ih5 _ _ _ _ _ _ _ _ _
      | exact ih6 _ _ _ _ _ _ _ _ _ _
      | exact ih7 _ _ _ _ _ _ _ _ _
      | exact packhorselaw14_sagaAlive.mono _
      | exact saga_Step.mono _ _ _ _ _ _
      | exact LeO.none _
      | refine LeO.ite ?_ ?_
      | refine LeO.bind ?_ (fun _ => ?_)
set_option maxHeartbeats 8000000 in
set_option maxRecDepth 100000 in
theorem packhorselaw14_SagaEnds.calls (k : Nat) (a0_0 : Int) (a0_1 : Bool) (a0_2 : Int) (A1 : Option Addr) (c1 : Nat) (l1 : List Bool) (a2 : Int) (r : Bool) (w : World) (hr1 : Kd.C Kd.bool w A1 l1.length l1) (hc1 : l1.length ≤ c1) (h : packhorselaw14_SagaEnds.f k a0_0 a0_1 a0_2 l1 a2 = some r) :
    Calls Try.prog 4 #[.agg #[.int .i64 a0_0, .bool a0_1, .int .i64 a0_2], .slice A1 l1.length c1, .int .i64 a2] w fun e w' => e = .returned (.bool r) ∧ Below w.heap.size w w' := by
  have hu23 := Try.underlying23
  have HR1 := Aside0.mk hr1
  have HC1 := Aside0.mk hc1
  clear hr1 hc1
  have HB := Aside0.mk (Below.refl w.heap.size w)
  have H : ((packhorselaw14_sagaAlive.f k).bind fun t257 => (if t257 = true then (if a0_0 < 1 then (packhorselaw14_SagaEnds.j0 k l1 a2 true a0_0 a0_1 a0_2) else (if a0_0 > 12 then (packhorselaw14_SagaEnds.j0 k l1 a2 true a0_0 a0_1 a0_2) else (if a0_2 = 0 then (if a2 < 1 then (packhorselaw14_SagaEnds.j0 k l1 a2 true a0_0 a0_1 a0_2) else (if a2 > 50 then (packhorselaw14_SagaEnds.j0 k l1 a2 true a0_0 a0_1 a0_2) else (packhorselaw14_SagaEnds.j0 k l1 a2 (decide ((l1.length : Int) > 300)) a0_0 a0_1 a0_2))) else (packhorselaw14_SagaEnds.j0 k l1 a2 true a0_0 a0_1 a0_2)))) else (some false))) = some r := h
  clear h
  replace H := Option.bind_eq_some_iff.mp H
  obtain ⟨t257, A40, H⟩ := H
  replace H : (if t257 = true then (if a0_0 < 1 then (packhorselaw14_SagaEnds.j0 k l1 a2 true a0_0 a0_1 a0_2) else (if a0_0 > 12 then (packhorselaw14_SagaEnds.j0 k l1 a2 true a0_0 a0_1 a0_2) else (if a0_2 = 0 then (if a2 < 1 then (packhorselaw14_SagaEnds.j0 k l1 a2 true a0_0 a0_1 a0_2) else (if a2 > 50 then (packhorselaw14_SagaEnds.j0 k l1 a2 true a0_0 a0_1 a0_2) else (packhorselaw14_SagaEnds.j0 k l1 a2 (decide ((l1.length : Int) > 300)) a0_0 a0_1 a0_2))) else (packhorselaw14_SagaEnds.j0 k l1 a2 true a0_0 a0_1 a0_2)))) else (some false)) = some r := H
  have A4 := Aside0.mk A40
  clear A40
  by_cases c5 : t257 = true
  · subst c5
    have H1 : (if a0_0 < 1 then (packhorselaw14_SagaEnds.j0 k l1 a2 true a0_0 a0_1 a0_2) else (if a0_0 > 12 then (packhorselaw14_SagaEnds.j0 k l1 a2 true a0_0 a0_1 a0_2) else (if a0_2 = 0 then (if a2 < 1 then (packhorselaw14_SagaEnds.j0 k l1 a2 true a0_0 a0_1 a0_2) else (if a2 > 50 then (packhorselaw14_SagaEnds.j0 k l1 a2 true a0_0 a0_1 a0_2) else (packhorselaw14_SagaEnds.j0 k l1 a2 (decide ((l1.length : Int) > 300)) a0_0 a0_1 a0_2))) else (packhorselaw14_SagaEnds.j0 k l1 a2 true a0_0 a0_1 a0_2)))) = some r := by rw [if_pos rfl] at H; exact H
    clear H
    have H := H1
    clear H1
    have HC6 := Aside0.mk H
    clear H
    go_enter Try.func4, Try.ntmps4
    go_upto_region 3 with (first | ((with_reducible refine gate_dst (N := 3) rfl ?_); (try (refine gate_guard (by rfl) ?_; dsimp only)); refine box_event ?hg (N := 3) ?hd (cs := #[.int .i64 a0_0, .bool a0_1, .int .i64 a0_2]) (t := 23) ?hr ?_; (case hd => rfl); (case hg => rfl); (case hr => first | (go_simp; done) | (go_simp; rfl)); intro gb256 hg w7 hbox hb; have n0_ := Aside0.mk (below_step (by repeat (first | (with_reducible first | exact HB.out | apply below_alloc | apply pw_below_drewN | apply below_drew1) | exact HB.out)) hb); have n1_ := Aside0.mk (hbox); have n2_ := Aside0.mk ((by rw [hg]; exact (below_size (by repeat (first | (with_reducible first | exact HB.out | apply below_alloc | apply pw_below_drewN | apply below_drew1) | exact HB.out))) : w.heap.size ≤ gb256)); have n3_ := Aside0.mk ((by rw [hg]; exact (below_size (by repeat (first | (with_reducible first | exact HB.out | apply below_alloc | apply pw_below_drewN | apply below_drew1) | exact HB.out))) : w.heap.size ≤ gb256)); clear HB; have HB := n0_; have BK256 := n1_; have GW256 := n2_; have GE256 := n3_; clear n0_ n1_ n2_ n3_; clear hb hbox hg) | ((with_reducible refine gate_callee (f := 9) rfl ?_); refine goesL_ (some 14) rfl rfl Try.func9 (by kernel_rfl) rfl #[] rfl (by (try simp only [List.map_toArray, List.map_cons, List.map_nil]); first | done | rfl | (simp only [List.length_drop, List.length_take]; rfl)) ?_; (with_reducible refine (packhorselaw14_sagaAlive.calls k  true _ A4.out).mono ?_); rintro e w8 ⟨rfl, hb⟩; refine ⟨_, rfl, ?_⟩; have n0_ := Aside0.mk (blk_below (g := gb256) (o := .cells #[.int .i64 a0_0, .bool a0_1, .int .i64 a0_2] 23 (0, 0)) (by (with_reducible repeat (first | refine blk_drewN ?_ _ | refine blk_drew ?_ | refine blk_alloc ?_ _)); exact BK256.out) hb); have n1_ := Aside0.mk (below_step (by repeat (first | (with_reducible first | exact HB.out | apply below_alloc | apply pw_below_drewN | apply below_drew1 | refine below_set ?_ GE256.out) | exact HB.out)) hb); clear BK256; clear HB; have BK256 := n0_; have HB := n1_; clear n0_ n1_; (try clear hb); (try clear hb2); (try clear hk); (try clear hi)))
    (try simp only [Act.put, List.setIfInBounds_toArray, List.set_cons_zero, List.set_cons_succ])
    go_cut [41] (fun v41 wc => ∃ (kq : Nat) (x41_5 : Bool), v41 = .bool x41_5 ∧ Aside0 (packhorselaw14_SagaEnds.j0 kq l1 a2 x41_5 a0_0 a0_1 a0_2 = some r) ∧ Aside0 (kq ≤ k) ∧ Aside0 (wc.heap[gb256]? = some (.cells #[.int .i64 a0_0, .bool a0_1, .int .i64 a0_2] 23 (0, 0))) ∧ Aside0 (Below w.heap.size w wc))
    case first =>
      have H := HC6.out
      clear HC6
      by_cases c9 : a0_0 < 1
      · rw [if_pos c9] at H
        have c9b0 : decide (a0_0 < 1) = true := decide_eq_true c9
        clear c9
        (first | rw [c9b0] | (simp only [i64_w, i32_w]; rw [c9b0]) | skip)
        have H' := Aside0.mk H
        clear H
        have hcz10_0 : w8.cell? ⟨gb256, 0, none⟩ = some (.int .i64 a0_0) := (blk_cell BK256.out 0).trans rfl
        have hcz10_1 : w8.cell? ⟨gb256, 1, none⟩ = some (.bool a0_1) := (blk_cell BK256.out 1).trans rfl
        have hcz10_2 : w8.cell? ⟨gb256, 2, none⟩ = some (.int .i64 a0_2) := (blk_cell BK256.out 2).trans rfl
        have hfz10_0 := blk_frozen BK256.out 0
        have hfz10_1 := blk_frozen BK256.out 1
        have hfz10_2 := blk_frozen BK256.out 2
        go_wp2
        go_meet
        case rel => exact ⟨_, (true), (by first | rfl | (simp; done) | (simp [*]; done)), H', ⟨by first | omega | exact Nat.le_refl _⟩, ⟨by (with_reducible repeat (first | refine blk_drewN ?_ _ | refine blk_drew ?_ | refine blk_alloc ?_ _)); exact BK256.out⟩, ⟨by repeat (first | (with_reducible first | exact HB.out | apply below_alloc | apply pw_below_drewN | apply below_drew1 | refine below_set ?_ GE256.out) | exact HB.out)⟩⟩
      · rw [if_neg c9] at H
        have c9b0 : decide (a0_0 < 1) = false := decide_eq_false c9
        clear c9
        (first | rw [c9b0] | (simp only [i64_w, i32_w]; rw [c9b0]) | skip)
        by_cases c11 : a0_0 > 12
        · rw [if_pos c11] at H
          have c11b0 : decide (12 < a0_0) = true := decide_eq_true c11
          clear c11
          have H' := Aside0.mk H
          clear H
          have hcz12_0 : w8.cell? ⟨gb256, 0, none⟩ = some (.int .i64 a0_0) := (blk_cell BK256.out 0).trans rfl
          have hcz12_1 : w8.cell? ⟨gb256, 1, none⟩ = some (.bool a0_1) := (blk_cell BK256.out 1).trans rfl
          have hcz12_2 : w8.cell? ⟨gb256, 2, none⟩ = some (.int .i64 a0_2) := (blk_cell BK256.out 2).trans rfl
          have hfz12_0 := blk_frozen BK256.out 0
          have hfz12_1 := blk_frozen BK256.out 1
          have hfz12_2 := blk_frozen BK256.out 2
          go_wp2
          go_meet
          case rel => exact ⟨_, (true), (by first | rfl | (simp; done) | (simp [*]; done)), H', ⟨by first | omega | exact Nat.le_refl _⟩, ⟨by (with_reducible repeat (first | refine blk_drewN ?_ _ | refine blk_drew ?_ | refine blk_alloc ?_ _)); exact BK256.out⟩, ⟨by repeat (first | (with_reducible first | exact HB.out | apply below_alloc | apply pw_below_drewN | apply below_drew1 | refine below_set ?_ GE256.out) | exact HB.out)⟩⟩
        · rw [if_neg c11] at H
          have c11b0 : decide (12 < a0_0) = false := decide_eq_false c11
          clear c11
          by_cases c13 : a0_2 = 0
          · rw [if_pos c13] at H
            have c13b0 : (a0_2 == 0) = true := beq_iff_eq.mpr c13
            have c13b1 : (a0_2 != 0) = false := bne_eq_false_iff_eq.mpr c13
            clear c13
            by_cases c14 : a2 < 1
            · rw [if_pos c14] at H
              have c14b0 : decide (a2 < 1) = true := decide_eq_true c14
              clear c14
              have H' := Aside0.mk H
              clear H
              have hcz15_0 : w8.cell? ⟨gb256, 0, none⟩ = some (.int .i64 a0_0) := (blk_cell BK256.out 0).trans rfl
              have hcz15_1 : w8.cell? ⟨gb256, 1, none⟩ = some (.bool a0_1) := (blk_cell BK256.out 1).trans rfl
              have hcz15_2 : w8.cell? ⟨gb256, 2, none⟩ = some (.int .i64 a0_2) := (blk_cell BK256.out 2).trans rfl
              have hfz15_0 := blk_frozen BK256.out 0
              have hfz15_1 := blk_frozen BK256.out 1
              have hfz15_2 := blk_frozen BK256.out 2
              go_wp2
              go_meet
              case rel => exact ⟨_, (true), (by first | rfl | (simp; done) | (simp [*]; done)), H', ⟨by first | omega | exact Nat.le_refl _⟩, ⟨by (with_reducible repeat (first | refine blk_drewN ?_ _ | refine blk_drew ?_ | refine blk_alloc ?_ _)); exact BK256.out⟩, ⟨by repeat (first | (with_reducible first | exact HB.out | apply below_alloc | apply pw_below_drewN | apply below_drew1 | refine below_set ?_ GE256.out) | exact HB.out)⟩⟩
            · rw [if_neg c14] at H
              have c14b0 : decide (a2 < 1) = false := decide_eq_false c14
              clear c14
              by_cases c16 : a2 > 50
              · rw [if_pos c16] at H
                have c16b0 : decide (50 < a2) = true := decide_eq_true c16
                clear c16
                have H' := Aside0.mk H
                clear H
                have hcz17_0 : w8.cell? ⟨gb256, 0, none⟩ = some (.int .i64 a0_0) := (blk_cell BK256.out 0).trans rfl
                have hcz17_1 : w8.cell? ⟨gb256, 1, none⟩ = some (.bool a0_1) := (blk_cell BK256.out 1).trans rfl
                have hcz17_2 : w8.cell? ⟨gb256, 2, none⟩ = some (.int .i64 a0_2) := (blk_cell BK256.out 2).trans rfl
                have hfz17_0 := blk_frozen BK256.out 0
                have hfz17_1 := blk_frozen BK256.out 1
                have hfz17_2 := blk_frozen BK256.out 2
                go_wp2
                go_meet
                case rel => exact ⟨_, (true), (by first | rfl | (simp; done) | (simp [*]; done)), H', ⟨by first | omega | exact Nat.le_refl _⟩, ⟨by (with_reducible repeat (first | refine blk_drewN ?_ _ | refine blk_drew ?_ | refine blk_alloc ?_ _)); exact BK256.out⟩, ⟨by repeat (first | (with_reducible first | exact HB.out | apply below_alloc | apply pw_below_drewN | apply below_drew1 | refine below_set ?_ GE256.out) | exact HB.out)⟩⟩
              · rw [if_neg c16] at H
                have c16b0 : decide (50 < a2) = false := decide_eq_false c16
                clear c16
                have H' := Aside0.mk H
                clear H
                have hcz18_0 : w8.cell? ⟨gb256, 0, none⟩ = some (.int .i64 a0_0) := (blk_cell BK256.out 0).trans rfl
                have hcz18_1 : w8.cell? ⟨gb256, 1, none⟩ = some (.bool a0_1) := (blk_cell BK256.out 1).trans rfl
                have hcz18_2 : w8.cell? ⟨gb256, 2, none⟩ = some (.int .i64 a0_2) := (blk_cell BK256.out 2).trans rfl
                have hfz18_0 := blk_frozen BK256.out 0
                have hfz18_1 := blk_frozen BK256.out 1
                have hfz18_2 := blk_frozen BK256.out 2
                go_wp2
                go_meet
                case rel => exact ⟨_, (decide ((l1.length : Int) > 300)), (by first | rfl | (simp; done) | (simp [*]; done)), H', ⟨by first | omega | exact Nat.le_refl _⟩, ⟨by (with_reducible repeat (first | refine blk_drewN ?_ _ | refine blk_drew ?_ | refine blk_alloc ?_ _)); exact BK256.out⟩, ⟨by repeat (first | (with_reducible first | exact HB.out | apply below_alloc | apply pw_below_drewN | apply below_drew1 | refine below_set ?_ GE256.out) | exact HB.out)⟩⟩
          · rw [if_neg c13] at H
            have c13b0 : (a0_2 == 0) = false := beq_eq_false_iff_ne.mpr c13
            have c13b1 : (a0_2 != 0) = true := bne_iff_ne.mpr c13
            have H' := Aside0.mk H
            clear H
            have hcz19_0 : w8.cell? ⟨gb256, 0, none⟩ = some (.int .i64 a0_0) := (blk_cell BK256.out 0).trans rfl
            have hcz19_1 : w8.cell? ⟨gb256, 1, none⟩ = some (.bool a0_1) := (blk_cell BK256.out 1).trans rfl
            have hcz19_2 : w8.cell? ⟨gb256, 2, none⟩ = some (.int .i64 a0_2) := (blk_cell BK256.out 2).trans rfl
            have hfz19_0 := blk_frozen BK256.out 0
            have hfz19_1 := blk_frozen BK256.out 1
            have hfz19_2 := blk_frozen BK256.out 2
            go_wp2
            go_meet
            case rel => exact ⟨_, (true), (by first | rfl | (simp; done) | (simp [*]; done)), H', ⟨by first | omega | exact Nat.le_refl _⟩, ⟨by (with_reducible repeat (first | refine blk_drewN ?_ _ | refine blk_drew ?_ | refine blk_alloc ?_ _)); exact BK256.out⟩, ⟨by repeat (first | (with_reducible first | exact HB.out | apply below_alloc | apply pw_below_drewN | apply below_drew1 | refine below_set ?_ GE256.out) | exact HB.out)⟩⟩
    case rest =>
      clear HC6
      try clear c1
      try clear p2
      try clear c4
      try clear c5
      try clear c9
      try clear c9b0
      try clear c11
      try clear c11b0
      try clear c13
      try clear c13b0
      try clear c13b1
      try clear c14
      try clear c14b0
      try clear c16
      try clear c16b0
      try clear hcz10_0
      try clear hcz10_1
      try clear hcz10_2
      try clear hcz12_0
      try clear hcz12_1
      try clear hcz12_2
      try clear hcz15_0
      try clear hcz15_1
      try clear hcz15_2
      try clear hcz17_0
      try clear hcz17_1
      try clear hcz17_2
      try clear hcz18_0
      try clear hcz18_1
      try clear hcz18_2
      try clear hcz19_0
      try clear hcz19_1
      try clear hcz19_2
      try clear hfz10_0
      try clear hfz10_1
      try clear hfz10_2
      try clear hfz12_0
      try clear hfz12_1
      try clear hfz12_2
      try clear hfz15_0
      try clear hfz15_1
      try clear hfz15_2
      try clear hfz17_0
      try clear hfz17_1
      try clear hfz17_2
      try clear hfz18_0
      try clear hfz18_1
      try clear hfz18_2
      try clear hfz19_0
      try clear hfz19_1
      try clear hfz19_2
      obtain ⟨kq, x41_5, rfl, HA, HJ5, BK256, HB⟩ := hcut
      cases kq with
      | zero => exact absurd HA.out (by simp [packhorselaw14_SagaEnds.j0])
      | succ kj5 =>
        have H := HA.out
        clear HA
        simp only [packhorselaw14_SagaEnds.j0] at H
        by_cases c20 : x41_5 = true
        · subst c20
          have H1 : (some true) = some r := by rw [if_pos rfl] at H; exact H
          clear H
          have H := H1
          clear H1
          obtain rfl := Option.some.inj H
          go_wp2
          go_ret
          exact ⟨by first | rfl | (simp [errW_none, errW_some] <;> rfl) | (simp [*, errW_none, errW_some] <;> rfl), by repeat (first | (with_reducible first | exact HB.out | apply below_alloc | apply pw_below_drewN | apply below_drew1 | refine below_set ?_ GE256.out) | exact HB.out)⟩
        · replace c20 := Bool.eq_false_iff.mpr c20
          subst c20
          have H1 : (packhorselaw14_SagaEnds.l0 kj5 l1 a2 0 0 a0_0 a0_1 a0_2) = some r := by rw [if_neg (show ¬ (false = true) by decide)] at H; exact H
          clear H
          have H := H1
          clear H1
          have H' := Aside0.mk H
          clear H
          go_wp2
          go_loopg [7, 8] kj5 (fun kq v7 v8 w' => ∃ (x7_2 : Int) (x8_2 : Int) (x257000_2 : Int) (x257001_2 : Bool) (x257002_2 : Int), v7 = .int .i64 x7_2 ∧ v8 = .int .i64 x8_2 ∧ Aside0 (packhorselaw14_SagaEnds.l0 kq l1 a2 x7_2 x8_2 x257000_2 x257001_2 x257002_2 = some r) ∧ Aside0 (kq ≤ kj5) ∧ Aside0 (w'.heap[gb256]? = some (.cells #[.int .i64 x257000_2, .bool x257001_2, .int .i64 x257002_2] 23 (0, 0))) ∧ Aside0 (Below w.heap.size w w'))
          case atStart => exact ⟨(0), (0), (a0_0), (a0_1), (a0_2), (by first | rfl | (simp; done) | (simp [*]; done)), (by first | rfl | (simp; done) | (simp [*]; done)), H', ⟨Nat.le_refl _⟩, ⟨by (with_reducible repeat (first | refine blk_drewN ?_ _ | refine blk_drew ?_ | refine blk_alloc ?_ _)); exact BK256.out⟩, ⟨by repeat (first | (with_reducible first | exact HB.out | apply below_alloc | apply pw_below_drewN | apply below_drew1 | refine below_set ?_ GE256.out) | exact HB.out)⟩⟩
          case round =>
            clear H'
            try clear c1
            try clear c2
            try clear p2
            try clear c4
            try clear c5
            try clear c9
            try clear c9b0
            try clear c11
            try clear c11b0
            try clear c13
            try clear c13b0
            try clear c13b1
            try clear c14
            try clear c14b0
            try clear c16
            try clear c16b0
            try clear c20
            try clear hcz10_0
            try clear hcz10_1
            try clear hcz10_2
            try clear hcz12_0
            try clear hcz12_1
            try clear hcz12_2
            try clear hcz15_0
            try clear hcz15_1
            try clear hcz15_2
            try clear hcz17_0
            try clear hcz17_1
            try clear hcz17_2
            try clear hcz18_0
            try clear hcz18_1
            try clear hcz18_2
            try clear hcz19_0
            try clear hcz19_1
            try clear hcz19_2
            try clear hfz10_0
            try clear hfz10_1
            try clear hfz10_2
            try clear hfz12_0
            try clear hfz12_1
            try clear hfz12_2
            try clear hfz15_0
            try clear hfz15_1
            try clear hfz15_2
            try clear hfz17_0
            try clear hfz17_1
            try clear hfz17_2
            try clear hfz18_0
            try clear hfz18_1
            try clear hfz18_2
            try clear hfz19_0
            try clear hfz19_1
            try clear hfz19_2
            try clear p2
            obtain ⟨x7_2, x8_2, x257000_2, x257001_2, x257002_2, rfl, rfl, HA, HK2, BK256, HB⟩ := hrel
            cases gk with
            | zero => exact absurd HA.out (by simp [packhorselaw14_SagaEnds.l0])
            | succ k2 =>
              have H := HA.out
              clear HA
              simp only [packhorselaw14_SagaEnds.l0] at H
              by_cases c21 : x8_2 < 300
              · rw [if_pos c21] at H
                have c21b0 : decide (x8_2 < 300) = true := decide_eq_true c21
                clear c21
                have HC22 := Aside0.mk H
                clear H
                go_upto_region 9 with (fail)
                go_cut [58] (fun v58 wc => ∃ (kq : Nat) (x58_21 : Bool), v58 = .bool x58_21 ∧ Aside0 (packhorselaw14_SagaEnds.j2 kq l1 a2 x7_2 x8_2 x58_21 x257000_2 x257001_2 x257002_2 = some r) ∧ Aside0 (kq ≤ k2) ∧ Aside0 (wc.heap[gb256]? = some (.cells #[.int .i64 x257000_2, .bool x257001_2, .int .i64 x257002_2] 23 (0, 0))) ∧ Aside0 (Below w.heap.size w wc))
                case first =>
                  have H := HC22.out
                  clear HC22
                  by_cases c23 : x257000_2 = 8
                  · rw [if_pos c23] at H
                    have c23b0 : (x257000_2 == 8) = true := beq_iff_eq.mpr c23
                    have c23b1 : (x257000_2 != 8) = false := bne_eq_false_iff_eq.mpr c23
                    clear c23
                    (first | rw [c23b0] | (simp only [i64_w, i32_w]; rw [c23b0]) | skip)
                    have H' := Aside0.mk H
                    clear H
                    have hcz24_0 : wr.cell? ⟨gb256, 0, none⟩ = some (.int .i64 x257000_2) := (blk_cell BK256.out 0).trans rfl
                    have hcz24_1 : wr.cell? ⟨gb256, 1, none⟩ = some (.bool x257001_2) := (blk_cell BK256.out 1).trans rfl
                    have hcz24_2 : wr.cell? ⟨gb256, 2, none⟩ = some (.int .i64 x257002_2) := (blk_cell BK256.out 2).trans rfl
                    have hfz24_0 := blk_frozen BK256.out 0
                    have hfz24_1 := blk_frozen BK256.out 1
                    have hfz24_2 := blk_frozen BK256.out 2
                    go_wp2
                    go_meet
                    case rel => exact ⟨_, (true), (by first | rfl | (simp; done) | (simp [*]; done)), H', ⟨by have := HJ5.out; have := HK2.out; first | omega | exact Nat.le_refl _⟩, ⟨by (with_reducible repeat (first | refine blk_drewN ?_ _ | refine blk_drew ?_ | refine blk_alloc ?_ _)); exact BK256.out⟩, ⟨by repeat (first | (with_reducible first | exact HB.out | apply below_alloc | apply pw_below_drewN | apply below_drew1 | refine below_set ?_ GE256.out) | exact HB.out)⟩⟩
                  · rw [if_neg c23] at H
                    have c23b0 : (x257000_2 == 8) = false := beq_eq_false_iff_ne.mpr c23
                    have c23b1 : (x257000_2 != 8) = true := bne_iff_ne.mpr c23
                    (first | rw [c23b0] | (simp only [i64_w, i32_w]; rw [c23b0]) | skip)
                    by_cases c25 : x257000_2 = 11
                    · rw [if_pos c25] at H
                      have c25b0 : (x257000_2 == 11) = true := beq_iff_eq.mpr c25
                      have c25b1 : (x257000_2 != 11) = false := bne_eq_false_iff_eq.mpr c25
                      clear c25
                      have H' := Aside0.mk H
                      clear H
                      have hcz26_0 : wr.cell? ⟨gb256, 0, none⟩ = some (.int .i64 x257000_2) := (blk_cell BK256.out 0).trans rfl
                      have hcz26_1 : wr.cell? ⟨gb256, 1, none⟩ = some (.bool x257001_2) := (blk_cell BK256.out 1).trans rfl
                      have hcz26_2 : wr.cell? ⟨gb256, 2, none⟩ = some (.int .i64 x257002_2) := (blk_cell BK256.out 2).trans rfl
                      have hfz26_0 := blk_frozen BK256.out 0
                      have hfz26_1 := blk_frozen BK256.out 1
                      have hfz26_2 := blk_frozen BK256.out 2
                      go_wp2
                      go_meet
                      case rel => exact ⟨_, (true), (by first | rfl | (simp; done) | (simp [*]; done)), H', ⟨by have := HJ5.out; have := HK2.out; first | omega | exact Nat.le_refl _⟩, ⟨by (with_reducible repeat (first | refine blk_drewN ?_ _ | refine blk_drew ?_ | refine blk_alloc ?_ _)); exact BK256.out⟩, ⟨by repeat (first | (with_reducible first | exact HB.out | apply below_alloc | apply pw_below_drewN | apply below_drew1 | refine below_set ?_ GE256.out) | exact HB.out)⟩⟩
                    · rw [if_neg c25] at H
                      have c25b0 : (x257000_2 == 11) = false := beq_eq_false_iff_ne.mpr c25
                      have c25b1 : (x257000_2 != 11) = true := bne_iff_ne.mpr c25
                      have H' := Aside0.mk H
                      clear H
                      have hcz27_0 : wr.cell? ⟨gb256, 0, none⟩ = some (.int .i64 x257000_2) := (blk_cell BK256.out 0).trans rfl
                      have hcz27_1 : wr.cell? ⟨gb256, 1, none⟩ = some (.bool x257001_2) := (blk_cell BK256.out 1).trans rfl
                      have hcz27_2 : wr.cell? ⟨gb256, 2, none⟩ = some (.int .i64 x257002_2) := (blk_cell BK256.out 2).trans rfl
                      have hfz27_0 := blk_frozen BK256.out 0
                      have hfz27_1 := blk_frozen BK256.out 1
                      have hfz27_2 := blk_frozen BK256.out 2
                      go_wp2
                      go_meet
                      case rel => exact ⟨_, ((x257000_2 == 12)), (by first | rfl | (simp; done) | (simp [*]; done)), H', ⟨by have := HJ5.out; have := HK2.out; first | omega | exact Nat.le_refl _⟩, ⟨by (with_reducible repeat (first | refine blk_drewN ?_ _ | refine blk_drew ?_ | refine blk_alloc ?_ _)); exact BK256.out⟩, ⟨by repeat (first | (with_reducible first | exact HB.out | apply below_alloc | apply pw_below_drewN | apply below_drew1 | refine below_set ?_ GE256.out) | exact HB.out)⟩⟩
                case rest =>
                  clear HC22
                  try clear c1
                  try clear c2
                  try clear p2
                  try clear c4
                  try clear c5
                  try clear c9
                  try clear c9b0
                  try clear c11
                  try clear c11b0
                  try clear c13
                  try clear c13b0
                  try clear c13b1
                  try clear c14
                  try clear c14b0
                  try clear c16
                  try clear c16b0
                  try clear c20
                  try clear c21
                  try clear c21b0
                  try clear c23
                  try clear c23b0
                  try clear c23b1
                  try clear c25
                  try clear c25b0
                  try clear c25b1
                  try clear hcz10_0
                  try clear hcz10_1
                  try clear hcz10_2
                  try clear hcz12_0
                  try clear hcz12_1
                  try clear hcz12_2
                  try clear hcz15_0
                  try clear hcz15_1
                  try clear hcz15_2
                  try clear hcz17_0
                  try clear hcz17_1
                  try clear hcz17_2
                  try clear hcz18_0
                  try clear hcz18_1
                  try clear hcz18_2
                  try clear hcz19_0
                  try clear hcz19_1
                  try clear hcz19_2
                  try clear hcz24_0
                  try clear hcz24_1
                  try clear hcz24_2
                  try clear hcz26_0
                  try clear hcz26_1
                  try clear hcz26_2
                  try clear hcz27_0
                  try clear hcz27_1
                  try clear hcz27_2
                  try clear hfz10_0
                  try clear hfz10_1
                  try clear hfz10_2
                  try clear hfz12_0
                  try clear hfz12_1
                  try clear hfz12_2
                  try clear hfz15_0
                  try clear hfz15_1
                  try clear hfz15_2
                  try clear hfz17_0
                  try clear hfz17_1
                  try clear hfz17_2
                  try clear hfz18_0
                  try clear hfz18_1
                  try clear hfz18_2
                  try clear hfz19_0
                  try clear hfz19_1
                  try clear hfz19_2
                  try clear hfz24_0
                  try clear hfz24_1
                  try clear hfz24_2
                  try clear hfz26_0
                  try clear hfz26_1
                  try clear hfz26_2
                  try clear hfz27_0
                  try clear hfz27_1
                  try clear hfz27_2
                  try clear p2
                  obtain ⟨kq, x58_21, rfl, HA, HJ21, BK256, HB⟩ := hcut
                  cases kq with
                  | zero => exact absurd HA.out (by simp [packhorselaw14_SagaEnds.j2])
                  | succ kj21 =>
                    have H := HA.out
                    clear HA
                    simp only [packhorselaw14_SagaEnds.j2] at H
                    by_cases c28 : x58_21 = true
                    · subst c28
                      have H1 : (if x8_2 ≤ (wrap64 ((wrap64 (12 + (wrap64 (2 * a2)))) + (l1.length : Int))) then (if x257000_2 = 12 then (if x7_2 ≥ a2 then (some true) else (some (x8_2 == 0))) else (some true)) else (some false)) = some r := by rw [if_pos rfl] at H; exact H
                      clear H
                      have H := H1
                      clear H1
                      by_cases c29 : x8_2 ≤ (wrap64 ((wrap64 (12 + (wrap64 (2 * a2)))) + (l1.length : Int)))
                      · rw [if_pos c29] at H
                        have c29b0 : decide (x8_2 ≤ (wrap64 ((wrap64 (12 + (wrap64 (2 * a2)))) + (l1.length : Int)))) = true := decide_eq_true c29
                        clear c29
                        by_cases c30 : x257000_2 = 12
                        · rw [if_pos c30] at H
                          have c30b0 : (x257000_2 == 12) = true := beq_iff_eq.mpr c30
                          have c30b1 : (x257000_2 != 12) = false := bne_eq_false_iff_eq.mpr c30
                          clear c30
                          by_cases c31 : x7_2 ≥ a2
                          · rw [if_pos c31] at H
                            have c31b0 : decide (a2 ≤ x7_2) = true := decide_eq_true c31
                            clear c31
                            obtain rfl := Option.some.inj H
                            have hcz32_0 : wc.cell? ⟨gb256, 0, none⟩ = some (.int .i64 x257000_2) := (blk_cell BK256.out 0).trans rfl
                            have hcz32_1 : wc.cell? ⟨gb256, 1, none⟩ = some (.bool x257001_2) := (blk_cell BK256.out 1).trans rfl
                            have hcz32_2 : wc.cell? ⟨gb256, 2, none⟩ = some (.int .i64 x257002_2) := (blk_cell BK256.out 2).trans rfl
                            have hfz32_0 := blk_frozen BK256.out 0
                            have hfz32_1 := blk_frozen BK256.out 1
                            have hfz32_2 := blk_frozen BK256.out 2
                            go_wp2
                            go_ret
                            exact ⟨by first | rfl | (simp [errW_none, errW_some] <;> rfl) | (simp [*, errW_none, errW_some] <;> rfl), by repeat (first | (with_reducible first | exact HB.out | apply below_alloc | apply pw_below_drewN | apply below_drew1 | refine below_set ?_ GE256.out) | exact HB.out)⟩
                          · rw [if_neg c31] at H
                            have c31b0 : decide (a2 ≤ x7_2) = false := decide_eq_false c31
                            clear c31
                            obtain rfl := Option.some.inj H
                            have hcz33_0 : wc.cell? ⟨gb256, 0, none⟩ = some (.int .i64 x257000_2) := (blk_cell BK256.out 0).trans rfl
                            have hcz33_1 : wc.cell? ⟨gb256, 1, none⟩ = some (.bool x257001_2) := (blk_cell BK256.out 1).trans rfl
                            have hcz33_2 : wc.cell? ⟨gb256, 2, none⟩ = some (.int .i64 x257002_2) := (blk_cell BK256.out 2).trans rfl
                            have hfz33_0 := blk_frozen BK256.out 0
                            have hfz33_1 := blk_frozen BK256.out 1
                            have hfz33_2 := blk_frozen BK256.out 2
                            go_wp2
                            go_ret
                            exact ⟨by first | rfl | (simp [errW_none, errW_some] <;> rfl) | (simp [*, errW_none, errW_some] <;> rfl), by repeat (first | (with_reducible first | exact HB.out | apply below_alloc | apply pw_below_drewN | apply below_drew1 | refine below_set ?_ GE256.out) | exact HB.out)⟩
                        · rw [if_neg c30] at H
                          have c30b0 : (x257000_2 == 12) = false := beq_eq_false_iff_ne.mpr c30
                          have c30b1 : (x257000_2 != 12) = true := bne_iff_ne.mpr c30
                          obtain rfl := Option.some.inj H
                          have hcz34_0 : wc.cell? ⟨gb256, 0, none⟩ = some (.int .i64 x257000_2) := (blk_cell BK256.out 0).trans rfl
                          have hcz34_1 : wc.cell? ⟨gb256, 1, none⟩ = some (.bool x257001_2) := (blk_cell BK256.out 1).trans rfl
                          have hcz34_2 : wc.cell? ⟨gb256, 2, none⟩ = some (.int .i64 x257002_2) := (blk_cell BK256.out 2).trans rfl
                          have hfz34_0 := blk_frozen BK256.out 0
                          have hfz34_1 := blk_frozen BK256.out 1
                          have hfz34_2 := blk_frozen BK256.out 2
                          go_wp2
                          go_ret
                          exact ⟨by first | rfl | (simp [errW_none, errW_some] <;> rfl) | (simp [*, errW_none, errW_some] <;> rfl), by repeat (first | (with_reducible first | exact HB.out | apply below_alloc | apply pw_below_drewN | apply below_drew1 | refine below_set ?_ GE256.out) | exact HB.out)⟩
                      · rw [if_neg c29] at H
                        have c29b0 : decide (x8_2 ≤ (wrap64 ((wrap64 (12 + (wrap64 (2 * a2)))) + (l1.length : Int)))) = false := decide_eq_false c29
                        clear c29
                        obtain rfl := Option.some.inj H
                        go_wp2
                        go_ret
                        exact ⟨by first | rfl | (simp [errW_none, errW_some] <;> rfl) | (simp [*, errW_none, errW_some] <;> rfl), by repeat (first | (with_reducible first | exact HB.out | apply below_alloc | apply pw_below_drewN | apply below_drew1 | refine below_set ?_ GE256.out) | exact HB.out)⟩
                    · replace c28 := Bool.eq_false_iff.mpr c28
                      subst c28
                      have H1 : (if x257000_2 = 3 then (packhorselaw14_SagaEnds.j3 kj21 l1 a2 x7_2 x8_2 1 true x257000_2 x257001_2 x257002_2) else (packhorselaw14_SagaEnds.j3 kj21 l1 a2 x7_2 x8_2 1 (x257000_2 == 5) x257000_2 x257001_2 x257002_2)) = some r := by rw [if_neg (show ¬ (false = true) by decide)] at H; exact H
                      clear H
                      have H := H1
                      clear H1
                      have HC35 := Aside0.mk H
                      clear H
                      go_upto_region 12 with (fail)
                      go_cut [88] (fun v88 wc => ∃ (kq : Nat) (x88_34 : Bool), v88 = .bool x88_34 ∧ Aside0 (packhorselaw14_SagaEnds.j3 kq l1 a2 x7_2 x8_2 1 x88_34 x257000_2 x257001_2 x257002_2 = some r) ∧ Aside0 (kq ≤ kj21) ∧ Aside0 (wc.heap[gb256]? = some (.cells #[.int .i64 x257000_2, .bool x257001_2, .int .i64 x257002_2] 23 (0, 0))) ∧ Aside0 (Below w.heap.size w wc))
                      case first =>
                        have H := HC35.out
                        clear HC35
                        by_cases c36 : x257000_2 = 3
                        · rw [if_pos c36] at H
                          have c36b0 : (x257000_2 == 3) = true := beq_iff_eq.mpr c36
                          have c36b1 : (x257000_2 != 3) = false := bne_eq_false_iff_eq.mpr c36
                          clear c36
                          (first | rw [c36b0] | (simp only [i64_w, i32_w]; rw [c36b0]) | skip)
                          have H' := Aside0.mk H
                          clear H
                          have hcz37_0 : wc.cell? ⟨gb256, 0, none⟩ = some (.int .i64 x257000_2) := (blk_cell BK256.out 0).trans rfl
                          have hcz37_1 : wc.cell? ⟨gb256, 1, none⟩ = some (.bool x257001_2) := (blk_cell BK256.out 1).trans rfl
                          have hcz37_2 : wc.cell? ⟨gb256, 2, none⟩ = some (.int .i64 x257002_2) := (blk_cell BK256.out 2).trans rfl
                          have hfz37_0 := blk_frozen BK256.out 0
                          have hfz37_1 := blk_frozen BK256.out 1
                          have hfz37_2 := blk_frozen BK256.out 2
                          go_wp2
                          go_meet
                          case rel => exact ⟨_, (true), (by first | rfl | (simp; done) | (simp [*]; done)), H', ⟨by have := HJ5.out; have := HK2.out; have := HJ21.out; first | omega | exact Nat.le_refl _⟩, ⟨by (with_reducible repeat (first | refine blk_drewN ?_ _ | refine blk_drew ?_ | refine blk_alloc ?_ _)); exact BK256.out⟩, ⟨by repeat (first | (with_reducible first | exact HB.out | apply below_alloc | apply pw_below_drewN | apply below_drew1 | refine below_set ?_ GE256.out) | exact HB.out)⟩⟩
                        · rw [if_neg c36] at H
                          have c36b0 : (x257000_2 == 3) = false := beq_eq_false_iff_ne.mpr c36
                          have c36b1 : (x257000_2 != 3) = true := bne_iff_ne.mpr c36
                          (first | rw [c36b0] | (simp only [i64_w, i32_w]; rw [c36b0]) | skip)
                          have H' := Aside0.mk H
                          clear H
                          have hcz38_0 : wc.cell? ⟨gb256, 0, none⟩ = some (.int .i64 x257000_2) := (blk_cell BK256.out 0).trans rfl
                          have hcz38_1 : wc.cell? ⟨gb256, 1, none⟩ = some (.bool x257001_2) := (blk_cell BK256.out 1).trans rfl
                          have hcz38_2 : wc.cell? ⟨gb256, 2, none⟩ = some (.int .i64 x257002_2) := (blk_cell BK256.out 2).trans rfl
                          have hfz38_0 := blk_frozen BK256.out 0
                          have hfz38_1 := blk_frozen BK256.out 1
                          have hfz38_2 := blk_frozen BK256.out 2
                          go_wp2
                          go_meet
                          case rel => exact ⟨_, ((x257000_2 == 5)), (by first | rfl | (simp; done) | (simp [*]; done)), H', ⟨by have := HJ5.out; have := HK2.out; have := HJ21.out; first | omega | exact Nat.le_refl _⟩, ⟨by (with_reducible repeat (first | refine blk_drewN ?_ _ | refine blk_drew ?_ | refine blk_alloc ?_ _)); exact BK256.out⟩, ⟨by repeat (first | (with_reducible first | exact HB.out | apply below_alloc | apply pw_below_drewN | apply below_drew1 | refine below_set ?_ GE256.out) | exact HB.out)⟩⟩
                      case rest =>
                        clear HC35
                        try clear c1
                        try clear c2
                        try clear p2
                        try clear c3
                        try clear c4
                        try clear c5
                        try clear p6
                        try clear c9
                        try clear c9b0
                        try clear c11
                        try clear c11b0
                        try clear c13
                        try clear c13b0
                        try clear c13b1
                        try clear c14
                        try clear c14b0
                        try clear c16
                        try clear c16b0
                        try clear c20
                        try clear c21
                        try clear c21b0
                        try clear c23
                        try clear c23b0
                        try clear c23b1
                        try clear c25
                        try clear c25b0
                        try clear c25b1
                        try clear c28
                        try clear c29
                        try clear c29b0
                        try clear c30
                        try clear c30b0
                        try clear c30b1
                        try clear c31
                        try clear c31b0
                        try clear c36
                        try clear c36b0
                        try clear c36b1
                        try clear hcz10_0
                        try clear hcz10_1
                        try clear hcz10_2
                        try clear hcz12_0
                        try clear hcz12_1
                        try clear hcz12_2
                        try clear hcz15_0
                        try clear hcz15_1
                        try clear hcz15_2
                        try clear hcz17_0
                        try clear hcz17_1
                        try clear hcz17_2
                        try clear hcz18_0
                        try clear hcz18_1
                        try clear hcz18_2
                        try clear hcz19_0
                        try clear hcz19_1
                        try clear hcz19_2
                        try clear hcz24_0
                        try clear hcz24_1
                        try clear hcz24_2
                        try clear hcz26_0
                        try clear hcz26_1
                        try clear hcz26_2
                        try clear hcz27_0
                        try clear hcz27_1
                        try clear hcz27_2
                        try clear hcz32_0
                        try clear hcz32_1
                        try clear hcz32_2
                        try clear hcz33_0
                        try clear hcz33_1
                        try clear hcz33_2
                        try clear hcz34_0
                        try clear hcz34_1
                        try clear hcz34_2
                        try clear hcz37_0
                        try clear hcz37_1
                        try clear hcz37_2
                        try clear hcz38_0
                        try clear hcz38_1
                        try clear hcz38_2
                        try clear hfz10_0
                        try clear hfz10_1
                        try clear hfz10_2
                        try clear hfz12_0
                        try clear hfz12_1
                        try clear hfz12_2
                        try clear hfz15_0
                        try clear hfz15_1
                        try clear hfz15_2
                        try clear hfz17_0
                        try clear hfz17_1
                        try clear hfz17_2
                        try clear hfz18_0
                        try clear hfz18_1
                        try clear hfz18_2
                        try clear hfz19_0
                        try clear hfz19_1
                        try clear hfz19_2
                        try clear hfz24_0
                        try clear hfz24_1
                        try clear hfz24_2
                        try clear hfz26_0
                        try clear hfz26_1
                        try clear hfz26_2
                        try clear hfz27_0
                        try clear hfz27_1
                        try clear hfz27_2
                        try clear hfz32_0
                        try clear hfz32_1
                        try clear hfz32_2
                        try clear hfz33_0
                        try clear hfz33_1
                        try clear hfz33_2
                        try clear hfz34_0
                        try clear hfz34_1
                        try clear hfz34_2
                        try clear hfz37_0
                        try clear hfz37_1
                        try clear hfz37_2
                        try clear hfz38_0
                        try clear hfz38_1
                        try clear hfz38_2
                        try clear p2
                        obtain ⟨kq, x88_34, rfl, HA, HJ34, BK256, HB⟩ := hcut
                        cases kq with
                        | zero => exact absurd HA.out (by simp [packhorselaw14_SagaEnds.j3])
                        | succ kj34 =>
                          have H := HA.out
                          clear HA
                          simp only [packhorselaw14_SagaEnds.j3] at H
                          have HC39 := Aside0.mk H
                          clear H
                          go_upto_if 88 with (fail)
                          go_cut [9] (fun v9 wc => ∃ (kq : Nat) (x9_38 : Int), v9 = .int .i64 x9_38 ∧ Aside0 (packhorselaw14_SagaEnds.j4 kq l1 a2 x7_2 x8_2 x9_38 x257000_2 x257001_2 x257002_2 = some r) ∧ Aside0 (kq ≤ kj34) ∧ Aside0 (wc.heap[gb256]? = some (.cells #[.int .i64 x257000_2, .bool x257001_2, .int .i64 x257002_2] 23 (0, 0))) ∧ Aside0 (Below w.heap.size w wc))
                          case first =>
                            have H := HC39.out
                            clear HC39
                            by_cases c40 : x88_34 = true
                            · subst c40
                              have H1 : (packhorselaw14_SagaEnds.j4 kj34 l1 a2 x7_2 x8_2 4 x257000_2 x257001_2 x257002_2) = some r := by rw [if_pos rfl] at H; exact H
                              clear H
                              have H := H1
                              clear H1
                              have H' := Aside0.mk H
                              clear H
                              go_wp2
                              go_meet
                              case rel => exact ⟨_, (4), (by first | rfl | (simp; done) | (simp [*]; done)), H', ⟨by have := HJ5.out; have := HK2.out; have := HJ21.out; have := HJ34.out; first | omega | exact Nat.le_refl _⟩, ⟨by (with_reducible repeat (first | refine blk_drewN ?_ _ | refine blk_drew ?_ | refine blk_alloc ?_ _)); exact BK256.out⟩, ⟨by repeat (first | (with_reducible first | exact HB.out | apply below_alloc | apply pw_below_drewN | apply below_drew1 | refine below_set ?_ GE256.out) | exact HB.out)⟩⟩
                            · replace c40 := Bool.eq_false_iff.mpr c40
                              subst c40
                              have H1 : (if x8_2 < (l1.length : Int) then (if 0 ≤ x8_2 then (if rdOf false l1 x8_2 = true then (packhorselaw14_SagaEnds.j4 kj34 l1 a2 x7_2 x8_2 2 x257000_2 x257001_2 x257002_2) else (packhorselaw14_SagaEnds.j4 kj34 l1 a2 x7_2 x8_2 1 x257000_2 x257001_2 x257002_2)) else (none)) else (packhorselaw14_SagaEnds.j4 kj34 l1 a2 x7_2 x8_2 1 x257000_2 x257001_2 x257002_2)) = some r := by rw [if_neg (show ¬ (false = true) by decide)] at H; exact H
                              clear H
                              have H := H1
                              clear H1
                              by_cases c41 : x8_2 < (l1.length : Int)
                              · rw [if_pos c41] at H
                                have c41b0 : decide (x8_2 < (l1.length : Int)) = true := decide_eq_true c41
                                clear c41
                                (first | rw [c41b0] | (simp only [i64_w, i32_w]; rw [c41b0]) | skip)
                                by_cases c42 : 0 ≤ x8_2
                                · rw [if_pos c42] at H
                                  have c42b0 : decide (0 ≤ x8_2) = true := decide_eq_true c42
                                  clear c42
                                  obtain ⟨bq43, hbq43⟩ : ∃ b_ : Bool, b_ = (rdOf false l1 x8_2) := ⟨_, rfl⟩
                                  replace H : (if bq43 = true then (packhorselaw14_SagaEnds.j4 kj34 l1 a2 x7_2 x8_2 2 x257000_2 x257001_2 x257002_2) else (packhorselaw14_SagaEnds.j4 kj34 l1 a2 x7_2 x8_2 1 x257000_2 x257001_2 x257002_2)) = some r := by rw [← hbq43] at H; exact H
                                  have Nbq43 := Aside0.mk hbq43
                                  clear hbq43
                                  by_cases c44 : bq43 = true
                                  · subst c44
                                    have H1 : (packhorselaw14_SagaEnds.j4 kj34 l1 a2 x7_2 x8_2 2 x257000_2 x257001_2 x257002_2) = some r := by rw [if_pos rfl] at H; exact H
                                    clear H
                                    have H := H1
                                    clear H1
                                    have H' := Aside0.mk H
                                    clear H
                                    have p258 : 0 ≤ (x8_2 : Int) := of_decide_eq_true (by first | (with_reducible assumption) | assumption)
                                    have q258 : x8_2 < (l1.length : Int) := of_decide_eq_true (by first | (with_reducible assumption) | assumption)
                                    obtain ⟨ad258, e258, hx258_0⟩ := Kd.at_bool HR1.out x8_2 p258 q258
                                    (try rw [← Nbq43.out] at hx258_0)
                                    cases e258
                                    replace hx258_0 := (HB.out.cell (World.block_lt_of_cell? w _ hx258_0)).trans hx258_0
                                    replace p258 := eq_true p258
                                    replace q258 := eq_true q258
                                    go_wp2
                                    go_meet
                                    case rel => exact ⟨_, (2), (by first | rfl | (simp; done) | (simp [*]; done)), H', ⟨by have := HJ5.out; have := HK2.out; have := HJ21.out; have := HJ34.out; first | omega | exact Nat.le_refl _⟩, ⟨by (with_reducible repeat (first | refine blk_drewN ?_ _ | refine blk_drew ?_ | refine blk_alloc ?_ _)); exact BK256.out⟩, ⟨by repeat (first | (with_reducible first | exact HB.out | apply below_alloc | apply pw_below_drewN | apply below_drew1 | refine below_set ?_ GE256.out) | exact HB.out)⟩⟩
                                  · replace c44 := Bool.eq_false_iff.mpr c44
                                    subst c44
                                    have H1 : (packhorselaw14_SagaEnds.j4 kj34 l1 a2 x7_2 x8_2 1 x257000_2 x257001_2 x257002_2) = some r := by rw [if_neg (show ¬ (false = true) by decide)] at H; exact H
                                    clear H
                                    have H := H1
                                    clear H1
                                    have H' := Aside0.mk H
                                    clear H
                                    have p258 : 0 ≤ (x8_2 : Int) := of_decide_eq_true (by first | (with_reducible assumption) | assumption)
                                    have q258 : x8_2 < (l1.length : Int) := of_decide_eq_true (by first | (with_reducible assumption) | assumption)
                                    obtain ⟨ad258, e258, hx258_0⟩ := Kd.at_bool HR1.out x8_2 p258 q258
                                    (try rw [← Nbq43.out] at hx258_0)
                                    cases e258
                                    replace hx258_0 := (HB.out.cell (World.block_lt_of_cell? w _ hx258_0)).trans hx258_0
                                    replace p258 := eq_true p258
                                    replace q258 := eq_true q258
                                    go_wp2
                                    go_meet
                                    case rel => exact ⟨_, (1), (by first | rfl | (simp; done) | (simp [*]; done)), H', ⟨by have := HJ5.out; have := HK2.out; have := HJ21.out; have := HJ34.out; first | omega | exact Nat.le_refl _⟩, ⟨by (with_reducible repeat (first | refine blk_drewN ?_ _ | refine blk_drew ?_ | refine blk_alloc ?_ _)); exact BK256.out⟩, ⟨by repeat (first | (with_reducible first | exact HB.out | apply below_alloc | apply pw_below_drewN | apply below_drew1 | refine below_set ?_ GE256.out) | exact HB.out)⟩⟩
                                · rw [if_neg c42] at H
                                  exact absurd H (by simp)
                              · rw [if_neg c41] at H
                                have c41b0 : decide (x8_2 < (l1.length : Int)) = false := decide_eq_false c41
                                clear c41
                                (first | rw [c41b0] | (simp only [i64_w, i32_w]; rw [c41b0]) | skip)
                                have H' := Aside0.mk H
                                clear H
                                go_wp2
                                go_meet
                                case rel => exact ⟨_, (1), (by first | rfl | (simp; done) | (simp [*]; done)), H', ⟨by have := HJ5.out; have := HK2.out; have := HJ21.out; have := HJ34.out; first | omega | exact Nat.le_refl _⟩, ⟨by (with_reducible repeat (first | refine blk_drewN ?_ _ | refine blk_drew ?_ | refine blk_alloc ?_ _)); exact BK256.out⟩, ⟨by repeat (first | (with_reducible first | exact HB.out | apply below_alloc | apply pw_below_drewN | apply below_drew1 | refine below_set ?_ GE256.out) | exact HB.out)⟩⟩
                          case rest =>
                            clear HC39
                            try clear c1
                            try clear c2
                            try clear p2
                            try clear q2
                            try clear hx2
                            try clear c3
                            try clear c4
                            try clear q4
                            try clear c5
                            try clear p6
                            try clear c9
                            try clear c9b0
                            try clear c11
                            try clear c11b0
                            try clear c13
                            try clear c13b0
                            try clear c13b1
                            try clear c14
                            try clear c14b0
                            try clear c16
                            try clear c16b0
                            try clear c20
                            try clear c21
                            try clear c21b0
                            try clear c23
                            try clear c23b0
                            try clear c23b1
                            try clear c25
                            try clear c25b0
                            try clear c25b1
                            try clear p25
                            try clear q25
                            try clear hx25
                            try clear c28
                            try clear c29
                            try clear c29b0
                            try clear c30
                            try clear c30b0
                            try clear c30b1
                            try clear c31
                            try clear c31b0
                            try clear c36
                            try clear c36b0
                            try clear c36b1
                            try clear c40
                            try clear c41
                            try clear c41b0
                            try clear c42
                            try clear c42b0
                            try clear q43
                            try clear c44
                            try clear hcz10_0
                            try clear hcz10_1
                            try clear hcz10_2
                            try clear hcz12_0
                            try clear hcz12_1
                            try clear hcz12_2
                            try clear hcz15_0
                            try clear hcz15_1
                            try clear hcz15_2
                            try clear hcz17_0
                            try clear hcz17_1
                            try clear hcz17_2
                            try clear hcz18_0
                            try clear hcz18_1
                            try clear hcz18_2
                            try clear hcz19_0
                            try clear hcz19_1
                            try clear hcz19_2
                            try clear hcz24_0
                            try clear hcz24_1
                            try clear hcz24_2
                            try clear hcz26_0
                            try clear hcz26_1
                            try clear hcz26_2
                            try clear hcz27_0
                            try clear hcz27_1
                            try clear hcz27_2
                            try clear hcz32_0
                            try clear hcz32_1
                            try clear hcz32_2
                            try clear hcz33_0
                            try clear hcz33_1
                            try clear hcz33_2
                            try clear hcz34_0
                            try clear hcz34_1
                            try clear hcz34_2
                            try clear hcz37_0
                            try clear hcz37_1
                            try clear hcz37_2
                            try clear hcz38_0
                            try clear hcz38_1
                            try clear hcz38_2
                            try clear hfz10_0
                            try clear hfz10_1
                            try clear hfz10_2
                            try clear hfz12_0
                            try clear hfz12_1
                            try clear hfz12_2
                            try clear hfz15_0
                            try clear hfz15_1
                            try clear hfz15_2
                            try clear hfz17_0
                            try clear hfz17_1
                            try clear hfz17_2
                            try clear hfz18_0
                            try clear hfz18_1
                            try clear hfz18_2
                            try clear hfz19_0
                            try clear hfz19_1
                            try clear hfz19_2
                            try clear hfz24_0
                            try clear hfz24_1
                            try clear hfz24_2
                            try clear hfz26_0
                            try clear hfz26_1
                            try clear hfz26_2
                            try clear hfz27_0
                            try clear hfz27_1
                            try clear hfz27_2
                            try clear hfz32_0
                            try clear hfz32_1
                            try clear hfz32_2
                            try clear hfz33_0
                            try clear hfz33_1
                            try clear hfz33_2
                            try clear hfz34_0
                            try clear hfz34_1
                            try clear hfz34_2
                            try clear hfz37_0
                            try clear hfz37_1
                            try clear hfz37_2
                            try clear hfz38_0
                            try clear hfz38_1
                            try clear hfz38_2
                            try clear hx258_0
                            try clear p2
                            try clear p258
                            try clear p6
                            try clear q258
                            obtain ⟨kq, x9_38, rfl, HA, HJ38, BK256, HB⟩ := hcut
                            cases kq with
                            | zero => exact absurd HA.out (by simp [packhorselaw14_SagaEnds.j4])
                            | succ kj38 =>
                              have H := HA.out
                              clear HA
                              simp only [packhorselaw14_SagaEnds.j4] at H
                              have HC45 := Aside0.mk H
                              clear H
                              go_upto_region 16 with (fail)
                              go_cut [10] (fun v10 wc => ∃ (kq : Nat) (x10_44 : Bool), v10 = .bool x10_44 ∧ Aside0 (packhorselaw14_SagaEnds.j5 kq l1 a2 x7_2 x8_2 x9_38 x10_44 x257000_2 x257001_2 x257002_2 = some r) ∧ Aside0 (kq ≤ kj38) ∧ Aside0 (wc.heap[gb256]? = some (.cells #[.int .i64 x257000_2, .bool x257001_2, .int .i64 x257002_2] 23 (0, 0))) ∧ Aside0 (Below w.heap.size w wc))
                              case first =>
                                have H := HC45.out
                                clear HC45
                                by_cases c46 : x257000_2 = 9
                                · rw [if_pos c46] at H
                                  have c46b0 : (x257000_2 == 9) = true := beq_iff_eq.mpr c46
                                  have c46b1 : (x257000_2 != 9) = false := bne_eq_false_iff_eq.mpr c46
                                  clear c46
                                  (first | rw [c46b0] | (simp only [i64_w, i32_w]; rw [c46b0]) | skip)
                                  have H' := Aside0.mk H
                                  clear H
                                  have hcz47_0 : wc.cell? ⟨gb256, 0, none⟩ = some (.int .i64 x257000_2) := (blk_cell BK256.out 0).trans rfl
                                  have hcz47_1 : wc.cell? ⟨gb256, 1, none⟩ = some (.bool x257001_2) := (blk_cell BK256.out 1).trans rfl
                                  have hcz47_2 : wc.cell? ⟨gb256, 2, none⟩ = some (.int .i64 x257002_2) := (blk_cell BK256.out 2).trans rfl
                                  have hfz47_0 := blk_frozen BK256.out 0
                                  have hfz47_1 := blk_frozen BK256.out 1
                                  have hfz47_2 := blk_frozen BK256.out 2
                                  go_wp2
                                  go_meet
                                  case rel => exact ⟨_, (true), (by first | rfl | (simp; done) | (simp [*]; done)), H', ⟨by have := HJ5.out; have := HK2.out; have := HJ21.out; have := HJ34.out; have := HJ38.out; first | omega | exact Nat.le_refl _⟩, ⟨by (with_reducible repeat (first | refine blk_drewN ?_ _ | refine blk_drew ?_ | refine blk_alloc ?_ _)); exact BK256.out⟩, ⟨by repeat (first | (with_reducible first | exact HB.out | apply below_alloc | apply pw_below_drewN | apply below_drew1 | refine below_set ?_ GE256.out) | exact HB.out)⟩⟩
                                · rw [if_neg c46] at H
                                  have c46b0 : (x257000_2 == 9) = false := beq_eq_false_iff_ne.mpr c46
                                  have c46b1 : (x257000_2 != 9) = true := bne_iff_ne.mpr c46
                                  (first | rw [c46b0] | (simp only [i64_w, i32_w]; rw [c46b0]) | skip)
                                  have H' := Aside0.mk H
                                  clear H
                                  have hcz48_0 : wc.cell? ⟨gb256, 0, none⟩ = some (.int .i64 x257000_2) := (blk_cell BK256.out 0).trans rfl
                                  have hcz48_1 : wc.cell? ⟨gb256, 1, none⟩ = some (.bool x257001_2) := (blk_cell BK256.out 1).trans rfl
                                  have hcz48_2 : wc.cell? ⟨gb256, 2, none⟩ = some (.int .i64 x257002_2) := (blk_cell BK256.out 2).trans rfl
                                  have hfz48_0 := blk_frozen BK256.out 0
                                  have hfz48_1 := blk_frozen BK256.out 1
                                  have hfz48_2 := blk_frozen BK256.out 2
                                  go_wp2
                                  go_meet
                                  case rel => exact ⟨_, ((x257000_2 == 10)), (by first | rfl | (simp; done) | (simp [*]; done)), H', ⟨by have := HJ5.out; have := HK2.out; have := HJ21.out; have := HJ34.out; have := HJ38.out; first | omega | exact Nat.le_refl _⟩, ⟨by (with_reducible repeat (first | refine blk_drewN ?_ _ | refine blk_drew ?_ | refine blk_alloc ?_ _)); exact BK256.out⟩, ⟨by repeat (first | (with_reducible first | exact HB.out | apply below_alloc | apply pw_below_drewN | apply below_drew1 | refine below_set ?_ GE256.out) | exact HB.out)⟩⟩
                              case rest =>
                                clear HC45
                                try clear c1
                                try clear c2
                                try clear p2
                                try clear q2
                                try clear hx2
                                try clear c3
                                try clear c4
                                try clear q4
                                try clear c5
                                try clear p6
                                try clear c9
                                try clear c9b0
                                try clear c11
                                try clear c11b0
                                try clear c13
                                try clear c13b0
                                try clear c13b1
                                try clear c14
                                try clear c14b0
                                try clear c16
                                try clear c16b0
                                try clear c20
                                try clear c21
                                try clear c21b0
                                try clear c23
                                try clear c23b0
                                try clear c23b1
                                try clear c25
                                try clear c25b0
                                try clear c25b1
                                try clear p25
                                try clear q25
                                try clear hx25
                                try clear c28
                                try clear c29
                                try clear c29b0
                                try clear c30
                                try clear c30b0
                                try clear c30b1
                                try clear c31
                                try clear c31b0
                                try clear c36
                                try clear c36b0
                                try clear c36b1
                                try clear c40
                                try clear c41
                                try clear c41b0
                                try clear c42
                                try clear c42b0
                                try clear q43
                                try clear c44
                                try clear c46
                                try clear c46b0
                                try clear c46b1
                                try clear hcz10_0
                                try clear hcz10_1
                                try clear hcz10_2
                                try clear hcz12_0
                                try clear hcz12_1
                                try clear hcz12_2
                                try clear hcz15_0
                                try clear hcz15_1
                                try clear hcz15_2
                                try clear hcz17_0
                                try clear hcz17_1
                                try clear hcz17_2
                                try clear hcz18_0
                                try clear hcz18_1
                                try clear hcz18_2
                                try clear hcz19_0
                                try clear hcz19_1
                                try clear hcz19_2
                                try clear hcz24_0
                                try clear hcz24_1
                                try clear hcz24_2
                                try clear hcz26_0
                                try clear hcz26_1
                                try clear hcz26_2
                                try clear hcz27_0
                                try clear hcz27_1
                                try clear hcz27_2
                                try clear hcz32_0
                                try clear hcz32_1
                                try clear hcz32_2
                                try clear hcz33_0
                                try clear hcz33_1
                                try clear hcz33_2
                                try clear hcz34_0
                                try clear hcz34_1
                                try clear hcz34_2
                                try clear hcz37_0
                                try clear hcz37_1
                                try clear hcz37_2
                                try clear hcz38_0
                                try clear hcz38_1
                                try clear hcz38_2
                                try clear hcz47_0
                                try clear hcz47_1
                                try clear hcz47_2
                                try clear hcz48_0
                                try clear hcz48_1
                                try clear hcz48_2
                                try clear hfz10_0
                                try clear hfz10_1
                                try clear hfz10_2
                                try clear hfz12_0
                                try clear hfz12_1
                                try clear hfz12_2
                                try clear hfz15_0
                                try clear hfz15_1
                                try clear hfz15_2
                                try clear hfz17_0
                                try clear hfz17_1
                                try clear hfz17_2
                                try clear hfz18_0
                                try clear hfz18_1
                                try clear hfz18_2
                                try clear hfz19_0
                                try clear hfz19_1
                                try clear hfz19_2
                                try clear hfz24_0
                                try clear hfz24_1
                                try clear hfz24_2
                                try clear hfz26_0
                                try clear hfz26_1
                                try clear hfz26_2
                                try clear hfz27_0
                                try clear hfz27_1
                                try clear hfz27_2
                                try clear hfz32_0
                                try clear hfz32_1
                                try clear hfz32_2
                                try clear hfz33_0
                                try clear hfz33_1
                                try clear hfz33_2
                                try clear hfz34_0
                                try clear hfz34_1
                                try clear hfz34_2
                                try clear hfz37_0
                                try clear hfz37_1
                                try clear hfz37_2
                                try clear hfz38_0
                                try clear hfz38_1
                                try clear hfz38_2
                                try clear hfz47_0
                                try clear hfz47_1
                                try clear hfz47_2
                                try clear hfz48_0
                                try clear hfz48_1
                                try clear hfz48_2
                                try clear hx258_0
                                try clear p2
                                try clear p25
                                try clear p258
                                try clear p6
                                try clear q2
                                try clear q25
                                try clear q258
                                try clear q4
                                try clear q43
                                obtain ⟨kq, x10_44, rfl, HA, HJ44, BK256, HB⟩ := hcut
                                cases kq with
                                | zero => exact absurd HA.out (by simp [packhorselaw14_SagaEnds.j5])
                                | succ kj44 =>
                                  have H := HA.out
                                  clear HA
                                  simp only [packhorselaw14_SagaEnds.j5] at H
                                  have HC49 := Aside0.mk H
                                  clear H
                                  go_upto_region 17 with (fail)
                                  go_cut [111] (fun v111 wc => ∃ (kq : Nat) (x111_48 : Bool), v111 = .bool x111_48 ∧ Aside0 (packhorselaw14_SagaEnds.j6 kq l1 a2 x7_2 x8_2 x9_38 x10_44 x111_48 x257000_2 x257001_2 x257002_2 = some r) ∧ Aside0 (kq ≤ kj44) ∧ Aside0 (wc.heap[gb256]? = some (.cells #[.int .i64 x257000_2, .bool x257001_2, .int .i64 x257002_2] 23 (0, 0))) ∧ Aside0 (Below w.heap.size w wc))
                                  case first =>
                                    have H := HC49.out
                                    clear HC49
                                    by_cases c50 : x10_44 = true
                                    · subst c50
                                      have H1 : (packhorselaw14_SagaEnds.j6 kj44 l1 a2 x7_2 x8_2 x9_38 true (x9_38 == 2) x257000_2 x257001_2 x257002_2) = some r := by rw [if_pos rfl] at H; exact H
                                      clear H
                                      have H := H1
                                      clear H1
                                      have H' := Aside0.mk H
                                      clear H
                                      go_wp2
                                      go_meet
                                      case rel => exact ⟨_, ((x9_38 == 2)), (by first | rfl | (simp; done) | (simp [*]; done)), H', ⟨by have := HJ5.out; have := HK2.out; have := HJ21.out; have := HJ34.out; have := HJ38.out; have := HJ44.out; first | omega | exact Nat.le_refl _⟩, ⟨by (with_reducible repeat (first | refine blk_drewN ?_ _ | refine blk_drew ?_ | refine blk_alloc ?_ _)); exact BK256.out⟩, ⟨by repeat (first | (with_reducible first | exact HB.out | apply below_alloc | apply pw_below_drewN | apply below_drew1 | refine below_set ?_ GE256.out) | exact HB.out)⟩⟩
                                    · replace c50 := Bool.eq_false_iff.mpr c50
                                      subst c50
                                      have H1 : (packhorselaw14_SagaEnds.j6 kj44 l1 a2 x7_2 x8_2 x9_38 false false x257000_2 x257001_2 x257002_2) = some r := by rw [if_neg (show ¬ (false = true) by decide)] at H; exact H
                                      clear H
                                      have H := H1
                                      clear H1
                                      have H' := Aside0.mk H
                                      clear H
                                      go_wp2
                                      go_meet
                                      case rel => exact ⟨_, (false), (by first | rfl | (simp; done) | (simp [*]; done)), H', ⟨by have := HJ5.out; have := HK2.out; have := HJ21.out; have := HJ34.out; have := HJ38.out; have := HJ44.out; first | omega | exact Nat.le_refl _⟩, ⟨by (with_reducible repeat (first | refine blk_drewN ?_ _ | refine blk_drew ?_ | refine blk_alloc ?_ _)); exact BK256.out⟩, ⟨by repeat (first | (with_reducible first | exact HB.out | apply below_alloc | apply pw_below_drewN | apply below_drew1 | refine below_set ?_ GE256.out) | exact HB.out)⟩⟩
                                  case rest =>
                                    clear HC49
                                    try clear c1
                                    try clear c2
                                    try clear p2
                                    try clear q2
                                    try clear hx2
                                    try clear c3
                                    try clear c4
                                    try clear q4
                                    try clear c5
                                    try clear p6
                                    try clear c9
                                    try clear c9b0
                                    try clear c11
                                    try clear c11b0
                                    try clear c13
                                    try clear c13b0
                                    try clear c13b1
                                    try clear c14
                                    try clear c14b0
                                    try clear c16
                                    try clear c16b0
                                    try clear c20
                                    try clear c21
                                    try clear c21b0
                                    try clear c23
                                    try clear c23b0
                                    try clear c23b1
                                    try clear c25
                                    try clear c25b0
                                    try clear c25b1
                                    try clear p25
                                    try clear q25
                                    try clear hx25
                                    try clear c28
                                    try clear c29
                                    try clear c29b0
                                    try clear c30
                                    try clear c30b0
                                    try clear c30b1
                                    try clear c31
                                    try clear c31b0
                                    try clear c36
                                    try clear c36b0
                                    try clear c36b1
                                    try clear c40
                                    try clear c41
                                    try clear c41b0
                                    try clear c42
                                    try clear c42b0
                                    try clear q43
                                    try clear c44
                                    try clear c46
                                    try clear c46b0
                                    try clear c46b1
                                    try clear c50
                                    try clear hcz10_0
                                    try clear hcz10_1
                                    try clear hcz10_2
                                    try clear hcz12_0
                                    try clear hcz12_1
                                    try clear hcz12_2
                                    try clear hcz15_0
                                    try clear hcz15_1
                                    try clear hcz15_2
                                    try clear hcz17_0
                                    try clear hcz17_1
                                    try clear hcz17_2
                                    try clear hcz18_0
                                    try clear hcz18_1
                                    try clear hcz18_2
                                    try clear hcz19_0
                                    try clear hcz19_1
                                    try clear hcz19_2
                                    try clear hcz24_0
                                    try clear hcz24_1
                                    try clear hcz24_2
                                    try clear hcz26_0
                                    try clear hcz26_1
                                    try clear hcz26_2
                                    try clear hcz27_0
                                    try clear hcz27_1
                                    try clear hcz27_2
                                    try clear hcz32_0
                                    try clear hcz32_1
                                    try clear hcz32_2
                                    try clear hcz33_0
                                    try clear hcz33_1
                                    try clear hcz33_2
                                    try clear hcz34_0
                                    try clear hcz34_1
                                    try clear hcz34_2
                                    try clear hcz37_0
                                    try clear hcz37_1
                                    try clear hcz37_2
                                    try clear hcz38_0
                                    try clear hcz38_1
                                    try clear hcz38_2
                                    try clear hcz47_0
                                    try clear hcz47_1
                                    try clear hcz47_2
                                    try clear hcz48_0
                                    try clear hcz48_1
                                    try clear hcz48_2
                                    try clear hfz10_0
                                    try clear hfz10_1
                                    try clear hfz10_2
                                    try clear hfz12_0
                                    try clear hfz12_1
                                    try clear hfz12_2
                                    try clear hfz15_0
                                    try clear hfz15_1
                                    try clear hfz15_2
                                    try clear hfz17_0
                                    try clear hfz17_1
                                    try clear hfz17_2
                                    try clear hfz18_0
                                    try clear hfz18_1
                                    try clear hfz18_2
                                    try clear hfz19_0
                                    try clear hfz19_1
                                    try clear hfz19_2
                                    try clear hfz24_0
                                    try clear hfz24_1
                                    try clear hfz24_2
                                    try clear hfz26_0
                                    try clear hfz26_1
                                    try clear hfz26_2
                                    try clear hfz27_0
                                    try clear hfz27_1
                                    try clear hfz27_2
                                    try clear hfz32_0
                                    try clear hfz32_1
                                    try clear hfz32_2
                                    try clear hfz33_0
                                    try clear hfz33_1
                                    try clear hfz33_2
                                    try clear hfz34_0
                                    try clear hfz34_1
                                    try clear hfz34_2
                                    try clear hfz37_0
                                    try clear hfz37_1
                                    try clear hfz37_2
                                    try clear hfz38_0
                                    try clear hfz38_1
                                    try clear hfz38_2
                                    try clear hfz47_0
                                    try clear hfz47_1
                                    try clear hfz47_2
                                    try clear hfz48_0
                                    try clear hfz48_1
                                    try clear hfz48_2
                                    try clear hx258_0
                                    try clear p2
                                    try clear p25
                                    try clear p258
                                    try clear p6
                                    try clear q2
                                    try clear q25
                                    try clear q258
                                    try clear q4
                                    try clear q43
                                    obtain ⟨kq, x111_48, rfl, HA, HJ48, BK256, HB⟩ := hcut
                                    cases kq with
                                    | zero => exact absurd HA.out (by simp [packhorselaw14_SagaEnds.j6])
                                    | succ kj48 =>
                                      have H := HA.out
                                      clear HA
                                      simp only [packhorselaw14_SagaEnds.j6] at H
                                      have HC51 := Aside0.mk H
                                      clear H
                                      go_upto_if 111 with (fail)
                                      go_cut [7] (fun v7 wc => ∃ (kq : Nat) (x7_50 : Int), v7 = .int .i64 x7_50 ∧ Aside0 (packhorselaw14_SagaEnds.j7 kq l1 a2 x7_50 x8_2 x9_38 x10_44 x257000_2 x257001_2 x257002_2 = some r) ∧ Aside0 (kq ≤ kj48) ∧ Aside0 (wc.heap[gb256]? = some (.cells #[.int .i64 x257000_2, .bool x257001_2, .int .i64 x257002_2] 23 (0, 0))) ∧ Aside0 (Below w.heap.size w wc))
                                      case first =>
                                        have H := HC51.out
                                        clear HC51
                                        by_cases c52 : x111_48 = true
                                        · subst c52
                                          have H1 : (packhorselaw14_SagaEnds.j7 kj48 l1 a2 (wrap64 (x7_2 + 1)) x8_2 x9_38 x10_44 x257000_2 x257001_2 x257002_2) = some r := by rw [if_pos rfl] at H; exact H
                                          clear H
                                          have H := H1
                                          clear H1
                                          have H' := Aside0.mk H
                                          clear H
                                          go_wp2
                                          go_meet
                                          case rel => exact ⟨_, (wrap64 (x7_2 + 1)), (by first | rfl | (simp; done) | (simp [*]; done)), H', ⟨by have := HJ5.out; have := HK2.out; have := HJ21.out; have := HJ34.out; have := HJ38.out; have := HJ44.out; have := HJ48.out; first | omega | exact Nat.le_refl _⟩, ⟨by (with_reducible repeat (first | refine blk_drewN ?_ _ | refine blk_drew ?_ | refine blk_alloc ?_ _)); exact BK256.out⟩, ⟨by repeat (first | (with_reducible first | exact HB.out | apply below_alloc | apply pw_below_drewN | apply below_drew1 | refine below_set ?_ GE256.out) | exact HB.out)⟩⟩
                                        · replace c52 := Bool.eq_false_iff.mpr c52
                                          subst c52
                                          have H1 : (packhorselaw14_SagaEnds.j7 kj48 l1 a2 x7_2 x8_2 x9_38 x10_44 x257000_2 x257001_2 x257002_2) = some r := by rw [if_neg (show ¬ (false = true) by decide)] at H; exact H
                                          clear H
                                          have H := H1
                                          clear H1
                                          have H' := Aside0.mk H
                                          clear H
                                          go_wp2
                                          go_meet
                                          case rel => exact ⟨_, (x7_2), (by first | rfl | (simp; done) | (simp [*]; done)), H', ⟨by have := HJ5.out; have := HK2.out; have := HJ21.out; have := HJ34.out; have := HJ38.out; have := HJ44.out; have := HJ48.out; first | omega | exact Nat.le_refl _⟩, ⟨by (with_reducible repeat (first | refine blk_drewN ?_ _ | refine blk_drew ?_ | refine blk_alloc ?_ _)); exact BK256.out⟩, ⟨by repeat (first | (with_reducible first | exact HB.out | apply below_alloc | apply pw_below_drewN | apply below_drew1 | refine below_set ?_ GE256.out) | exact HB.out)⟩⟩
                                      case rest =>
                                        clear HC51
                                        try clear c1
                                        try clear c2
                                        try clear p2
                                        try clear q2
                                        try clear hx2
                                        try clear c3
                                        try clear c4
                                        try clear q4
                                        try clear c5
                                        try clear p6
                                        try clear c9
                                        try clear c9b0
                                        try clear c11
                                        try clear c11b0
                                        try clear c13
                                        try clear c13b0
                                        try clear c13b1
                                        try clear c14
                                        try clear c14b0
                                        try clear c16
                                        try clear c16b0
                                        try clear c20
                                        try clear c21
                                        try clear c21b0
                                        try clear c23
                                        try clear c23b0
                                        try clear c23b1
                                        try clear c25
                                        try clear c25b0
                                        try clear c25b1
                                        try clear p25
                                        try clear q25
                                        try clear hx25
                                        try clear c28
                                        try clear c29
                                        try clear c29b0
                                        try clear c30
                                        try clear c30b0
                                        try clear c30b1
                                        try clear c31
                                        try clear c31b0
                                        try clear c36
                                        try clear c36b0
                                        try clear c36b1
                                        try clear c40
                                        try clear c41
                                        try clear c41b0
                                        try clear c42
                                        try clear c42b0
                                        try clear q43
                                        try clear c44
                                        try clear c46
                                        try clear c46b0
                                        try clear c46b1
                                        try clear c50
                                        try clear c52
                                        try clear hcz10_0
                                        try clear hcz10_1
                                        try clear hcz10_2
                                        try clear hcz12_0
                                        try clear hcz12_1
                                        try clear hcz12_2
                                        try clear hcz15_0
                                        try clear hcz15_1
                                        try clear hcz15_2
                                        try clear hcz17_0
                                        try clear hcz17_1
                                        try clear hcz17_2
                                        try clear hcz18_0
                                        try clear hcz18_1
                                        try clear hcz18_2
                                        try clear hcz19_0
                                        try clear hcz19_1
                                        try clear hcz19_2
                                        try clear hcz24_0
                                        try clear hcz24_1
                                        try clear hcz24_2
                                        try clear hcz26_0
                                        try clear hcz26_1
                                        try clear hcz26_2
                                        try clear hcz27_0
                                        try clear hcz27_1
                                        try clear hcz27_2
                                        try clear hcz32_0
                                        try clear hcz32_1
                                        try clear hcz32_2
                                        try clear hcz33_0
                                        try clear hcz33_1
                                        try clear hcz33_2
                                        try clear hcz34_0
                                        try clear hcz34_1
                                        try clear hcz34_2
                                        try clear hcz37_0
                                        try clear hcz37_1
                                        try clear hcz37_2
                                        try clear hcz38_0
                                        try clear hcz38_1
                                        try clear hcz38_2
                                        try clear hcz47_0
                                        try clear hcz47_1
                                        try clear hcz47_2
                                        try clear hcz48_0
                                        try clear hcz48_1
                                        try clear hcz48_2
                                        try clear hfz10_0
                                        try clear hfz10_1
                                        try clear hfz10_2
                                        try clear hfz12_0
                                        try clear hfz12_1
                                        try clear hfz12_2
                                        try clear hfz15_0
                                        try clear hfz15_1
                                        try clear hfz15_2
                                        try clear hfz17_0
                                        try clear hfz17_1
                                        try clear hfz17_2
                                        try clear hfz18_0
                                        try clear hfz18_1
                                        try clear hfz18_2
                                        try clear hfz19_0
                                        try clear hfz19_1
                                        try clear hfz19_2
                                        try clear hfz24_0
                                        try clear hfz24_1
                                        try clear hfz24_2
                                        try clear hfz26_0
                                        try clear hfz26_1
                                        try clear hfz26_2
                                        try clear hfz27_0
                                        try clear hfz27_1
                                        try clear hfz27_2
                                        try clear hfz32_0
                                        try clear hfz32_1
                                        try clear hfz32_2
                                        try clear hfz33_0
                                        try clear hfz33_1
                                        try clear hfz33_2
                                        try clear hfz34_0
                                        try clear hfz34_1
                                        try clear hfz34_2
                                        try clear hfz37_0
                                        try clear hfz37_1
                                        try clear hfz37_2
                                        try clear hfz38_0
                                        try clear hfz38_1
                                        try clear hfz38_2
                                        try clear hfz47_0
                                        try clear hfz47_1
                                        try clear hfz47_2
                                        try clear hfz48_0
                                        try clear hfz48_1
                                        try clear hfz48_2
                                        try clear hx258_0
                                        try clear p2
                                        try clear p25
                                        try clear p258
                                        try clear p6
                                        try clear q2
                                        try clear q25
                                        try clear q258
                                        try clear q4
                                        try clear q43
                                        obtain ⟨kq, x7_50, rfl, HA, HJ50, BK256, HB⟩ := hcut
                                        cases kq with
                                        | zero => exact absurd HA.out (by simp [packhorselaw14_SagaEnds.j7])
                                        | succ kj50 =>
                                          have H := HA.out
                                          clear HA
                                          simp only [packhorselaw14_SagaEnds.j7] at H
                                          replace H := Option.bind_eq_some_iff.mp H
                                          obtain ⟨⟨t259, t260, t261, t262, t263⟩, A530, H⟩ := H
                                          replace H : (if t263 = 0 then (if x10_44 = true then (if x9_38 = 1 then (packhorselaw14_SagaEnds.l0 kj50 l1 a2 0 (wrap64 (x8_2 + 1)) t259 t260 t261) else (packhorselaw14_SagaEnds.l0 kj50 l1 a2 x7_50 (wrap64 (x8_2 + 1)) t259 t260 t261)) else (packhorselaw14_SagaEnds.l0 kj50 l1 a2 x7_50 (wrap64 (x8_2 + 1)) t259 t260 t261)) else (some false)) = some r := H
                                          have A53 := Aside0.mk A530
                                          clear A530
                                          by_cases c54 : t263 = 0
                                          · rw [if_pos c54] at H
                                            have c54b0 : (t263 == 0) = true := beq_iff_eq.mpr c54
                                            have c54b1 : (t263 != 0) = false := bne_eq_false_iff_eq.mpr c54
                                            clear c54
                                            by_cases c55 : x10_44 = true
                                            · subst c55
                                              have H1 : (if x9_38 = 1 then (packhorselaw14_SagaEnds.l0 kj50 l1 a2 0 (wrap64 (x8_2 + 1)) t259 t260 t261) else (packhorselaw14_SagaEnds.l0 kj50 l1 a2 x7_50 (wrap64 (x8_2 + 1)) t259 t260 t261)) = some r := by rw [if_pos rfl] at H; exact H
                                              clear H
                                              have H := H1
                                              clear H1
                                              by_cases c56 : x9_38 = 1
                                              · rw [if_pos c56] at H
                                                have c56b0 : (x9_38 == 1) = true := beq_iff_eq.mpr c56
                                                have c56b1 : (x9_38 != 1) = false := bne_eq_false_iff_eq.mpr c56
                                                clear c56
                                                have H' := Aside0.mk H
                                                clear H
                                                have hcz57_0 : wc.cell? ⟨gb256, 0, none⟩ = some (.int .i64 x257000_2) := (blk_cell BK256.out 0).trans rfl
                                                have hcz57_1 : wc.cell? ⟨gb256, 1, none⟩ = some (.bool x257001_2) := (blk_cell BK256.out 1).trans rfl
                                                have hcz57_2 : wc.cell? ⟨gb256, 2, none⟩ = some (.int .i64 x257002_2) := (blk_cell BK256.out 2).trans rfl
                                                have hfz57_0 := blk_frozen BK256.out 0
                                                have hfz57_1 := blk_frozen BK256.out 1
                                                have hfz57_2 := blk_frozen BK256.out 2
                                                go_wp2_with (first | ((with_reducible refine gate_callee (f := 10) rfl ?_); refine goesL_ (some 118) rfl rfl Try.func10 (by kernel_rfl) rfl #[.agg #[.int .i64 x257000_2, .bool x257001_2, .int .i64 x257002_2], .int .i64 x9_38, .int .i64 a2] rfl (by (try simp only [List.map_toArray, List.map_cons, List.map_nil]); first | done | rfl | (simp only [List.length_drop, List.length_take]; rfl)) ?_; (with_reducible refine (saga_Step.calls kj50 x257000_2 x257001_2 x257002_2 x9_38 a2 t259 t260 t261 t262 t263 _ A53.out).mono ?_); rintro e w58 ⟨rfl, hb⟩; refine ⟨_, rfl, ?_⟩; have n0_ := Aside0.mk (blk_below (g := gb256) (o := .cells #[.int .i64 x257000_2, .bool x257001_2, .int .i64 x257002_2] 23 (0, 0)) (by (with_reducible repeat (first | refine blk_drewN ?_ _ | refine blk_drew ?_ | refine blk_alloc ?_ _)); exact BK256.out) hb); have n1_ := Aside0.mk (below_step (by repeat (first | (with_reducible first | exact HB.out | apply below_alloc | apply pw_below_drewN | apply below_drew1 | refine below_set ?_ GE256.out) | exact HB.out)) hb); clear BK256; clear HB; have BK256 := n0_; have HB := n1_; clear n0_ n1_; (try clear hb); (try clear hb2); (try clear hk); (try clear hi)) | ((with_reducible refine gate_dst (N := 11) rfl ?_); (try (refine gate_guard (by rfl) ?_; dsimp only)); refine box_event ?hg (N := 11) ?hd (cs := #[.int .i64 0, .bool false, .int .i64 0]) (t := 23) ?hr ?_; (case hd => rfl); (case hg => rfl); (case hr => first | (go_simp; done) | (go_simp; rfl)); intro gb264 hg w59 hbox hb; have n0_ := Aside0.mk (blk_below (g := gb256) (o := .cells #[.int .i64 x257000_2, .bool x257001_2, .int .i64 x257002_2] 23 (0, 0)) (by (with_reducible repeat (first | refine blk_drewN ?_ _ | refine blk_drew ?_ | refine blk_alloc ?_ _)); exact BK256.out) hb); have n1_ := Aside0.mk (below_step (by repeat (first | (with_reducible first | exact HB.out | apply below_alloc | apply pw_below_drewN | apply below_drew1 | refine below_set ?_ GE256.out) | exact HB.out)) hb); have n2_ := Aside0.mk (hbox); have n3_ := Aside0.mk ((by rw [hg]; exact (below_size (by repeat (first | (with_reducible first | exact HB.out | apply below_alloc | apply pw_below_drewN | apply below_drew1 | refine below_set ?_ GE256.out) | exact HB.out))) : w.heap.size ≤ gb264)); have n4_ := Aside0.mk ((by rw [hg]; exact (below_size (by repeat (first | (with_reducible first | exact HB.out | apply below_alloc | apply pw_below_drewN | apply below_drew1 | refine below_set ?_ GE256.out) | exact HB.out))) : w.heap.size ≤ gb264)); have n5_ := Aside0.mk ((by rw [hg]; exact Nat.ne_of_lt (blk_lt (g := gb256) (o := .cells #[.int .i64 x257000_2, .bool x257001_2, .int .i64 x257002_2] 23 (0, 0)) (by (with_reducible repeat (first | refine blk_drewN ?_ _ | refine blk_drew ?_ | refine blk_alloc ?_ _)); exact BK256.out)) : gb256 ≠ gb264)); have n6_ := Aside0.mk ((by rw [hg]; exact Nat.ne_of_gt (blk_lt (g := gb256) (o := .cells #[.int .i64 x257000_2, .bool x257001_2, .int .i64 x257002_2] 23 (0, 0)) (by (with_reducible repeat (first | refine blk_drewN ?_ _ | refine blk_drew ?_ | refine blk_alloc ?_ _)); exact BK256.out)) : gb264 ≠ gb256)); clear BK256; clear HB; have BK256 := n0_; have HB := n1_; have BK264 := n2_; have GW264 := n3_; have GE264 := n4_; have NB256_264 := n5_; have NB264_256 := n6_; clear n0_ n1_ n2_ n3_ n4_ n5_ n6_; clear hb hbox hg; have hnb60 := NB264_256.out; have hnc60 := NB256_264.out; have hcz61_0 : w59.cell? ⟨gb264, 0, none⟩ = some (.int .i64 0) := (blk_cell BK264.out 0).trans rfl; have hcz61_1 : w59.cell? ⟨gb264, 1, none⟩ = some (.bool false) := (blk_cell BK264.out 1).trans rfl; have hcz61_2 : w59.cell? ⟨gb264, 2, none⟩ = some (.int .i64 0) := (blk_cell BK264.out 2).trans rfl; have hfz61_0 := blk_frozen BK264.out 0; have hfz61_1 := blk_frozen BK264.out 1; have hfz61_2 := blk_frozen BK264.out 2; have hcz62_0 : w59.cell? ⟨gb256, 0, none⟩ = some (.int .i64 x257000_2) := (blk_cell BK256.out 0).trans rfl; have hcz62_1 : w59.cell? ⟨gb256, 1, none⟩ = some (.bool x257001_2) := (blk_cell BK256.out 1).trans rfl; have hcz62_2 : w59.cell? ⟨gb256, 2, none⟩ = some (.int .i64 x257002_2) := (blk_cell BK256.out 2).trans rfl; have hfz62_0 := blk_frozen BK256.out 0; have hfz62_1 := blk_frozen BK256.out 1; have hfz62_2 := blk_frozen BK256.out 2))
                                                go_roundg kj50
                                                case measure => have := HJ5.out; have := HK2.out; have := HJ21.out; have := HJ34.out; have := HJ38.out; have := HJ44.out; have := HJ48.out; have := HJ50.out; omega
                                                case rel => exact ⟨(0), (wrap64 (x8_2 + 1)), (t259), (t260), (t261), (by first | rfl | (simp; done) | (simp [*]; done)), (by first | rfl | (simp; done) | (simp [*]; done)), H', ⟨by have := HJ5.out; have := HK2.out; have := HJ21.out; have := HJ34.out; have := HJ38.out; have := HJ44.out; have := HJ48.out; have := HJ50.out; omega⟩, ⟨by (with_reducible repeat (first | refine blk_drewN ?_ _ | refine blk_drew ?_ | refine blk_alloc ?_ _)); refine blk_put (cs := #[.int .i64 t259, .bool t260, .int .i64 x257002_2]) ?_ 2 _ rfl; (with_reducible repeat (first | refine blk_drewN ?_ _ | refine blk_drew ?_ | refine blk_alloc ?_ _)); refine blk_put (cs := #[.int .i64 t259, .bool x257001_2, .int .i64 x257002_2]) ?_ 1 _ rfl; (with_reducible repeat (first | refine blk_drewN ?_ _ | refine blk_drew ?_ | refine blk_alloc ?_ _)); refine blk_put (cs := #[.int .i64 x257000_2, .bool x257001_2, .int .i64 x257002_2]) ?_ 0 _ rfl; (with_reducible repeat (first | refine blk_drewN ?_ _ | refine blk_drew ?_ | refine blk_alloc ?_ _)); refine blk_far ?_ NB256_264.out _; (with_reducible repeat (first | refine blk_drewN ?_ _ | refine blk_drew ?_ | refine blk_alloc ?_ _)); refine blk_far ?_ NB256_264.out _; (with_reducible repeat (first | refine blk_drewN ?_ _ | refine blk_drew ?_ | refine blk_alloc ?_ _)); refine blk_far ?_ NB256_264.out _; (with_reducible repeat (first | refine blk_drewN ?_ _ | refine blk_drew ?_ | refine blk_alloc ?_ _)); exact BK256.out⟩, ⟨by repeat (first | (with_reducible first | exact HB.out | apply below_alloc | apply pw_below_drewN | apply below_drew1 | refine below_set ?_ GE256.out | refine below_set ?_ GE264.out) | exact HB.out)⟩⟩
                                              · rw [if_neg c56] at H
                                                have c56b0 : (x9_38 == 1) = false := beq_eq_false_iff_ne.mpr c56
                                                have c56b1 : (x9_38 != 1) = true := bne_iff_ne.mpr c56
                                                have H' := Aside0.mk H
                                                clear H
                                                have hcz63_0 : wc.cell? ⟨gb256, 0, none⟩ = some (.int .i64 x257000_2) := (blk_cell BK256.out 0).trans rfl
                                                have hcz63_1 : wc.cell? ⟨gb256, 1, none⟩ = some (.bool x257001_2) := (blk_cell BK256.out 1).trans rfl
                                                have hcz63_2 : wc.cell? ⟨gb256, 2, none⟩ = some (.int .i64 x257002_2) := (blk_cell BK256.out 2).trans rfl
                                                have hfz63_0 := blk_frozen BK256.out 0
                                                have hfz63_1 := blk_frozen BK256.out 1
                                                have hfz63_2 := blk_frozen BK256.out 2
                                                go_wp2_with (first | ((with_reducible refine gate_callee (f := 10) rfl ?_); refine goesL_ (some 118) rfl rfl Try.func10 (by kernel_rfl) rfl #[.agg #[.int .i64 x257000_2, .bool x257001_2, .int .i64 x257002_2], .int .i64 x9_38, .int .i64 a2] rfl (by (try simp only [List.map_toArray, List.map_cons, List.map_nil]); first | done | rfl | (simp only [List.length_drop, List.length_take]; rfl)) ?_; (with_reducible refine (saga_Step.calls kj50 x257000_2 x257001_2 x257002_2 x9_38 a2 t259 t260 t261 t262 t263 _ A53.out).mono ?_); rintro e w64 ⟨rfl, hb⟩; refine ⟨_, rfl, ?_⟩; have n0_ := Aside0.mk (blk_below (g := gb256) (o := .cells #[.int .i64 x257000_2, .bool x257001_2, .int .i64 x257002_2] 23 (0, 0)) (by (with_reducible repeat (first | refine blk_drewN ?_ _ | refine blk_drew ?_ | refine blk_alloc ?_ _)); exact BK256.out) hb); have n1_ := Aside0.mk (below_step (by repeat (first | (with_reducible first | exact HB.out | apply below_alloc | apply pw_below_drewN | apply below_drew1 | refine below_set ?_ GE256.out) | exact HB.out)) hb); clear BK256; clear HB; have BK256 := n0_; have HB := n1_; clear n0_ n1_; (try clear hb); (try clear hb2); (try clear hk); (try clear hi)) | ((with_reducible refine gate_dst (N := 11) rfl ?_); (try (refine gate_guard (by rfl) ?_; dsimp only)); refine box_event ?hg (N := 11) ?hd (cs := #[.int .i64 0, .bool false, .int .i64 0]) (t := 23) ?hr ?_; (case hd => rfl); (case hg => rfl); (case hr => first | (go_simp; done) | (go_simp; rfl)); intro gb264 hg w65 hbox hb; have n0_ := Aside0.mk (blk_below (g := gb256) (o := .cells #[.int .i64 x257000_2, .bool x257001_2, .int .i64 x257002_2] 23 (0, 0)) (by (with_reducible repeat (first | refine blk_drewN ?_ _ | refine blk_drew ?_ | refine blk_alloc ?_ _)); exact BK256.out) hb); have n1_ := Aside0.mk (below_step (by repeat (first | (with_reducible first | exact HB.out | apply below_alloc | apply pw_below_drewN | apply below_drew1 | refine below_set ?_ GE256.out) | exact HB.out)) hb); have n2_ := Aside0.mk (hbox); have n3_ := Aside0.mk ((by rw [hg]; exact (below_size (by repeat (first | (with_reducible first | exact HB.out | apply below_alloc | apply pw_below_drewN | apply below_drew1 | refine below_set ?_ GE256.out) | exact HB.out))) : w.heap.size ≤ gb264)); have n4_ := Aside0.mk ((by rw [hg]; exact (below_size (by repeat (first | (with_reducible first | exact HB.out | apply below_alloc | apply pw_below_drewN | apply below_drew1 | refine below_set ?_ GE256.out) | exact HB.out))) : w.heap.size ≤ gb264)); have n5_ := Aside0.mk ((by rw [hg]; exact Nat.ne_of_lt (blk_lt (g := gb256) (o := .cells #[.int .i64 x257000_2, .bool x257001_2, .int .i64 x257002_2] 23 (0, 0)) (by (with_reducible repeat (first | refine blk_drewN ?_ _ | refine blk_drew ?_ | refine blk_alloc ?_ _)); exact BK256.out)) : gb256 ≠ gb264)); have n6_ := Aside0.mk ((by rw [hg]; exact Nat.ne_of_gt (blk_lt (g := gb256) (o := .cells #[.int .i64 x257000_2, .bool x257001_2, .int .i64 x257002_2] 23 (0, 0)) (by (with_reducible repeat (first | refine blk_drewN ?_ _ | refine blk_drew ?_ | refine blk_alloc ?_ _)); exact BK256.out)) : gb264 ≠ gb256)); clear BK256; clear HB; have BK256 := n0_; have HB := n1_; have BK264 := n2_; have GW264 := n3_; have GE264 := n4_; have NB256_264 := n5_; have NB264_256 := n6_; clear n0_ n1_ n2_ n3_ n4_ n5_ n6_; clear hb hbox hg; have hnb66 := NB264_256.out; have hnc66 := NB256_264.out; have hcz67_0 : w65.cell? ⟨gb264, 0, none⟩ = some (.int .i64 0) := (blk_cell BK264.out 0).trans rfl; have hcz67_1 : w65.cell? ⟨gb264, 1, none⟩ = some (.bool false) := (blk_cell BK264.out 1).trans rfl; have hcz67_2 : w65.cell? ⟨gb264, 2, none⟩ = some (.int .i64 0) := (blk_cell BK264.out 2).trans rfl; have hfz67_0 := blk_frozen BK264.out 0; have hfz67_1 := blk_frozen BK264.out 1; have hfz67_2 := blk_frozen BK264.out 2; have hcz68_0 : w65.cell? ⟨gb256, 0, none⟩ = some (.int .i64 x257000_2) := (blk_cell BK256.out 0).trans rfl; have hcz68_1 : w65.cell? ⟨gb256, 1, none⟩ = some (.bool x257001_2) := (blk_cell BK256.out 1).trans rfl; have hcz68_2 : w65.cell? ⟨gb256, 2, none⟩ = some (.int .i64 x257002_2) := (blk_cell BK256.out 2).trans rfl; have hfz68_0 := blk_frozen BK256.out 0; have hfz68_1 := blk_frozen BK256.out 1; have hfz68_2 := blk_frozen BK256.out 2))
                                                go_roundg kj50
                                                case measure => have := HJ5.out; have := HK2.out; have := HJ21.out; have := HJ34.out; have := HJ38.out; have := HJ44.out; have := HJ48.out; have := HJ50.out; omega
                                                case rel => exact ⟨(x7_50), (wrap64 (x8_2 + 1)), (t259), (t260), (t261), (by first | rfl | (simp; done) | (simp [*]; done)), (by first | rfl | (simp; done) | (simp [*]; done)), H', ⟨by have := HJ5.out; have := HK2.out; have := HJ21.out; have := HJ34.out; have := HJ38.out; have := HJ44.out; have := HJ48.out; have := HJ50.out; omega⟩, ⟨by (with_reducible repeat (first | refine blk_drewN ?_ _ | refine blk_drew ?_ | refine blk_alloc ?_ _)); refine blk_put (cs := #[.int .i64 t259, .bool t260, .int .i64 x257002_2]) ?_ 2 _ rfl; (with_reducible repeat (first | refine blk_drewN ?_ _ | refine blk_drew ?_ | refine blk_alloc ?_ _)); refine blk_put (cs := #[.int .i64 t259, .bool x257001_2, .int .i64 x257002_2]) ?_ 1 _ rfl; (with_reducible repeat (first | refine blk_drewN ?_ _ | refine blk_drew ?_ | refine blk_alloc ?_ _)); refine blk_put (cs := #[.int .i64 x257000_2, .bool x257001_2, .int .i64 x257002_2]) ?_ 0 _ rfl; (with_reducible repeat (first | refine blk_drewN ?_ _ | refine blk_drew ?_ | refine blk_alloc ?_ _)); refine blk_far ?_ NB256_264.out _; (with_reducible repeat (first | refine blk_drewN ?_ _ | refine blk_drew ?_ | refine blk_alloc ?_ _)); refine blk_far ?_ NB256_264.out _; (with_reducible repeat (first | refine blk_drewN ?_ _ | refine blk_drew ?_ | refine blk_alloc ?_ _)); refine blk_far ?_ NB256_264.out _; (with_reducible repeat (first | refine blk_drewN ?_ _ | refine blk_drew ?_ | refine blk_alloc ?_ _)); exact BK256.out⟩, ⟨by repeat (first | (with_reducible first | exact HB.out | apply below_alloc | apply pw_below_drewN | apply below_drew1 | refine below_set ?_ GE256.out | refine below_set ?_ GE264.out) | exact HB.out)⟩⟩
                                            · replace c55 := Bool.eq_false_iff.mpr c55
                                              subst c55
                                              have H1 : (packhorselaw14_SagaEnds.l0 kj50 l1 a2 x7_50 (wrap64 (x8_2 + 1)) t259 t260 t261) = some r := by rw [if_neg (show ¬ (false = true) by decide)] at H; exact H
                                              clear H
                                              have H := H1
                                              clear H1
                                              have H' := Aside0.mk H
                                              clear H
                                              have hcz69_0 : wc.cell? ⟨gb256, 0, none⟩ = some (.int .i64 x257000_2) := (blk_cell BK256.out 0).trans rfl
                                              have hcz69_1 : wc.cell? ⟨gb256, 1, none⟩ = some (.bool x257001_2) := (blk_cell BK256.out 1).trans rfl
                                              have hcz69_2 : wc.cell? ⟨gb256, 2, none⟩ = some (.int .i64 x257002_2) := (blk_cell BK256.out 2).trans rfl
                                              have hfz69_0 := blk_frozen BK256.out 0
                                              have hfz69_1 := blk_frozen BK256.out 1
                                              have hfz69_2 := blk_frozen BK256.out 2
                                              go_wp2_with (first | ((with_reducible refine gate_callee (f := 10) rfl ?_); refine goesL_ (some 118) rfl rfl Try.func10 (by kernel_rfl) rfl #[.agg #[.int .i64 x257000_2, .bool x257001_2, .int .i64 x257002_2], .int .i64 x9_38, .int .i64 a2] rfl (by (try simp only [List.map_toArray, List.map_cons, List.map_nil]); first | done | rfl | (simp only [List.length_drop, List.length_take]; rfl)) ?_; (with_reducible refine (saga_Step.calls kj50 x257000_2 x257001_2 x257002_2 x9_38 a2 t259 t260 t261 t262 t263 _ A53.out).mono ?_); rintro e w70 ⟨rfl, hb⟩; refine ⟨_, rfl, ?_⟩; have n0_ := Aside0.mk (blk_below (g := gb256) (o := .cells #[.int .i64 x257000_2, .bool x257001_2, .int .i64 x257002_2] 23 (0, 0)) (by (with_reducible repeat (first | refine blk_drewN ?_ _ | refine blk_drew ?_ | refine blk_alloc ?_ _)); exact BK256.out) hb); have n1_ := Aside0.mk (below_step (by repeat (first | (with_reducible first | exact HB.out | apply below_alloc | apply pw_below_drewN | apply below_drew1 | refine below_set ?_ GE256.out) | exact HB.out)) hb); clear BK256; clear HB; have BK256 := n0_; have HB := n1_; clear n0_ n1_; (try clear hb); (try clear hb2); (try clear hk); (try clear hi)) | ((with_reducible refine gate_dst (N := 11) rfl ?_); (try (refine gate_guard (by rfl) ?_; dsimp only)); refine box_event ?hg (N := 11) ?hd (cs := #[.int .i64 0, .bool false, .int .i64 0]) (t := 23) ?hr ?_; (case hd => rfl); (case hg => rfl); (case hr => first | (go_simp; done) | (go_simp; rfl)); intro gb264 hg w71 hbox hb; have n0_ := Aside0.mk (blk_below (g := gb256) (o := .cells #[.int .i64 x257000_2, .bool x257001_2, .int .i64 x257002_2] 23 (0, 0)) (by (with_reducible repeat (first | refine blk_drewN ?_ _ | refine blk_drew ?_ | refine blk_alloc ?_ _)); exact BK256.out) hb); have n1_ := Aside0.mk (below_step (by repeat (first | (with_reducible first | exact HB.out | apply below_alloc | apply pw_below_drewN | apply below_drew1 | refine below_set ?_ GE256.out) | exact HB.out)) hb); have n2_ := Aside0.mk (hbox); have n3_ := Aside0.mk ((by rw [hg]; exact (below_size (by repeat (first | (with_reducible first | exact HB.out | apply below_alloc | apply pw_below_drewN | apply below_drew1 | refine below_set ?_ GE256.out) | exact HB.out))) : w.heap.size ≤ gb264)); have n4_ := Aside0.mk ((by rw [hg]; exact (below_size (by repeat (first | (with_reducible first | exact HB.out | apply below_alloc | apply pw_below_drewN | apply below_drew1 | refine below_set ?_ GE256.out) | exact HB.out))) : w.heap.size ≤ gb264)); have n5_ := Aside0.mk ((by rw [hg]; exact Nat.ne_of_lt (blk_lt (g := gb256) (o := .cells #[.int .i64 x257000_2, .bool x257001_2, .int .i64 x257002_2] 23 (0, 0)) (by (with_reducible repeat (first | refine blk_drewN ?_ _ | refine blk_drew ?_ | refine blk_alloc ?_ _)); exact BK256.out)) : gb256 ≠ gb264)); have n6_ := Aside0.mk ((by rw [hg]; exact Nat.ne_of_gt (blk_lt (g := gb256) (o := .cells #[.int .i64 x257000_2, .bool x257001_2, .int .i64 x257002_2] 23 (0, 0)) (by (with_reducible repeat (first | refine blk_drewN ?_ _ | refine blk_drew ?_ | refine blk_alloc ?_ _)); exact BK256.out)) : gb264 ≠ gb256)); clear BK256; clear HB; have BK256 := n0_; have HB := n1_; have BK264 := n2_; have GW264 := n3_; have GE264 := n4_; have NB256_264 := n5_; have NB264_256 := n6_; clear n0_ n1_ n2_ n3_ n4_ n5_ n6_; clear hb hbox hg; have hnb72 := NB264_256.out; have hnc72 := NB256_264.out; have hcz73_0 : w71.cell? ⟨gb264, 0, none⟩ = some (.int .i64 0) := (blk_cell BK264.out 0).trans rfl; have hcz73_1 : w71.cell? ⟨gb264, 1, none⟩ = some (.bool false) := (blk_cell BK264.out 1).trans rfl; have hcz73_2 : w71.cell? ⟨gb264, 2, none⟩ = some (.int .i64 0) := (blk_cell BK264.out 2).trans rfl; have hfz73_0 := blk_frozen BK264.out 0; have hfz73_1 := blk_frozen BK264.out 1; have hfz73_2 := blk_frozen BK264.out 2; have hcz74_0 : w71.cell? ⟨gb256, 0, none⟩ = some (.int .i64 x257000_2) := (blk_cell BK256.out 0).trans rfl; have hcz74_1 : w71.cell? ⟨gb256, 1, none⟩ = some (.bool x257001_2) := (blk_cell BK256.out 1).trans rfl; have hcz74_2 : w71.cell? ⟨gb256, 2, none⟩ = some (.int .i64 x257002_2) := (blk_cell BK256.out 2).trans rfl; have hfz74_0 := blk_frozen BK256.out 0; have hfz74_1 := blk_frozen BK256.out 1; have hfz74_2 := blk_frozen BK256.out 2))
                                              go_roundg kj50
                                              case measure => have := HJ5.out; have := HK2.out; have := HJ21.out; have := HJ34.out; have := HJ38.out; have := HJ44.out; have := HJ48.out; have := HJ50.out; omega
                                              case rel => exact ⟨(x7_50), (wrap64 (x8_2 + 1)), (t259), (t260), (t261), (by first | rfl | (simp; done) | (simp [*]; done)), (by first | rfl | (simp; done) | (simp [*]; done)), H', ⟨by have := HJ5.out; have := HK2.out; have := HJ21.out; have := HJ34.out; have := HJ38.out; have := HJ44.out; have := HJ48.out; have := HJ50.out; omega⟩, ⟨by (with_reducible repeat (first | refine blk_drewN ?_ _ | refine blk_drew ?_ | refine blk_alloc ?_ _)); refine blk_put (cs := #[.int .i64 t259, .bool t260, .int .i64 x257002_2]) ?_ 2 _ rfl; (with_reducible repeat (first | refine blk_drewN ?_ _ | refine blk_drew ?_ | refine blk_alloc ?_ _)); refine blk_put (cs := #[.int .i64 t259, .bool x257001_2, .int .i64 x257002_2]) ?_ 1 _ rfl; (with_reducible repeat (first | refine blk_drewN ?_ _ | refine blk_drew ?_ | refine blk_alloc ?_ _)); refine blk_put (cs := #[.int .i64 x257000_2, .bool x257001_2, .int .i64 x257002_2]) ?_ 0 _ rfl; (with_reducible repeat (first | refine blk_drewN ?_ _ | refine blk_drew ?_ | refine blk_alloc ?_ _)); refine blk_far ?_ NB256_264.out _; (with_reducible repeat (first | refine blk_drewN ?_ _ | refine blk_drew ?_ | refine blk_alloc ?_ _)); refine blk_far ?_ NB256_264.out _; (with_reducible repeat (first | refine blk_drewN ?_ _ | refine blk_drew ?_ | refine blk_alloc ?_ _)); refine blk_far ?_ NB256_264.out _; (with_reducible repeat (first | refine blk_drewN ?_ _ | refine blk_drew ?_ | refine blk_alloc ?_ _)); exact BK256.out⟩, ⟨by repeat (first | (with_reducible first | exact HB.out | apply below_alloc | apply pw_below_drewN | apply below_drew1 | refine below_set ?_ GE256.out | refine below_set ?_ GE264.out) | exact HB.out)⟩⟩
                                          · rw [if_neg c54] at H
                                            have c54b0 : (t263 == 0) = false := beq_eq_false_iff_ne.mpr c54
                                            have c54b1 : (t263 != 0) = true := bne_iff_ne.mpr c54
                                            obtain rfl := Option.some.inj H
                                            have hcz75_0 : wc.cell? ⟨gb256, 0, none⟩ = some (.int .i64 x257000_2) := (blk_cell BK256.out 0).trans rfl
                                            have hcz75_1 : wc.cell? ⟨gb256, 1, none⟩ = some (.bool x257001_2) := (blk_cell BK256.out 1).trans rfl
                                            have hcz75_2 : wc.cell? ⟨gb256, 2, none⟩ = some (.int .i64 x257002_2) := (blk_cell BK256.out 2).trans rfl
                                            have hfz75_0 := blk_frozen BK256.out 0
                                            have hfz75_1 := blk_frozen BK256.out 1
                                            have hfz75_2 := blk_frozen BK256.out 2
                                            go_wp2_with (first | ((with_reducible refine gate_callee (f := 10) rfl ?_); refine goesL_ (some 118) rfl rfl Try.func10 (by kernel_rfl) rfl #[.agg #[.int .i64 x257000_2, .bool x257001_2, .int .i64 x257002_2], .int .i64 x9_38, .int .i64 a2] rfl (by (try simp only [List.map_toArray, List.map_cons, List.map_nil]); first | done | rfl | (simp only [List.length_drop, List.length_take]; rfl)) ?_; (with_reducible refine (saga_Step.calls kj50 x257000_2 x257001_2 x257002_2 x9_38 a2 t259 t260 t261 t262 t263 _ A53.out).mono ?_); rintro e w76 ⟨rfl, hb⟩; refine ⟨_, rfl, ?_⟩; have n0_ := Aside0.mk (blk_below (g := gb256) (o := .cells #[.int .i64 x257000_2, .bool x257001_2, .int .i64 x257002_2] 23 (0, 0)) (by (with_reducible repeat (first | refine blk_drewN ?_ _ | refine blk_drew ?_ | refine blk_alloc ?_ _)); exact BK256.out) hb); have n1_ := Aside0.mk (below_step (by repeat (first | (with_reducible first | exact HB.out | apply below_alloc | apply pw_below_drewN | apply below_drew1 | refine below_set ?_ GE256.out) | exact HB.out)) hb); clear BK256; clear HB; have BK256 := n0_; have HB := n1_; clear n0_ n1_; (try clear hb); (try clear hb2); (try clear hk); (try clear hi)) | ((with_reducible refine gate_dst (N := 11) rfl ?_); (try (refine gate_guard (by rfl) ?_; dsimp only)); refine box_event ?hg (N := 11) ?hd (cs := #[.int .i64 0, .bool false, .int .i64 0]) (t := 23) ?hr ?_; (case hd => rfl); (case hg => rfl); (case hr => first | (go_simp; done) | (go_simp; rfl)); intro gb264 hg w77 hbox hb; have n0_ := Aside0.mk (blk_below (g := gb256) (o := .cells #[.int .i64 x257000_2, .bool x257001_2, .int .i64 x257002_2] 23 (0, 0)) (by (with_reducible repeat (first | refine blk_drewN ?_ _ | refine blk_drew ?_ | refine blk_alloc ?_ _)); exact BK256.out) hb); have n1_ := Aside0.mk (below_step (by repeat (first | (with_reducible first | exact HB.out | apply below_alloc | apply pw_below_drewN | apply below_drew1 | refine below_set ?_ GE256.out) | exact HB.out)) hb); have n2_ := Aside0.mk (hbox); have n3_ := Aside0.mk ((by rw [hg]; exact (below_size (by repeat (first | (with_reducible first | exact HB.out | apply below_alloc | apply pw_below_drewN | apply below_drew1 | refine below_set ?_ GE256.out) | exact HB.out))) : w.heap.size ≤ gb264)); have n4_ := Aside0.mk ((by rw [hg]; exact (below_size (by repeat (first | (with_reducible first | exact HB.out | apply below_alloc | apply pw_below_drewN | apply below_drew1 | refine below_set ?_ GE256.out) | exact HB.out))) : w.heap.size ≤ gb264)); have n5_ := Aside0.mk ((by rw [hg]; exact Nat.ne_of_lt (blk_lt (g := gb256) (o := .cells #[.int .i64 x257000_2, .bool x257001_2, .int .i64 x257002_2] 23 (0, 0)) (by (with_reducible repeat (first | refine blk_drewN ?_ _ | refine blk_drew ?_ | refine blk_alloc ?_ _)); exact BK256.out)) : gb256 ≠ gb264)); have n6_ := Aside0.mk ((by rw [hg]; exact Nat.ne_of_gt (blk_lt (g := gb256) (o := .cells #[.int .i64 x257000_2, .bool x257001_2, .int .i64 x257002_2] 23 (0, 0)) (by (with_reducible repeat (first | refine blk_drewN ?_ _ | refine blk_drew ?_ | refine blk_alloc ?_ _)); exact BK256.out)) : gb264 ≠ gb256)); clear BK256; clear HB; have BK256 := n0_; have HB := n1_; have BK264 := n2_; have GW264 := n3_; have GE264 := n4_; have NB256_264 := n5_; have NB264_256 := n6_; clear n0_ n1_ n2_ n3_ n4_ n5_ n6_; clear hb hbox hg; have hnb78 := NB264_256.out; have hnc78 := NB256_264.out; have hcz79_0 : w77.cell? ⟨gb264, 0, none⟩ = some (.int .i64 0) := (blk_cell BK264.out 0).trans rfl; have hcz79_1 : w77.cell? ⟨gb264, 1, none⟩ = some (.bool false) := (blk_cell BK264.out 1).trans rfl; have hcz79_2 : w77.cell? ⟨gb264, 2, none⟩ = some (.int .i64 0) := (blk_cell BK264.out 2).trans rfl; have hfz79_0 := blk_frozen BK264.out 0; have hfz79_1 := blk_frozen BK264.out 1; have hfz79_2 := blk_frozen BK264.out 2))
                                            go_ret
                                            exact ⟨by first | rfl | (simp [errW_none, errW_some] <;> rfl) | (simp [*, errW_none, errW_some] <;> rfl), by repeat (first | (with_reducible first | exact HB.out | apply below_alloc | apply pw_below_drewN | apply below_drew1 | refine below_set ?_ GE256.out | refine below_set ?_ GE264.out) | exact HB.out)⟩
              · rw [if_neg c21] at H
                have c21b0 : decide (x8_2 < 300) = false := decide_eq_false c21
                clear c21
                obtain rfl := Option.some.inj H
                go_wp2
                go_ret
                exact ⟨by first | rfl | (simp [errW_none, errW_some] <;> rfl) | (simp [*, errW_none, errW_some] <;> rfl), by repeat (first | (with_reducible first | exact HB.out | apply below_alloc | apply pw_below_drewN | apply below_drew1 | refine below_set ?_ GE256.out) | exact HB.out)⟩
  · replace c5 := Bool.eq_false_iff.mpr c5
    subst c5
    have H1 : (some false) = some r := by rw [if_neg (show ¬ (false = true) by decide)] at H; exact H
    clear H
    have H := H1
    clear H1
    obtain rfl := Option.some.inj H
    go_enter Try.func4, Try.ntmps4
    go_wp2_with (first | ((with_reducible refine gate_dst (N := 3) rfl ?_); (try (refine gate_guard (by rfl) ?_; dsimp only)); refine box_event ?hg (N := 3) ?hd (cs := #[.int .i64 a0_0, .bool a0_1, .int .i64 a0_2]) (t := 23) ?hr ?_; (case hd => rfl); (case hg => rfl); (case hr => first | (go_simp; done) | (go_simp; rfl)); intro gb256 hg w80 hbox hb; have n0_ := Aside0.mk (below_step (by repeat (first | (with_reducible first | exact HB.out | apply below_alloc | apply pw_below_drewN | apply below_drew1) | exact HB.out)) hb); have n1_ := Aside0.mk (hbox); have n2_ := Aside0.mk ((by rw [hg]; exact (below_size (by repeat (first | (with_reducible first | exact HB.out | apply below_alloc | apply pw_below_drewN | apply below_drew1) | exact HB.out))) : w.heap.size ≤ gb256)); have n3_ := Aside0.mk ((by rw [hg]; exact (below_size (by repeat (first | (with_reducible first | exact HB.out | apply below_alloc | apply pw_below_drewN | apply below_drew1) | exact HB.out))) : w.heap.size ≤ gb256)); clear HB; have HB := n0_; have BK256 := n1_; have GW256 := n2_; have GE256 := n3_; clear n0_ n1_ n2_ n3_; clear hb hbox hg) | ((with_reducible refine gate_callee (f := 9) rfl ?_); refine goesL_ (some 14) rfl rfl Try.func9 (by kernel_rfl) rfl #[] rfl (by (try simp only [List.map_toArray, List.map_cons, List.map_nil]); first | done | rfl | (simp only [List.length_drop, List.length_take]; rfl)) ?_; (with_reducible refine (packhorselaw14_sagaAlive.calls k  false _ A4.out).mono ?_); rintro e w81 ⟨rfl, hb⟩; refine ⟨_, rfl, ?_⟩; have n0_ := Aside0.mk (blk_below (g := gb256) (o := .cells #[.int .i64 a0_0, .bool a0_1, .int .i64 a0_2] 23 (0, 0)) (by (with_reducible repeat (first | refine blk_drewN ?_ _ | refine blk_drew ?_ | refine blk_alloc ?_ _)); exact BK256.out) hb); have n1_ := Aside0.mk (below_step (by repeat (first | (with_reducible first | exact HB.out | apply below_alloc | apply pw_below_drewN | apply below_drew1 | refine below_set ?_ GE256.out) | exact HB.out)) hb); clear BK256; clear HB; have BK256 := n0_; have HB := n1_; clear n0_ n1_; (try clear hb); (try clear hb2); (try clear hk); (try clear hi)))
    go_ret
    exact ⟨by first | rfl | (simp [errW_none, errW_some] <;> rfl) | (simp [*, errW_none, errW_some] <;> rfl), by repeat (first | (with_reducible first | exact HB.out | apply below_alloc | apply pw_below_drewN | apply below_drew1 | refine below_set ?_ GE256.out) | exact HB.out)⟩

end Go.Proofs.Ytcghipdlihpbcaa.PAll
