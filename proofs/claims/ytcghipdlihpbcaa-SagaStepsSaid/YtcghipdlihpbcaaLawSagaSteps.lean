/- SagaSteps: the row of the law, out of its pure statement and the walk. For every input; no condition. Written by a program of this session (wip/gen/rowgen.py). -/
import Derived.Test.YtcghipdlihpbcaaRows
import Derived.Test.YtcghipdlihpbcaaOps
import Derived.Test.YtcghipdlihpbcaaPureSagaSteps
import Derived.WalkKit
import Derived.ProofKit
import Derived.OpenShut
import Derived.ShutString
import Derived.ChangeOld
import Derived.Below
import Derived.SizedLaws
import Derived.Test.YtcghipdlihpbcaaWSized
namespace Go.Proofs.Ytcghipdlihpbcaa.sagaSteps
open Go.ChangeShapes Go.WideShapes Go.ChangeAt Go.RowKit Go.Proofs.Ytcghipdlihpbcaa.Opening Go.Proofs.YtcghipdlihpbcaaW.PrintWords Go.Proofs.Ytcghipdlihpbcaa.PAll
open Go.ChangeMaps (open_string shut_string)
set_option linter.unusedVariables false
set_option linter.unusedSimpArgs false
theorem own : ownKnob Try.prog.godebug = none := by kernel_rfl
theorem laidOut : laidOutB Try.prog = true := by kernel_rfl
set_option maxRecDepth 100000 in
set_option maxHeartbeats 1000000 in
theorem lifted (os : Os) (started : os.Started) (H : Type) (enc : TypeId × Value → H) :
    ReturnsInHanded {} Try.checked os 3 .any (Rows.sagaStepsSpec.pre6 enc Try.prog Try.f3 Rows.sagaStepsRow.domain false) (Rows.sagaStepsSpec.post enc Try.prog Try.f3 false true false false) := by
  refine returnsInHanded_of_change_sized (C := Try.checked) own started (by kernel_rfl) Try.func3
    (ChangeSpec.witness6 (enc := enc) (C := Try.checked) false ⟨#[], #[(.agg #[(.int .i64 0), (.bool false), (.int .i64 0)]), (.int .i64 0), (.int .i64 0)], []⟩ 8 (by kernel_rfl) (by kernel_rfl) (by kernel_rfl) (by kernel_rfl)) ?_
  intro W base args ds gs before hval0 hW hcnd hsz0 _
  have hsz : (DataW.weightsEach Try.prog (Try.f3.params.toList ++ Rows.sagaStepsSpec.plain.varTypes Try.prog) (ds ++ gs)).all (· ≤ reachBytes) = true := hsz0
  have hval : ∀ (j : Nat) t v, Try.f3.params[j]? = some t → args[j]? = some v → Value.okWide Try.prog W .any base t v := hval0
  have hW' := hW
  obtain ⟨p, q, hA0, hV, rfl, hfz, hnd⟩ := hW
  have hA : DataW.TrodAll enc Try.prog W 0 (fun _ => true) true Try.f3.params.toList args.toList ds p := hA0
  rw [Try.params3] at hA hval hsz
  obtain ⟨v0, vs0, d0, ds0, p0, q0, hargs, rfl, rfl, h0, r0⟩ := trodAll_cons hA
  obtain ⟨v1, vs1, d1, ds1, p1, q1, rfl, rfl, rfl, h1, r1⟩ := trodAll_cons r0
  obtain ⟨v2, vs2, d2, ds2, p2, q2, rfl, rfl, rfl, h2, r2⟩ := trodAll_cons r1
  obtain ⟨rfl, rfl, rfl⟩ := trodAll_nil r2
  obtain rfl : args = #[v0, v1, v2] := by cases args; simp_all
  obtain ⟨rfl, rfl⟩ := trodVars_none hV
  have k0 := h0
  have lt0 : ∀ x ∈ p0, x.block < W.heap.size := by obtain ⟨m, hm⟩ := k0; exact DataW.trod_lt m _ _ _ hm
  obtain ⟨x0, hx0, ok0⟩ := Opens.arg (opens_struct (f := id) (g := id) Try.underlying23 (by kernel_rfl) (fun _ => rfl) (opensF_cons (by kernel_rfl) (opens_int Try.underlying3 (by kernel_rfl)) (opensF_cons (by kernel_rfl) (opens_bool Try.underlying4 (by kernel_rfl)) (opensF_one (by kernel_rfl) (opens_int Try.underlying3 (by kernel_rfl)))))) 0 hsz rfl rfl h0
  obtain ⟨cs0, rfl, _⟩ := okWide_struct Try.underlying23 (hval 0 23 v0 rfl rfl)
  obtain ⟨a0_0, a0_1, a0_2⟩ := x0
  obtain ⟨cs0⟩ := cs0
  simp only [Kd.iso, Kd.pair, Kd.int, Kd.bool, Kd.string, Kd.scalar, Kd.slice, id] at hx0
  obtain ⟨_, _, rfl, rfl, ⟨_, _, rfl, rfl, rfl⟩⟩ := hx0
  obtain ⟨w0_0, w0_1, w0_2⟩ := ok0
  obtain ⟨a1, rfl, rfl, rfl, w1⟩ := open_int Try.underlying3 (hval 1 3 v1 rfl rfl) h1
  obtain ⟨a2, rfl, rfl, rfl, w2⟩ := open_int Try.underlying3 (hval 2 3 v2 rfl rfl) h2
  obtain ⟨k, h⟩ := Pure.SagaSteps a0_0 a0_1 a0_2 a1 a2 w0_0 w0_2 w1 w2
  clear hA0 hval0 hsz0 hsz
  refine (packhorselaw14_SagaSteps.calls k a0_0 a0_1 a0_2 a1 a2 true W   h rfl).mono fun e W' ⟨he, bel0⟩ => ?_
  have bel : Below W.heap.size W W' := bel0
  subst he
  exact ⟨_, rfl, _, _, _, [], _, [], hW', trodAll_mk1 (shut_bool Try.underlying4 _), (trodAll_cons_mk (Below.trod laidOut (by kernel_rfl) (of_decide_eq_true (by kernel_rfl)) k0 bel lt0) (trodAll_cons_mk (shut_int Try.underlying3 w1) (trodAll_cons_mk (shut_int Try.underlying3 w2) trodAll_mk0))), rfl, bel.frame _, fun h => by cases h⟩
theorem over : Rows.sagaStepsRow.holds Try.pinned (OpenSpec.ofChange Rows.sagaStepsSpec) :=
  OpenClaim.holds_of_wide 3 Try.f3 rfl rfl rfl rfl rfl rfl rfl ⟨rfl, rfl, rfl, rfl, rfl⟩ rfl rfl rfl rfl rfl (by kernel_rfl) Try.func3 (by kernel_rfl)
    (of_decide_eq_true (by kernel_rfl)) (by unfold Func.isWrapper; first | (rw [if_pos (by decide +kernel)]; kernel_rfl) | (rw [if_neg (by decide +kernel)]; exact ⟨rfl, rfl⟩))
    (fun os started H enc _ => lifted os started H enc)
theorem proved : Rows.SagaStepsSaid := over
#print axioms proved
end Go.Proofs.Ytcghipdlihpbcaa.sagaSteps
namespace Go.Proofs.Ytcghipdlihpbcaa
/-- The row, under a short name, for the claim. -/
theorem sagaSteps_holds : Rows.SagaStepsSaid := sagaSteps.proved
end Go.Proofs.Ytcghipdlihpbcaa
