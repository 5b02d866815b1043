import Derived.Test.YtmcdbjcbfjnfoaaDoorRows
import Derived.Test.YtmcdbjcbfjnfoaaDoorQOrderTakesOps
import Derived.Test.YtmcdbjcbfjnfoaaDoorQOrderTakesPureOrderTakes
import Derived.WalkKit
import Derived.ProofKit
import Derived.OpenShut
import Derived.ShutString
import Derived.ChangeOld
import Derived.Below
import Derived.SizedLaws
import Derived.Lib.LaidIn
import Derived.Lib.LaidU8T
import Derived.Deep.DeepHandedRow
import Derived.Deep.DeepWitnessRowRef
import Derived.Test.YtmcdbjcbfjnfoaaDoorTie
import Derived.Test.YtmcdbjcbfjnfoaaDoorCards
import Derived.ChangeSlices
/- OrderTakes: the row of the law, out of its pure statement and the walk. For every input; no condition. Written by a program of this session (wip/gen/rowgen.py). -/
namespace Go.Proofs.YtmcdbjcbfjnfoaaDoor.orderTakes
open Go.ChangeShapes Go.WideShapes Go.ChangeAt Go.RowKit Go.Proofs.YtmcdbjcbfjnfoaaDoor.Opening Go.Proofs.YtmcdbjcbfjnfoaaDoorW.PrintWords Go.Proofs.YtmcdbjcbfjnfoaaDoor.PAll
open Go.ChangeMaps (open_string shut_string)
open Go.Shelf Go.Lib
set_option linter.unusedVariables false
set_option linter.unusedSimpArgs false
theorem own : ownKnob Tryd.prog.godebug = none := by kernel_rfl
theorem laidOut : laidOutB Tryd.prog = true := by kernel_rfl
/-- A start that fits: the settled world, the two tables as their initialisers lay them. -/
noncomputable def laidWorld (os : Os) : World :=
  let w0 := World.holding Tryd.prog os ⟨#[], #[], []⟩
  let put (h : Array Obj) (g : Nat) (cs : Array Value) : Array Obj := h.modify g fun
    | .cells _ t frozen => .cells cs t frozen
    | o => o
  let h1 := put w0.heap 0 (Lib.firstTab.map fun z => Value.int .u8 z).toArray
  let h2 := put h1 1 ((List.range 16).flatMap fun i => [Value.int .u8 (Lib.accLo i), Value.int .u8 (Lib.accHi i)]).toArray
  { w0 with heap := h2 }
theorem laid_met (os : Os) (args : Array Value) : laidMet Tryd.prog Rows.orderTakesRow.laid ((laidWorld os).forCall (fun _ _ => 0) ⟨#[], args, []⟩).memory :=
  (LaidIn.of_run (l := Rows.orderTakesRow.laid) [1, 0] 8 (by kernel_rfl) (by kernel_rfl) (by kernel_rfl) (by kernel_rfl)).met
set_option maxRecDepth 100000 in
theorem witness_row (os : Os) {H : Type} (enc : TypeId × Value → H) :
    (OpenSpec.ofChange Rows.orderTakesSpec).preRow enc Tryd.prog Tryd.f5 Rows.orderTakesRow.domain false Rows.orderTakesRow.laid ((laidWorld os).forCall (fun _ _ => 0) ⟨#[], #[(.slice none 0 0)], []⟩).memory #[(.slice none 0 0)] := by
  have hw : (DataW.whole enc Tryd.prog ((laidWorld os).forCall (fun _ _ => 0) ⟨#[], #[(.slice none 0 0)], []⟩).memory Tryd.f5.params.toList (OpenSpec.ofChange Rows.orderTakesSpec).vars false #[(.slice none 0 0)].toList 8).map (fun x => (x.1, x.2.1)) =
      some ([.nil], []) := by kernel_rfl
  obtain ⟨⟨x1, x2, x3⟩, hx, hx1⟩ := Option.map_eq_some_iff.1 hw
  simp only [Prod.mk.injEq] at hx1
  obtain ⟨rfl, rfl⟩ := hx1
  exact OpenSpec.preRow_of_cond 8 hx (by kernel_rfl) (fun k hk => by cases hk) (by kernel_rfl) (laid_met os _)
set_option maxRecDepth 100000 in
set_option maxHeartbeats 1000000 in
theorem lifted (os : Os) (started : os.Started) (H : Type) (enc : TypeId × Value → H) (F : Stop.Interp) :
    ReturnsInHanded {} Tryd.checked os 5 .any ((OpenSpec.ofChange Rows.orderTakesSpec).preRow enc Tryd.prog Tryd.f5 Rows.orderTakesRow.domain false Rows.orderTakesRow.laid) (((OpenSpec.ofChange Rows.orderTakesSpec).at F).post enc Tryd.prog Tryd.f5 false true false false) := by
  refine returnsInHanded_of_row (C := Tryd.checked) (s := (OpenSpec.ofChange Rows.orderTakesSpec)) own started (by kernel_rfl) Tryd.func5
    (witness_row_atRef (enc := enc) (C := Tryd.checked) false (laidWorld os) #[(.slice none 0 0)] rfl (by kernel_rfl) (by kernel_rfl) (by kernel_rfl) (witness_row os enc)) ?_
  intro W base args ds gs before hval0 hW hcnd _ hsz0 hL hSO _
  have hsz : (DataW.weightsEach Tryd.prog (Tryd.f5.params.toList ++ Rows.orderTakesSpec.plain.varTypes Tryd.prog) (ds ++ gs)).all (· ≤ reachBytes) = true := hsz0
  have hval : ∀ (j : Nat) t v, Tryd.f5.params[j]? = some t → args[j]? = some v → Value.okWide Tryd.prog W .any base t v := hval0
  have hW' := hW
  obtain ⟨p, q, hA0, hV, rfl, hfz, hnd⟩ := hW
  have hA : DataW.TrodAll enc Tryd.prog W 0 (fun _ => true) true Tryd.f5.params.toList args.toList ds p := hA0
  rw [Tryd.params5] at hA hval hsz
  obtain ⟨v0, vs0, d0, ds0, p0, q0, hargs, rfl, rfl, h0, r0⟩ := trodAll_cons hA
  obtain ⟨rfl, rfl, rfl⟩ := trodAll_nil r0
  obtain rfl : args = #[v0] := by cases args; simp_all
  obtain ⟨rfl, rfl⟩ := trodVars_none hV
  have k0 := h0
  have lt0 : ∀ x ∈ p0, x.block < W.heap.size := by obtain ⟨m, hm⟩ := k0; exact DataW.trod_lt m _ _ _ hm
  obtain ⟨l0, hx0, wl0⟩ := Opens.arg (opens_slice (B := 1) Tryd.underlying31 (by kernel_rfl) (by kernel_rfl) (opens_int Tryd.underlying5 (by kernel_rfl))) 0 hsz rfl rfl h0
  obtain ⟨av0, len0, cap0, rfl⟩ := okWide_slice Tryd.underlying31 (hval 0 31 v0 rfl rfl)
  obtain ⟨A0, c0, ex0, hc0, hr0⟩ := hx0
  simp only [Value.cells, List.cons.injEq, Value.slice.injEq, and_true] at ex0
  obtain ⟨rfl, rfl, rfl⟩ := ex0
  obtain ⟨k, h⟩ := Pure.OrderTakes l0 wl0
  have z1 : VarReads Tryd.prog W _ Rows.laid_unicode_utf8_first := Lib.laidMet.reads hL (.tail _ (.head _))
  have z2 : VarReads Tryd.prog W _ Rows.laid_unicode_utf8_acceptRanges := Lib.laidMet.reads hL (.head _)
  rw [show Rows.laid_unicode_utf8_first = Lib.firstData from by kernel_rfl] at z1
  rw [show (Rows.laid_unicode_utf8_acceptRanges : DataW Unit) = Lib.acceptData from by kernel_rfl] at z2
  have hT : Go.Proofs.YtmcdbjcbfjnfoaaDoor.PAll.Tabs W := utf8Tabs_of_readsT (U8Types.of196 Tryd.laysValid) ⟨by kernel_rfl, by kernel_rfl, by kernel_rfl, by kernel_rfl, by kernel_rfl, by kernel_rfl, by kernel_rfl⟩ z1 z2
  clear hA0 hval0 hsz0 hsz hL z1 z2
  refine (packhorselaw10_OrderTakes.calls k _ _ l0 true W hr0 hc0 hT h rfl).mono fun e W' ⟨he, bel0⟩ => ?_
  have bel : Below W.heap.size W W' := bel0
  subst he
  exact ⟨_, rfl, _, _, _, [], _, [], hW', trodAll_mk1 (shut_bool Tryd.underlying4 _), (trodAll_cons_mk (Below.trod laidOut (by kernel_rfl) (of_decide_eq_true (by kernel_rfl)) k0 bel lt0) trodAll_mk0), rfl, bel.frame _, fun h => by cases h⟩
theorem over : Rows.orderTakesRow.holds Tryd.pinned (OpenSpec.ofChange Rows.orderTakesSpec) :=
  OpenClaim.holds_of_cond 5 Tryd.f5 rfl rfl rfl rfl rfl rfl rfl ⟨rfl, rfl, rfl, rfl, rfl⟩ rfl rfl rfl rfl rfl (by kernel_rfl) Tryd.func5 (by kernel_rfl)
    (of_decide_eq_true (by kernel_rfl)) (by unfold Func.isWrapper; first | (rw [if_pos (by decide +kernel)]; kernel_rfl) | (rw [if_neg (by decide +kernel)]; exact ⟨rfl, rfl⟩))
    (fun os started H enc _ F0 => by rw [OpenClaim.pre_eq_preRow]; exact lifted os started H enc F0)
theorem proved : Rows.OrderTakesCardSaid :=
  Claim7.holds_tied_plain_at .later [] [.data, .pinned] true (true, "e05e75f9bbf463ca87130c10d317228c409e0d183294adc32ceb470413ae0a91") false over (fun _ h => by cases h) (by kernel_rfl) (fun _ h => by cases h) orderTakes_row_tie rfl ⟨rfl, rfl⟩ (by kernel_rfl) rfl
    (fun f fn hf hfn => by
      obtain rfl : f = 5 := Option.some.inj ((show Tryd.prog.funcNamed Tryd.f5.name = some 5 by kernel_rfl).symm.trans hf) |>.symm
      obtain rfl : fn = Tryd.f5 := (Option.some.inj (Tryd.func5.symm.trans hfn)).symm
      exact ⟨by kernel_rfl, fun j t ht => by
        have hall : (Tryd.f5.params.toList.all fun t => !Tryd.prog.wantsStandIn t) = true := by kernel_rfl
        have hm : t ∈ Tryd.f5.params.toList := by rw [← Array.getElem?_toList] at ht; exact List.mem_of_getElem? ht
        exact (Bool.not_eq_true' _).mp (List.all_eq_true.1 hall t hm)⟩)
    (by kernel_rfl)
#print axioms proved
end Go.Proofs.YtmcdbjcbfjnfoaaDoor.orderTakes
namespace Go.Proofs.YtmcdbjcbfjnfoaaDoor
/-- The row, under a short name, for the claim. -/
theorem orderTakes_holds : Rows.OrderTakesCardSaid := orderTakes.proved
end Go.Proofs.YtmcdbjcbfjnfoaaDoor
