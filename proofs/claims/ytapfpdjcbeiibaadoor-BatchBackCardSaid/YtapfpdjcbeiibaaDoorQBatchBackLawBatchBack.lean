import Derived.Test.YtapfpdjcbeiibaaDoorRows
import Derived.Test.YtapfpdjcbeiibaaDoorQBatchBackOps
import Derived.Test.YtapfpdjcbeiibaaDoorQBatchBackPureBatchBack
import Derived.WalkKit
import Derived.ProofKit
import Derived.OpenShut
import Derived.ShutString
import Derived.ChangeOld
import Derived.Below
import Derived.SizedLaws
import Derived.Lib.LaidIn
import Derived.Lib.LaidU8T
import Derived.Deep.DeepHandedRow
import Derived.Deep.DeepWitnessRowRef
import Derived.Test.YtapfpdjcbeiibaaDoorTie
import Derived.Test.YtapfpdjcbeiibaaDoorCards
import Derived.ChangeSlices
/- BatchBack: the row of the law, out of its pure statement and the walk. For every input; no condition. Written by a program of this session (wip/gen/rowgen.py). -/
namespace Go.Proofs.YtapfpdjcbeiibaaDoor.batchBack
open Go.ChangeShapes Go.WideShapes Go.ChangeAt Go.RowKit Go.Proofs.YtapfpdjcbeiibaaDoor.Opening Go.Proofs.YtapfpdjcbeiibaaDoorW.PrintWords Go.Proofs.YtapfpdjcbeiibaaDoor.PAll
open Go.ChangeMaps (open_string shut_string)
open Go.Shelf Go.Lib
set_option linter.unusedVariables false
set_option linter.unusedSimpArgs false
theorem own : ownKnob Tryd.prog.godebug = none := by kernel_rfl
theorem laidOut : laidOutB Tryd.prog = true := by kernel_rfl
/-- A start that fits: the settled world, the two tables as their initialisers lay them. -/
noncomputable def laidWorld (os : Os) : World :=
  let w0 := World.holding Tryd.prog os ⟨#[], #[], []⟩
  let put (h : Array Obj) (g : Nat) (cs : Array Value) : Array Obj := h.modify g fun
    | .cells _ t frozen => .cells cs t frozen
    | o => o
  let h1 := put w0.heap 0 (Lib.firstTab.map fun z => Value.int .u8 z).toArray
  let h2 := put h1 1 ((List.range 16).flatMap fun i => [Value.int .u8 (Lib.accLo i), Value.int .u8 (Lib.accHi i)]).toArray
  { w0 with heap := h2 }
theorem laid_met (os : Os) (args : Array Value) : laidMet Tryd.prog Rows.batchBackRow.laid ((laidWorld os).forCall (fun _ _ => 0) ⟨#[], args, []⟩).memory :=
  (LaidIn.of_run (l := Rows.batchBackRow.laid) [1, 0] 8 (by kernel_rfl) (by kernel_rfl) (by kernel_rfl) (by kernel_rfl)).met
set_option maxRecDepth 100000 in
theorem witness_row (os : Os) {H : Type} (enc : TypeId × Value → H) :
    (OpenSpec.ofChange Rows.batchBackSpec).preRow enc Tryd.prog Tryd.f7 Rows.batchBackRow.domain false Rows.batchBackRow.laid ((laidWorld os).forCall (fun _ _ => 0) ⟨#[], #[(.agg #[(.int .i64 0), (.int .i64 0), (.int .i64 0), (.int .i64 0), (.int .i64 0), (.string ⟨#[]⟩), (.string ⟨#[]⟩), (.string ⟨#[]⟩), (.slice none 0 0)]), (.agg #[(.int .i64 0), (.int .i64 0)]), (.agg #[(.int .i64 0), (.string ⟨#[]⟩), (.int .i64 0), (.int .i64 0), (.string ⟨#[]⟩), (.int .i64 0)])], []⟩).memory #[(.agg #[(.int .i64 0), (.int .i64 0), (.int .i64 0), (.int .i64 0), (.int .i64 0), (.string ⟨#[]⟩), (.string ⟨#[]⟩), (.string ⟨#[]⟩), (.slice none 0 0)]), (.agg #[(.int .i64 0), (.int .i64 0)]), (.agg #[(.int .i64 0), (.string ⟨#[]⟩), (.int .i64 0), (.int .i64 0), (.string ⟨#[]⟩), (.int .i64 0)])] := by
  have hw : (DataW.whole enc Tryd.prog ((laidWorld os).forCall (fun _ _ => 0) ⟨#[], #[(.agg #[(.int .i64 0), (.int .i64 0), (.int .i64 0), (.int .i64 0), (.int .i64 0), (.string ⟨#[]⟩), (.string ⟨#[]⟩), (.string ⟨#[]⟩), (.slice none 0 0)]), (.agg #[(.int .i64 0), (.int .i64 0)]), (.agg #[(.int .i64 0), (.string ⟨#[]⟩), (.int .i64 0), (.int .i64 0), (.string ⟨#[]⟩), (.int .i64 0)])], []⟩).memory Tryd.f7.params.toList (OpenSpec.ofChange Rows.batchBackSpec).vars false #[(.agg #[(.int .i64 0), (.int .i64 0), (.int .i64 0), (.int .i64 0), (.int .i64 0), (.string ⟨#[]⟩), (.string ⟨#[]⟩), (.string ⟨#[]⟩), (.slice none 0 0)]), (.agg #[(.int .i64 0), (.int .i64 0)]), (.agg #[(.int .i64 0), (.string ⟨#[]⟩), (.int .i64 0), (.int .i64 0), (.string ⟨#[]⟩), (.int .i64 0)])].toList 8).map (fun x => (x.1, x.2.1)) =
      some ([(.agg [(.lit (.int .i64 0)), (.lit (.int .i64 0)), (.lit (.int .i64 0)), (.lit (.int .i64 0)), (.lit (.int .i64 0)), (.agg [(.lit (.string [])), (.lit (.string [])), (.lit (.string []))]), .nil]), (.agg [(.lit (.int .i64 0)), (.lit (.int .i64 0))]), (.agg [(.agg [(.lit (.int .i64 0)), (.lit (.string [])), (.lit (.int .i64 0))]), (.agg [(.lit (.int .i64 0)), (.lit (.string [])), (.lit (.int .i64 0))])])], []) := by kernel_rfl
  obtain ⟨⟨x1, x2, x3⟩, hx, hx1⟩ := Option.map_eq_some_iff.1 hw
  simp only [Prod.mk.injEq] at hx1
  obtain ⟨rfl, rfl⟩ := hx1
  exact OpenSpec.preRow_of_cond 8 hx (by kernel_rfl) (fun k hk => by cases hk) (by kernel_rfl) (laid_met os _)
set_option maxRecDepth 100000 in
set_option maxHeartbeats 1000000 in
theorem lifted (os : Os) (started : os.Started) (H : Type) (enc : TypeId × Value → H) (F : Stop.Interp) :
    ReturnsInHanded {} Tryd.checked os 7 .any ((OpenSpec.ofChange Rows.batchBackSpec).preRow enc Tryd.prog Tryd.f7 Rows.batchBackRow.domain false Rows.batchBackRow.laid) (((OpenSpec.ofChange Rows.batchBackSpec).at F).post enc Tryd.prog Tryd.f7 false true false false) := by
  refine returnsInHanded_of_row (C := Tryd.checked) (s := (OpenSpec.ofChange Rows.batchBackSpec)) own started (by kernel_rfl) Tryd.func7
    (witness_row_atRef (enc := enc) (C := Tryd.checked) false (laidWorld os) #[(.agg #[(.int .i64 0), (.int .i64 0), (.int .i64 0), (.int .i64 0), (.int .i64 0), (.string ⟨#[]⟩), (.string ⟨#[]⟩), (.string ⟨#[]⟩), (.slice none 0 0)]), (.agg #[(.int .i64 0), (.int .i64 0)]), (.agg #[(.int .i64 0), (.string ⟨#[]⟩), (.int .i64 0), (.int .i64 0), (.string ⟨#[]⟩), (.int .i64 0)])] rfl (by kernel_rfl) (by kernel_rfl) (by kernel_rfl) (witness_row os enc)) ?_
  intro W base args ds gs before hval0 hW hcnd _ hsz0 hL hSO _
  have hsz : (DataW.weightsEach Tryd.prog (Tryd.f7.params.toList ++ Rows.batchBackSpec.plain.varTypes Tryd.prog) (ds ++ gs)).all (· ≤ reachBytes) = true := hsz0
  have hval : ∀ (j : Nat) t v, Tryd.f7.params[j]? = some t → args[j]? = some v → Value.okWide Tryd.prog W .any base t v := hval0
  have hW' := hW
  obtain ⟨p, q, hA0, hV, rfl, hfz, hnd⟩ := hW
  have hA : DataW.TrodAll enc Tryd.prog W 0 (fun _ => true) true Tryd.f7.params.toList args.toList ds p := hA0
  rw [Tryd.params7] at hA hval hsz
  obtain ⟨v0, vs0, d0, ds0, p0, q0, hargs, rfl, rfl, h0, r0⟩ := trodAll_cons hA
  obtain ⟨v1, vs1, d1, ds1, p1, q1, rfl, rfl, rfl, h1, r1⟩ := trodAll_cons r0
  obtain ⟨v2, vs2, d2, ds2, p2, q2, rfl, rfl, rfl, h2, r2⟩ := trodAll_cons r1
  obtain ⟨rfl, rfl, rfl⟩ := trodAll_nil r2
  obtain rfl : args = #[v0, v1, v2] := by cases args; simp_all
  obtain ⟨rfl, rfl⟩ := trodVars_none hV
  have k0 := h0
  have lt0 : ∀ x ∈ p0, x.block < W.heap.size := by obtain ⟨m, hm⟩ := k0; exact DataW.trod_lt m _ _ _ hm
  obtain ⟨x0, hx0, ok0⟩ := Opens.arg (opens_struct (f := id) (g := id) Tryd.underlying31 (by kernel_rfl) (fun _ => rfl) (opensF_cons (by kernel_rfl) (opens_int Tryd.underlying2 (by kernel_rfl)) (opensF_cons (by kernel_rfl) (opens_int Tryd.underlying2 (by kernel_rfl)) (opensF_cons (by kernel_rfl) (opens_int Tryd.underlying2 (by kernel_rfl)) (opensF_cons (by kernel_rfl) (opens_int Tryd.underlying3 (by kernel_rfl)) (opensF_cons (by kernel_rfl) (opens_int Tryd.underlying3 (by kernel_rfl)) (opensF_cons (by kernel_rfl) (opens_struct (f := id) (g := id) Tryd.underlying28 (by kernel_rfl) (fun _ => rfl) (opensF_cons (by kernel_rfl) (opens_string Tryd.underlying9 (by kernel_rfl)) (opensF_cons (by kernel_rfl) (opens_string Tryd.underlying9 (by kernel_rfl)) (opensF_one (by kernel_rfl) (opens_string Tryd.underlying9 (by kernel_rfl)))))) (opensF_one (by kernel_rfl) (opens_slice (B := 16) Tryd.underlying29 (by kernel_rfl) (by kernel_rfl) (opens_string Tryd.underlying9 (by kernel_rfl))))))))))) 0 hsz rfl rfl h0
  obtain ⟨cs0, rfl, _⟩ := okWide_struct Tryd.underlying31 (hval 0 31 v0 rfl rfl)
  obtain ⟨a0_0, a0_1, a0_2, a0_3, a0_4, ⟨a0_5, a0_6, a0_7⟩, l0_8⟩ := x0
  obtain ⟨cs0⟩ := cs0
  simp only [Kd.iso, Kd.pair, Kd.int, Kd.bool, Kd.string, Kd.scalar, Kd.slice, id] at hx0
  obtain ⟨_, _, rfl, rfl, ⟨_, _, rfl, rfl, ⟨_, _, rfl, rfl, ⟨_, _, rfl, rfl, ⟨_, _, rfl, rfl, ⟨_, _, rfl, ⟨_, _, rfl, rfl, ⟨_, _, rfl, rfl, rfl⟩⟩, ⟨A0_8, c0_8, rfl, hc0_8, hr0_8⟩⟩⟩⟩⟩⟩⟩ := hx0
  obtain ⟨w0_0, w0_1, w0_2, w0_3, w0_4, ⟨w0_5, w0_6, w0_7⟩, w0_8⟩ := ok0
  have k1 := h1
  have lt1 : ∀ x ∈ p1, x.block < W.heap.size := by obtain ⟨m, hm⟩ := k1; exact DataW.trod_lt m _ _ _ hm
  obtain ⟨x1, hx1, ok1⟩ := Opens.arg (opens_struct (f := id) (g := id) Tryd.underlying23 (by kernel_rfl) (fun _ => rfl) (opensF_cons (by kernel_rfl) (opens_int Tryd.underlying3 (by kernel_rfl)) (opensF_one (by kernel_rfl) (opens_int Tryd.underlying2 (by kernel_rfl))))) 1 hsz rfl rfl h1
  obtain ⟨cs1, rfl, _⟩ := okWide_struct Tryd.underlying23 (hval 1 23 v1 rfl rfl)
  obtain ⟨a1_0, a1_1⟩ := x1
  obtain ⟨cs1⟩ := cs1
  simp only [Kd.iso, Kd.pair, Kd.int, Kd.bool, Kd.string, Kd.scalar, Kd.slice, id] at hx1
  obtain ⟨_, _, rfl, rfl, rfl⟩ := hx1
  obtain ⟨w1_0, w1_1⟩ := ok1
  have k2 := h2
  have lt2 : ∀ x ∈ p2, x.block < W.heap.size := by obtain ⟨m, hm⟩ := k2; exact DataW.trod_lt m _ _ _ hm
  obtain ⟨x2, hx2, ok2⟩ := Opens.arg (opens_array2 (f := id) (g := id) (fs := [{ name := "e0", type := 34, offset := 0, embedded := false, tag := "", pkgPath := "", byteOffset := 0 }, { name := "e1", type := 34, offset := 3, embedded := false, tag := "", pkgPath := "", byteOffset := 0 }]) Tryd.underlying50 (by kernel_rfl) (fun _ => rfl) (by intro fd hfd; rcases List.mem_cons.1 hfd with rfl | hfd; exact ⟨0, by decide, rfl, by kernel_rfl⟩; obtain rfl := List.mem_singleton.1 hfd; exact ⟨1, by decide, rfl, by kernel_rfl⟩) (opensF_cons (by kernel_rfl) (opens_struct (f := id) (g := id) Tryd.underlying34 (by kernel_rfl) (fun _ => rfl) (opensF_cons (by kernel_rfl) (opens_int Tryd.underlying3 (by kernel_rfl)) (opensF_cons (by kernel_rfl) (opens_string Tryd.underlying9 (by kernel_rfl)) (opensF_one (by kernel_rfl) (opens_int Tryd.underlying2 (by kernel_rfl)))))) (opensF_one (by kernel_rfl) (opens_struct (f := id) (g := id) Tryd.underlying34 (by kernel_rfl) (fun _ => rfl) (opensF_cons (by kernel_rfl) (opens_int Tryd.underlying3 (by kernel_rfl)) (opensF_cons (by kernel_rfl) (opens_string Tryd.underlying9 (by kernel_rfl)) (opensF_one (by kernel_rfl) (opens_int Tryd.underlying2 (by kernel_rfl))))))))) 2 hsz rfl rfl h2
  obtain ⟨cs2, rfl, _⟩ := okWide_array Tryd.underlying50 (hval 2 50 v2 rfl rfl)
  obtain ⟨⟨a2_0, a2_1, a2_2⟩, ⟨a2_3, a2_4, a2_5⟩⟩ := x2
  obtain ⟨cs2⟩ := cs2
  simp only [Kd.iso, Kd.pair, Kd.int, Kd.bool, Kd.string, Kd.scalar, Kd.slice, id] at hx2
  obtain ⟨_, _, rfl, ⟨_, _, rfl, rfl, ⟨_, _, rfl, rfl, rfl⟩⟩, ⟨_, _, rfl, rfl, ⟨_, _, rfl, rfl, rfl⟩⟩⟩ := hx2
  obtain ⟨⟨w2_0, w2_1, w2_2⟩, ⟨w2_3, w2_4, w2_5⟩⟩ := ok2
  obtain ⟨k, h⟩ := Pure.BatchBack a0_0 a0_1 a0_2 a0_3 a0_4 a0_5 a0_6 a0_7 l0_8 a1_0 a1_1 a2_0 a2_1 a2_2 a2_3 a2_4 a2_5 w0_0 w0_1 w0_2 w0_3 w0_4 w0_5 w0_6 w0_7 w0_8 w1_0 w1_1 w2_0 w2_1 w2_2 w2_3 w2_4 w2_5
  have z1 : VarReads Tryd.prog W _ Rows.laid_unicode_utf8_first := Lib.laidMet.reads hL (.tail _ (.head _))
  have z2 : VarReads Tryd.prog W _ Rows.laid_unicode_utf8_acceptRanges := Lib.laidMet.reads hL (.head _)
  rw [show Rows.laid_unicode_utf8_first = Lib.firstData from by kernel_rfl] at z1
  rw [show (Rows.laid_unicode_utf8_acceptRanges : DataW Unit) = Lib.acceptData from by kernel_rfl] at z2
  have hT : Go.Proofs.YtapfpdjcbeiibaaDoor.PAll.Tabs W := utf8Tabs_of_readsT (U8Types.of196 Tryd.laysValid) ⟨by kernel_rfl, by kernel_rfl, by kernel_rfl, by kernel_rfl, by kernel_rfl, by kernel_rfl, by kernel_rfl⟩ z1 z2
  clear hA0 hval0 hsz0 hsz hL z1 z2
  refine (packhorselaw11_BatchBack.calls k a0_0 a0_1 a0_2 a0_3 a0_4 a0_5 a0_6 a0_7 _ _ l0_8 a1_0 a1_1 a2_0 a2_1 a2_2 a2_3 a2_4 a2_5 true W hr0_8 hc0_8 hT h rfl).mono fun e W' ⟨he, bel0⟩ => ?_
  have bel : Below W.heap.size W W' := bel0
  subst he
  exact ⟨_, rfl, _, _, _, [], _, [], hW', trodAll_mk1 (shut_bool Tryd.underlying4 _), (trodAll_cons_mk (Below.trod laidOut (by kernel_rfl) (of_decide_eq_true (by kernel_rfl)) k0 bel lt0) (trodAll_cons_mk (Below.trod laidOut (by kernel_rfl) (of_decide_eq_true (by kernel_rfl)) k1 bel lt1) (trodAll_cons_mk (Below.trod laidOut (by kernel_rfl) (of_decide_eq_true (by kernel_rfl)) k2 bel lt2) trodAll_mk0))), rfl, bel.frame _, fun h => by cases h⟩
theorem over : Rows.batchBackRow.holds Tryd.pinned (OpenSpec.ofChange Rows.batchBackSpec) :=
  OpenClaim.holds_of_cond 7 Tryd.f7 rfl rfl rfl rfl rfl rfl rfl ⟨rfl, rfl, rfl, rfl, rfl⟩ rfl rfl rfl rfl rfl (by kernel_rfl) Tryd.func7 (by kernel_rfl)
    (of_decide_eq_true (by kernel_rfl)) (by unfold Func.isWrapper; first | (rw [if_pos (by decide +kernel)]; kernel_rfl) | (rw [if_neg (by decide +kernel)]; exact ⟨rfl, rfl⟩))
    (fun os started H enc _ F0 => by rw [OpenClaim.pre_eq_preRow]; exact lifted os started H enc F0)
theorem proved : Rows.BatchBackCardSaid :=
  Claim7.holds_tied_plain_at .later [] [.data, .pinned] true (true, "c995160d2f5c240e3def175bb15ee5cea40076d279a2bc5be9eefdfdba818d94") false over (fun _ h => by cases h) (by kernel_rfl) (fun _ h => by cases h) batchBack_row_tie rfl ⟨rfl, rfl⟩ (by kernel_rfl) rfl
    (fun f fn hf hfn => by
      obtain rfl : f = 7 := Option.some.inj ((show Tryd.prog.funcNamed Tryd.f7.name = some 7 by kernel_rfl).symm.trans hf) |>.symm
      obtain rfl : fn = Tryd.f7 := (Option.some.inj (Tryd.func7.symm.trans hfn)).symm
      exact ⟨by kernel_rfl, fun j t ht => by
        have hall : (Tryd.f7.params.toList.all fun t => !Tryd.prog.wantsStandIn t) = true := by kernel_rfl
        have hm : t ∈ Tryd.f7.params.toList := by rw [← Array.getElem?_toList] at ht; exact List.mem_of_getElem? ht
        exact (Bool.not_eq_true' _).mp (List.all_eq_true.1 hall t hm)⟩)
    (by kernel_rfl)
#print axioms proved
end Go.Proofs.YtapfpdjcbeiibaaDoor.batchBack
namespace Go.Proofs.YtapfpdjcbeiibaaDoor
/-- The row, under a short name, for the claim. -/
theorem batchBack_holds : Rows.BatchBackCardSaid := batchBack.proved
end Go.Proofs.YtapfpdjcbeiibaaDoor
