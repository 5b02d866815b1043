
import Derived.Test.YtalcopjlofbfaaaDoorQLinesNamesDel
set_option linter.unusedVariables false
set_option linter.unusedSimpArgs false
namespace Go.Proofs.YtalcopjlofbfaaaDoor.PAll
open Go Go.Proofs Go.RowKit Go.Proofs.YtalcopjlofbfaaaDoorW.PrintWords Go.Proofs.YtalcopjlofbfaaaDoorW.PrintLast Go.Proofs.YtalcopjlofbfaaaDoorW.PrintMore
theorem goesC_ {P : Program} {ops : Array Oper} {Q : Exit → Act → World → Prop} {rest : List Oper} {oi : Oper} {a : Act} {w : World} (N : Option Tmp) (x : Operand) (hd : oi.dst = N) (hg : oi.guard = none) {f : FuncId} {fn : Func} {ys : Array Operand} {ts : Array TypeId} (caps : Array Value) (hx : a.eval x = .func (.func f) #[] caps) (hf : P.funcs[f]? = some fn) (hname : (fn.name == "runtime.NumGoroutine") = false) (hb : fn.body.isSome = true) (args : Array Value)
    (hop : oi.op = .call { callee := .value x, args := ys, argTypes := ts }) (hargs : ys.map a.eval = args)
    (h : Calls P f (args ++ caps) w fun e w' => ∃ v, e = .returned v ∧ wpList P ops Q rest (a.put N v) w') : wpList P ops Q (oi :: rest) a w := by
  refine wpList_plain hg fun K hK => ?_
  have he := enters_ hf hname hb (args ++ caps) w
  have hrun : (execOp a.eval oi).run P w = .ok (.enter f (args ++ caps)) w := by
    unfold execOp
    simp [hop, resolve, Deferred.ofValue, invoke, hx, hargs, he]
  unfold Oper.wp
  rw [hrun, Oper.upon_enter]
  refine h.mono fun e w'' hh => ?_
  obtain ⟨v, rfl, hk⟩ := hh
  subst hd
  exact hK _ _ hk
set_option maxHeartbeats 8000000 in
set_option maxRecDepth 100000 in
theorem isSku_calls (x : S37) (s : ByteArray) (g : Nat) (w : World) (hs : w.heap[g]? = some (.cells #[.string s] 9 (0, 0))) :
    Calls Tryd.prog 34 #[.agg #[.string x.f0, .int .i64 x.f1, .int .i64 x.f2], .pointer (some ⟨g, 0, none⟩)] w fun e w' => e = .returned (.bool (x.f0.toList == s.toList)) ∧ Below w.heap.size w w' := by
  have hu37 := Tryd.underlying37
  have HB := Aside0.mk (Below.refl w.heap.size w)
  have HS := Aside0.mk hs
  clear hs
  go_enter Tryd.func34, Tryd.ntmps34
  go_wp2_with (first | ((with_reducible refine gate_dst (N := 2) rfl ?_); refine box_event ?hg (N := 2) ?hd (cs := #[.string x.f0, .int .i64 x.f1, .int .i64 x.f2]) (t := 37) ?hr ?_; (case hd => rfl); (case hg => rfl); (case hr => first | (go_simp; done) | (go_simp; rfl)); intro gb hg w7 hbox hb; have HB2 := Aside0.mk (below_step HB.out hb); have BK := Aside0.mk hbox; have SK := Aside0.mk (blk_below HS.out hb); clear hb hbox hg; have hcz8_0 : w7.cell? ⟨gb, 0, none⟩ = some (.string x.f0) := (blk_cell BK.out 0).trans rfl; have hfz8_0 := blk_frozen BK.out 0; have hcs_0 : w7.cell? ⟨g, 0, none⟩ = some (.string s) := (blk_cell SK.out 0).trans rfl; have hfs_0 := blk_frozen SK.out 0))
  go_ret
  exact ⟨by first | rfl | (simp; done), HB2.out⟩
def idxS (s : ByteArray) : List S37 → Nat → Int
  | [], _ => -1
  | x :: t, i => if (x.f0.toList == s.toList) = true then (i : Int) else idxS s t (i + 1)
set_option maxHeartbeats 8000000 in
set_option maxRecDepth 100000 in
theorem idx_calls (A0 : Option Addr) (c0 : Nat) (l0 : List S37) (s : ByteArray) (g : Nat) (w : World) (hr0 : Kd.C k37 w A0 l0.length l0) (hc0 : l0.length ≤ c0) (hs : w.heap[g]? = some (.cells #[.string s] 9 (0, 0))) :
    Calls Tryd.prog 33 #[.slice A0 l0.length c0, .func (.func 34) #[] #[.pointer (some ⟨g, 0, none⟩)]] w fun e w' => e = .returned (.int .i64 (idxS s l0 0)) ∧ Below w.heap.size w w' := by
  have hu37 := Tryd.underlying37
  have HR0 := Aside0.mk hr0
  have HC0 := Aside0.mk hc0
  have HS := Aside0.mk hs
  have hlen : l0.length ≤ 9223372036854775807 := hr0.2.1
  clear hr0 hc0 hs
  have HB := Aside0.mk (Below.refl w.heap.size w)
  go_enter Tryd.func33, Tryd.ntmps33
  go_wp2
  go_loopg [8] l0.length (fun q v8 w' => ∃ i : Nat, v8 = .int .i64 (i : Int) ∧ i + q = l0.length ∧ Aside0 (idxS s l0 0 = idxS s (l0.drop i) i) ∧ Aside0 (Below w.heap.size w w'))
  case atStart => exact ⟨0, rfl, by omega, ⟨by rw [List.drop_zero]⟩, HB⟩
  case round =>
    obtain ⟨i, rfl, hiq, HI, HB⟩ := hrel
    cases gk with
    | zero =>
      obtain rfl : i = l0.length := by omega
      have e : idxS s l0 0 = -1 := by rw [HI.out, List.drop_of_length_le (Nat.le_refl _)]; rfl
      have hlt : ¬ ((l0.length : Int) < (l0.length : Int)) := by omega
      go_wp2
      go_ret
      exact ⟨by first | rfl | rw [e], HB.out⟩
    | succ k1 =>
      have h1 : i < l0.length := by omega
      have p122 : 0 ≤ (i : Int) := by omega
      have q122 : (i : Int) < (l0.length : Int) := by omega
      have hx : rd_T37 l0 (i : Int) = l0[i] := by
        unfold rd_T37
        rw [List.getD_eq_getElem?_getD, Int.toNat_natCast, List.getElem?_eq_getElem h1]; rfl
      obtain ⟨ad122, e122, hx122_0, hx122_1, hx122_2⟩ := at_T37 HR0.out (i : Int) p122 q122
      cases e122
      rw [hx] at hx122_0 hx122_1 hx122_2
      simp only [Int.toNat_natCast] at hx122_0 hx122_1 hx122_2
      replace hx122_0 := (HB.out.cell (World.block_lt_of_cell? w _ hx122_0)).trans hx122_0
      replace hx122_1 := (HB.out.cell (World.block_lt_of_cell? w _ hx122_1)).trans hx122_1
      replace hx122_2 := (HB.out.cell (World.block_lt_of_cell? w _ hx122_2)).trans hx122_2
      have step : idxS s l0 0 = if (l0[i].f0.toList == s.toList) = true then (i : Int) else idxS s (l0.drop (i + 1)) (i + 1) := by
        rw [HI.out, List.drop_eq_getElem_cons h1]; rfl
      have ST := Aside0.mk step
      have HX := Aside0.mk hx
      clear step hx
      generalize l0[i] = x at hx122_0 hx122_1 hx122_2 ST HX
      have hw1 : wrap64 ((i : Int) + 1) = (i : Int) + 1 := by unfold wrap64; omega
      cases c : (x.f0.toList == s.toList)
      · go_wp2_with (first | ((with_reducible refine gate_dst (N := 16) rfl ?_); refine goesC_ (some 16) (.tmp 11) rfl rfl #[.pointer (some ⟨g, 0, none⟩)] rfl Tryd.func34 (by kernel_rfl) rfl #[.agg #[.string x.f0, .int .i64 x.f1, .int .i64 x.f2]] rfl (by (try simp only [List.map_toArray, List.map_cons, List.map_nil]); first | done | rfl) ?_; refine (isSku_calls x s g _ (blk_below HS.out HB.out)).mono ?_; rintro e w8 ⟨rfl, hb⟩; refine ⟨_, rfl, ?_⟩; rw [c]; have HB2 := Aside0.mk (below_step HB.out hb); clear hb))
        go_roundg k1
        case measure => omega
        case rel => exact ⟨i + 1, by first | rfl | (rw [hw1]; rfl) | (simp [hw1]; done), by omega, ⟨by rw [ST.out, c]; rfl⟩, HB2⟩
      · go_wp2_with (first | ((with_reducible refine gate_dst (N := 16) rfl ?_); refine goesC_ (some 16) (.tmp 11) rfl rfl #[.pointer (some ⟨g, 0, none⟩)] rfl Tryd.func34 (by kernel_rfl) rfl #[.agg #[.string x.f0, .int .i64 x.f1, .int .i64 x.f2]] rfl (by (try simp only [List.map_toArray, List.map_cons, List.map_nil]); first | done | rfl) ?_; refine (isSku_calls x s g _ (blk_below HS.out HB.out)).mono ?_; rintro e w8 ⟨rfl, hb⟩; refine ⟨_, rfl, ?_⟩; rw [c]; have HB2 := Aside0.mk (below_step HB.out hb); clear hb))
        go_ret
        exact ⟨by rw [ST.out, c]; rfl, HB2.out⟩
end Go.Proofs.YtalcopjlofbfaaaDoor.PAll
