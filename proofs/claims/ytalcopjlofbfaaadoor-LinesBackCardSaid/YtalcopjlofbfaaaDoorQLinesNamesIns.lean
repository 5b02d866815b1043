
import Derived.Test.YtalcopjlofbfaaaDoorQLinesNamesPAllx0
import Derived.Lib.Overlaps
import Derived.Lib.AppendZerosOnto
import Derived.Laws.Externs
import Derived.Laws.CopyRow
import Derived.Laws.CopyOwn
import Derived.Lib.SliceRun
import Derived.Deep.RegionLaw
set_option linter.unusedVariables false
set_option linter.unusedSimpArgs false
namespace Go.Proofs.YtalcopjlofbfaaaDoor.PAll
open Go Go.Proofs Go.RowKit Go.Proofs.YtalcopjlofbfaaaDoorW.PrintWords Go.Proofs.YtalcopjlofbfaaaDoorW.PrintLast Go.Proofs.YtalcopjlofbfaaaDoorW.PrintMore
theorem run_copyK {P : Program} (w : World) (dT sT ty elem : TypeId) (K : Nat) (g o dLen dCap : Nat) (a : Addr) (sLen sCap : Nat) (cur : Array Value) (t : TypeId) (cs : List Value)
    (hu : P.underlying dT = some (.slice elem)) (hs : (P.info? elem).map (·.size) = some K)
    (hg : w.heap[g]? = some (.cells cur t (0, 0))) (m : Nat) (hm : Nat.min sLen dLen = m) (hn : cs.length = m * K)
    (hsrc : ∀ j v, cs[j]? = some v → w.cell? (a.add j) = some v) (hfit : o + cs.length ≤ cur.size) (h1 : ∀ v ∈ cs, v.oneCell' = true) :
    (Builtin.copy_ #[dT, sT] ty #[.slice (some ⟨g, o, none⟩) dLen dCap, .slice (some a) sLen sCap]).run P w =
      .ok (goInt m) (w.setRow g (cur.toList.take o ++ cs ++ cur.toList.drop (o + cs.length)).toArray) := by
  have hl := run_loadCells_list (P := P) w a cs hsrc
  have hst := run_storeCells_at P g o t cs 0 cur w hg (by simpa using hfit) h1
  cases hq : P.info? elem with
  | none => simp [hq] at hs
  | some i =>
    have hi : i.size = K := by simpa [hq] using hs
    simp [Builtin.copy_, run_underlying hu, Builtin.lenOf, Builtin.firstCells, sizeOf, typeInfo, hq, hi, hm, ← hn, hl, hst]
section
variable {P : Program} {ops : Array Oper} {rest : List Oper} {o : Oper} {a : Act} {Q : Exit → Act → World → Prop}
theorem copy_known (w : World) (hgd : o.guard = none) (d s : Operand) (t t' : TypeId)
    (ho : o.op = .call { callee := .builtin .copy, args := #[d, s], argTypes := #[t, t'] }) (v u : Value) (hd : a.eval d = v) (hs : a.eval s = u) {v' : Value} {w' : World}
    (hr : (Builtin.copy_ #[t, t'] o.type #[v, u]).run P w = .ok v' w') (h : wpList P ops Q rest (a.put o.dst v') w') : wpList P ops Q (o :: rest) a w := by
  refine wpList_plain hgd fun K hK => ?_
  unfold Oper.wp execOp
  simp only [ho, resolve, invoke, builtin, Sem.run_bind, Sem.run_pure, Result.andThen_ok, List.map_toArray, List.map_cons, List.map_nil, hd, hs, hr]
  exact hK _ _ h
theorem copy_known_step {w : World} {K : Act → World → Prop} {E : Prop} (hg : o.guard = none) (d x : Operand) (dT sT : TypeId) (hop : o.op = Op.call { callee := Callee.builtin Builtin.copy, args := #[d, x], argTypes := #[dT, sT] })
    (v u : Value) (hd : a.eval d = v) (hx : a.eval x = u) {v' : Value} {w' : World} (hr : (Builtin.copy_ #[dT, sT] o.type #[v, u]).run P w = .ok v' w') (hK : K (a.put o.dst v') w') :
    if Region.wanted o (yielded ops a.tmps) = true then Oper.wp P o a w K Q else E := by
  have hw : Region.wanted o (yielded ops a.tmps) = true := by simp [Region.wanted, hg]
  rw [if_pos hw]
  unfold Oper.wp
  simp [execOp, hop, resolve, invoke, builtin, hd, hx, hr, Result.andThen]
  exact hK
theorem append_known (w : World) (hgd : o.guard = none) (d s : Operand) (t t' : TypeId)
    (ho : o.op = .call { callee := .builtin .append, args := #[d, s], argTypes := #[t, t'] }) (v u : Value) (hd : a.eval d = v) (hs : a.eval s = u) {v' : Value} {w' : World}
    (hr : (Builtin.append_ #[t, t'] o.type #[v, u]).run P w = .ok v' w') (h : wpList P ops Q rest (a.put o.dst v') w') : wpList P ops Q (o :: rest) a w := by
  refine wpList_plain hgd fun K hK => ?_
  unfold Oper.wp execOp
  simp only [ho, resolve, invoke, builtin, Sem.run_bind, Sem.run_pure, Result.andThen_ok, List.map_toArray, List.map_cons, List.map_nil, hd, hs, hr]
  exact hK _ _ h
end
theorem sz37 : (Tryd.prog.info? 37).map (·.size) = some 3 := by kernel_rfl
def spl (cur : List Value) (o : Nat) (cs : List Value) : List Value := cur.take o ++ cs ++ cur.drop (o + cs.length)
theorem spl_len (cur : List Value) (o : Nat) (cs : List Value) (h : o + cs.length ≤ cur.length) : (spl cur o cs).length = cur.length := by
  unfold spl; simp; omega
theorem overlaps_no (w : World) (g vb : Nat) (o la ca lb cb : Nat) (hne : vb ≠ g) (cur cs : Array Value) (hg : w.heap[g]? = some (.cells cur 37 (0, 0))) (hpos : cur.size ≠ 0) (hb : w.heap[vb]? = some (.cells cs 37 (0, 0))) :
    (callFunc 39 #[.slice (some ⟨vb, 0, none⟩) la ca, .slice (some ⟨g, o, none⟩) lb cb]).run Tryd.prog w = .ok (.value (.bool false)) w := by
  rw [run_callFunc_extern Tryd.func39 (by kernel_rfl) (by kernel_rfl) (by kernel_rfl) (e := Extern.SlicesOverlaps.overlaps #[22, 22] #[4]) (by kernel_rfl)]
  rw [Lib.run_overlaps_apart w 22 4 37 Tryd.underlying22 3 (fun w => by simp [sizeOf, typeInfo]; cases hq : Tryd.prog.info? 37 with
      | none => have := sz37; simp [hq] at this
      | some i => have := sz37; simp [hq] at this; simp [this]) ⟨vb, 0, none⟩ ⟨g, o, none⟩ la ca lb cb hne 37 37 cs.size cur.size (by simp [World.shape?, hb]) (by simp [World.shape?, hg]) hpos (blk_frozen hb 0) (blk_frozen hb _)]
  rfl
set_option maxHeartbeats 4000000 in
set_option maxRecDepth 100000 in
theorem ins_shift (g vb N cap n : Nat) (cur : Array Value) (cs : List Value) (w : World) (hn : n < N) (hroom : N + 1 ≤ cap) (hcap : cap ≤ 9223372036854775807) (hsize : cur.size = cap * 3)
    (hg : w.heap[g]? = some (.cells cur 37 (0, 0))) (hne : vb ≠ g) (hb : w.heap[vb]? = some (.cells cs.toArray 37 (0, 0))) (hcs : cs.length = 3) (h1 : ∀ v ∈ cs, v.oneCell' = true) (h1c : ∀ v ∈ cur.toList.take (N * 3), v.oneCell' = true) :
    Calls Tryd.prog 27 #[.slice (some ⟨g, 0, none⟩) N cap, .int .i64 n, .slice (some ⟨vb, 0, none⟩) 1 1] w fun e w' =>
      e = .returned (.slice (some ⟨g, 0, none⟩) (N + 1) cap) ∧ w' = w.drew.setRow g (spl (spl cur.toList ((n + 1) * 3) ((cur.toList.take (N * 3)).drop (n * 3))) (n * 3) cs).toArray := by
  have hz2 : ¬ ((n : Int) = (N : Int)) := by omega
  have hov : ∀ o lb cb, (callFunc 39 #[.slice (some ⟨vb, 0, none⟩) 1 1, .slice (some ⟨g, o, none⟩) lb cb]).run Tryd.prog w = .ok (.value (.bool false)) w := fun o lb cb => overlaps_no w g vb o 1 1 lb cb hne cur cs.toArray hg (by omega) hb
  obtain ⟨MV, hMV⟩ : ∃ MV, MV = (cur.toList.take (N * 3)).drop (n * 3) := ⟨_, rfl⟩
  have hMl : MV.length = (N - n) * 3 := by rw [hMV]; simp; omega
  have hcp1 : ∀ ty dc sc, (Builtin.copy_ #[22, 22] ty #[.slice (some ⟨g, (n + 1) * 3, none⟩) (N - n) dc, .slice (some ⟨g, n * 3, none⟩) (N + 1 - n) sc]).run Tryd.prog w.drew = .ok (goInt (N - n : Nat)) (w.drew.setRow g (spl cur.toList ((n + 1) * 3) MV).toArray) := fun ty dc sc =>
    run_copyK w.drew 22 22 ty 37 3 g ((n + 1) * 3) (N - n) dc ⟨g, n * 3, none⟩ (N + 1 - n) sc cur 37 MV Tryd.underlying22 sz37 hg (N - n) (by simp only [Nat.min_def]; split <;> omega) hMl
      (fun j v hj => by
        rw [Addr.add_lit, blk_cell (w := w.drew) hg]
        rw [hMV, List.getElem?_drop, List.getElem?_take] at hj
        split at hj
        · rw [← hj]; simp
        · cases hj)
      (by rw [hMl]; omega) (fun v hv => h1c v (by rw [hMV] at hv; exact List.mem_of_mem_drop hv))
  have hcp2 : ∀ (W : World), W = w.drew.setRow g (spl cur.toList ((n + 1) * 3) MV).toArray → ∀ ty dc, (Builtin.copy_ #[22, 22] ty #[.slice (some ⟨g, n * 3, none⟩) (N + 1 - n) dc, .slice (some ⟨vb, 0, none⟩) 1 1]).run Tryd.prog W = .ok (goInt (1 : Nat)) (W.setRow g (spl (spl cur.toList ((n + 1) * 3) MV) (n * 3) cs).toArray) := fun W hW ty dc => by
    subst hW
    have hg1 : (w.drew.setRow g (spl cur.toList ((n + 1) * 3) MV).toArray).heap[g]? = some (.cells (spl cur.toList ((n + 1) * 3) MV).toArray 37 (0, 0)) := setRow_heap w.drew g cur _ 37 _ hg
    have hb1 : (w.drew.setRow g (spl cur.toList ((n + 1) * 3) MV).toArray).heap[vb]? = some (.cells cs.toArray 37 (0, 0)) := (setRow_other w.drew g vb _ hne).trans hb
    have := run_copyK (P := Tryd.prog) (w.drew.setRow g (spl cur.toList ((n + 1) * 3) MV).toArray) 22 22 ty 37 3 g (n * 3) (N + 1 - n) dc ⟨vb, 0, none⟩ 1 1 _ 37 cs Tryd.underlying22 sz37 hg1 1 (by simp only [Nat.min_def]; split <;> omega) (by omega)
      (fun j v hj => by rw [Addr.add_lit, blk_cell hb1, Nat.zero_add]; simpa using hj)
      (by rw [List.size_toArray, spl_len _ _ _ (by rw [hMl]; simp; omega)]; simp; omega) h1
    simpa [spl] using this
  have hw1 : IntKind.i64.wrap ((n : Int) + 1) = (n : Int) + 1 := by rw [IntKind.wrap_i64]; omega
  have hb1 : (0 : Int) ≤ (n : Int) + 1 := by omega
  have htn : ((n : Int) + 1).toNat = n + 1 := by omega
  have hb2 : ¬ (cap = n + 1) := by omega
  have hb3 : (n : Int) ≤ (N : Int) + 1 := by omega
  have hb4 : ¬ (cap = n) := by omega
  rw [← hMV]
  have hu22 := Tryd.underlying22
  have hin : n ≤ N := by omega
  have hin2 : n ≤ N + 1 := by omega
  have mixed : Tryd.prog.follows Departure.mixedOrders = true := by kernel_rfl
  go_enter Tryd.func27, Tryd.ntmps27
  go_wp2_with (simp only [hov])
  go_region_law_o (refine copy_known_step rfl _ _ 22 22 rfl _ _ (by simp [Act.eval, Act.put]) (by simp [Act.eval, Act.put]) (hcp1 _ _ _) ?_)
  go_wp2_with (at_builtin; refine copy_known _ rfl _ _ 22 22 rfl _ _ rfl rfl (hcp2 _ rfl _ _) ?_)
  go_ret
  exact ⟨rfl, by rw [setRow_setRow, hMV]⟩
theorem spl_fill {A Z cs MV : List Value} {o p : Nat} (ho : A.length = o) (hp : o + cs.length = p) (h : cs.length + MV.length ≤ Z.length) : spl (spl (A ++ Z) o cs) p MV = A ++ cs ++ MV ++ Z.drop (cs.length + MV.length) := by
  subst ho; subst hp
  have e1 : spl (A ++ Z) A.length cs = (A ++ cs) ++ Z.drop cs.length := by simp [spl]
  rw [e1]
  have e2 : A.length + cs.length = (A ++ cs).length := by simp
  unfold spl
  rw [e2, List.take_left', List.drop_append, List.drop_eq_nil_of_le (by simp), List.nil_append]
  · simp [List.drop_drop]
  · rfl
theorem spl_shift {cur cs MV : List Value} {o p : Nat} (hp : o + cs.length = p) (h : p + MV.length ≤ cur.length) : spl (spl cur p MV) o cs = cur.take o ++ cs ++ MV ++ cur.drop (p + MV.length) := by
  subst hp
  unfold spl
  have l1 : (cur.take (o + cs.length)).length = o + cs.length := by simp; omega
  rw [List.append_assoc (cur.take (o + cs.length)), List.take_append_of_le_length (by omega), List.take_take, Nat.min_eq_left (by omega)]
  rw [List.drop_append, List.drop_eq_nil_of_le (by omega), l1, Nat.sub_self, List.drop_zero, List.nil_append]
  simp
theorem zeros37_len (k : Nat) : (Builtin.zeroCells (Value.agg #[(.string ⟨#[]⟩), (.int .i64 0), (.int .i64 0)]).cells k).toList.length = k * 3 := by simp [Builtin.zeroCells, Value.cells]
set_option maxHeartbeats 4000000 in
set_option maxRecDepth 100000 in
theorem ins_grow (g vb N cap n : Nat) (cur : Array Value) (cs : List Value) (w : World) (hn : n < N) (hNc : N ≤ cap) (hroom : cap < N + 1) (hbig : (N + 1) * 32 ≤ 140737488355328) (hsize : cur.size = cap * 3)
    (hg : w.heap[g]? = some (.cells cur 37 (0, 0))) (hne : vb ≠ g) (hb : w.heap[vb]? = some (.cells cs.toArray 37 (0, 0))) (hcs : cs.length = 3) (h1 : ∀ v ∈ cs, v.oneCell' = true) (h1c : ∀ v ∈ cur.toList.take (N * 3), v.oneCell' = true) :
    Calls Tryd.prog 27 #[.slice (some ⟨g, 0, none⟩) N cap, .int .i64 n, .slice (some ⟨vb, 0, none⟩) 1 1] w fun e w' => ∃ (G : Nat) (row : List Value),
      e = .returned (.slice (some ⟨w.heap.size, 0, none⟩) (N + 1) G) ∧ N + 1 ≤ G ∧ G ≤ maxLen ∧ row.length = G * 3 ∧ row.take ((N + 1) * 3) = cur.toList.take (n * 3) ++ cs ++ (cur.toList.take (N * 3)).drop (n * 3) ∧
      w'.heap[w.heap.size]? = some (.cells row.toArray 37 (0, 0)) ∧ Below w.heap.size w w' := by
  obtain ⟨i0, hi0, hzz⟩ := Option.map_eq_some_iff.1 info37
  simp only [Prod.mk.injEq] at hzz
  obtain ⟨hz0, hz1, hzb⟩ := hzz
  have hgl := blk_lt hg
  have hbl := blk_lt hb
  obtain ⟨MV, hMV⟩ : ∃ MV, MV = (cur.toList.take (N * 3)).drop (n * 3) := ⟨_, rfl⟩
  have hMl : MV.length = (N - n) * 3 := by rw [hMV]; simp; omega
  obtain ⟨A, hA⟩ : ∃ A, A = cur.toList.take (n * 3) := ⟨_, rfl⟩
  have hAl : A.length = n * 3 := by rw [hA]; simp; omega
  have hold : (Builtin.firstCells i0.size n (.slice (some ⟨g, 0, none⟩) n cap)).run Tryd.prog w.drew = .ok A.toArray w.drew := by
    rw [hz1]
    exact run_firstCells_some w.drew 3 n ⟨g, 0, none⟩ n cap A hAl (fun j v hj => by
      rw [Addr.add_lit, blk_cell (w := w.drew) hg]
      rw [hA, List.getElem?_take] at hj
      split at hj
      · rw [← hj]; simp
      · cases hj)
  have hkk : (N : Int) + 1 - (n : Int) = ((N + 1 - n : Nat) : Int) := by omega
  have hik : n + (N + 1 - n) = N + 1 := by omega
  obtain ⟨G, hG⟩ : ∃ G, G = grownCap w (N + 1) cap 37 := ⟨_, rfl⟩
  have hGn : N + 1 ≤ G := by rw [hG]; exact grownCap_ge w _ _ _
  have hGm : G ≤ maxLen := by rw [hG]; exact grownCap_le_maxLen w (N + 1) cap 37 (by unfold maxLen; omega)
  obtain ⟨Z, hZ⟩ : ∃ Z, Z = (Builtin.zeroCells (Value.agg #[(.string ⟨#[]⟩), (.int .i64 0), (.int .i64 0)]).cells (N + 1 - n)).toList ++ (Builtin.zeroCells (Value.agg #[(.string ⟨#[]⟩), (.int .i64 0), (.int .i64 0)]).cells (G - (N + 1))).toList := ⟨_, rfl⟩
  have hZl : Z.length = (G - n) * 3 := by rw [hZ, List.length_append, zeros37_len, zeros37_len]; omega
  have hrz : ∀ ty, (Builtin.append_ #[22, 3] ty #[.slice (some ⟨g, 0, none⟩) n cap, .int .i64 ((N : Int) + 1 - (n : Int))]).run Tryd.prog w =
      .ok (.slice (some ⟨w.heap.size, 0, none⟩) (N + 1) G) (w.drew.alloc (.cells (A ++ Z).toArray 37)) := fun ty => by
    have h := Lib.run_append_grow_zeros w 22 3 ty 37 i0 _ .i64 .i64 Tryd.underlying22 Tryd.underlying3 hi0 hz0 (some ⟨g, 0, none⟩) n cap A hold (N + 1 - n) (by omega) (by omega) (by omega) (by omega) (by rw [hzb]; omega) (by rw [hzb, hik]; exact growslice_fits hroom hbig)
    rw [hik, ← hG] at h
    rw [hkk, h, hZ]
    have e : ∀ (x y : Array Value), A.toArray ++ x ++ y = (A ++ (x.toList ++ y.toList)).toArray := fun x y => by apply Array.ext'; simp
    rw [e]
  obtain ⟨R1, hR1⟩ : ∃ R1, R1 = spl (A ++ Z) (n * 3) cs := ⟨_, rfl⟩
  obtain ⟨R2, hR2⟩ : ∃ R2, R2 = spl R1 ((n + 1) * 3) MV := ⟨_, rfl⟩
  have hR1l : R1.length = G * 3 := by rw [hR1, spl_len _ _ _ (by rw [List.length_append]; omega), List.length_append]; omega
  have hR2l : R2.length = G * 3 := by rw [hR2, spl_len _ _ _ (by omega)]; exact hR1l
  have hcpA : ∀ (W : World), W.heap[w.heap.size]? = some (.cells (A ++ Z).toArray 37 (0, 0)) → W.heap[vb]? = some (.cells cs.toArray 37 (0, 0)) → ∀ ty dc, (Builtin.copy_ #[22, 22] ty #[.slice (some ⟨w.heap.size, n * 3, none⟩) (N + 1 - n) dc, .slice (some ⟨vb, 0, none⟩) 1 1]).run Tryd.prog W = .ok (goInt (1 : Nat)) (W.setRow w.heap.size R1.toArray) := fun W hW hWb ty dc => by
    have := run_copyK (P := Tryd.prog) W 22 22 ty 37 3 w.heap.size (n * 3) (N + 1 - n) dc ⟨vb, 0, none⟩ 1 1 _ 37 cs Tryd.underlying22 sz37 hW 1 (by simp only [Nat.min_def]; split <;> omega) (by omega)
      (fun j v hj => by rw [Addr.add_lit, blk_cell hWb, Nat.zero_add]; simpa using hj)
      (by rw [List.size_toArray, List.length_append]; omega) h1
    rw [this, hR1]
    simp [spl]
  have hcpB : ∀ (W : World), W.heap[w.heap.size]? = some (.cells R1.toArray 37 (0, 0)) → W.heap[g]? = some (.cells cur 37 (0, 0)) → ∀ ty dc sc, (Builtin.copy_ #[22, 22] ty #[.slice (some ⟨w.heap.size, (n + 1) * 3, none⟩) (N - n) dc, .slice (some ⟨g, n * 3, none⟩) (N - n) sc]).run Tryd.prog W = .ok (goInt (N - n : Nat)) (W.setRow w.heap.size R2.toArray) := fun W hW hWg ty dc sc => by
    have := run_copyK (P := Tryd.prog) W 22 22 ty 37 3 w.heap.size ((n + 1) * 3) (N - n) dc ⟨g, n * 3, none⟩ (N - n) sc _ 37 MV Tryd.underlying22 sz37 hW (N - n) (by simp) hMl
      (fun j v hj => by
        rw [Addr.add_lit, blk_cell hWg]
        rw [hMV, List.getElem?_drop, List.getElem?_take] at hj
        split at hj
        · rw [← hj]; simp
        · cases hj)
      (by rw [List.size_toArray]; omega) (fun v hv => h1c v (by rw [hMV] at hv; exact List.mem_of_mem_drop hv))
    rw [this, hR2]
    simp [spl]
  have hz2 : ¬ ((n : Int) = (N : Int)) := by omega
  have hz3 : (cap : Int) < (N : Int) + 1 := by omega
  have hG63 : G ≤ 9223372036854775807 := by unfold maxLen at hGm; omega
  have hGi : ¬ (G = n) := by omega
  have hGim : ¬ (G = n + 1) := by omega
  have hci : ¬ (cap = n) := by omega
  have hw1 : IntKind.i64.wrap ((n : Int) + 1) = (n : Int) + 1 := by rw [IntKind.wrap_i64]; omega
  have hb1 : (0 : Int) ≤ (n : Int) + 1 := by omega
  have hin : n ≤ N := by omega
  have hin2 : n ≤ N + 1 := by omega
  have hinc : n ≤ cap := by omega
  have htn : ((n : Int) + 1).toNat = n + 1 := by omega
  have hb3 : (n : Int) ≤ (N : Int) := by omega
  have hu22 := Tryd.underlying22
  have mixed : Tryd.prog.follows Departure.mixedOrders = true := by kernel_rfl
  have aN : ∀ o : Obj, ((w.alloc o).drew).heap[w.heap.size]? = some o := fun o => heap_alloc_new w o
  have aG : ∀ o : Obj, ((w.alloc o).drew).heap[g]? = some (.cells cur 37 (0, 0)) := fun o => blk_alloc (w := w) hg o
  have aV : ∀ o : Obj, ((w.alloc o).drew).heap[vb]? = some (.cells cs.toArray 37 (0, 0)) := fun o => blk_alloc (w := w) hb o
  have bN : (((w.alloc (.cells (A ++ Z).toArray 37)).drew.setRow w.heap.size R1.toArray).drew).heap[w.heap.size]? = some (.cells R1.toArray 37 (0, 0)) := setRow_heap ((w.alloc (.cells (A ++ Z).toArray 37)).drew) w.heap.size _ _ 37 _ (aN _)
  have bG : (((w.alloc (.cells (A ++ Z).toArray 37)).drew.setRow w.heap.size R1.toArray).drew).heap[g]? = some (.cells cur 37 (0, 0)) := (setRow_other ((w.alloc (.cells (A ++ Z).toArray 37)).drew) w.heap.size g _ (by omega)).trans (aG _)
  have EA := Aside0.mk hA
  have EM := Aside0.mk hMV
  have E1 := Aside0.mk hR1
  have E2 := Aside0.mk hR2
  have L2 := Aside0.mk hR2l
  have LZ := Aside0.mk hZl
  have LA := Aside0.mk hAl
  have LM := Aside0.mk hMl
  clear hkk hik hold hZ hR1l hG hA hMV hR1 hR2 hR2l hZl hAl hMl
  go_enter Tryd.func27, Tryd.ntmps27
  go_wp2_with (first
    | (at_builtin; refine append_known _ rfl _ _ _ _ rfl _ _ rfl rfl (hrz _) ?_)
    | ((with_reducible refine gate_builtin (b := .copy) (xs := #[.tmp 43, .tmp 44]) rfl ?_); refine copy_known _ rfl _ _ 22 22 rfl _ _ rfl rfl (hcpA _ (aN _) (aV _) _ _) ?_))
  go_region_law_o (refine copy_known_step rfl _ _ 22 22 rfl (.slice (some ⟨w.heap.size, (n + 1) * 3, none⟩) (N - n) (G - (n + 1))) (.slice (some ⟨g, n * 3, none⟩) (N - n) (cap - n)) (by simp [Act.eval, Act.put]) (by simp [Act.eval, Act.put]) (hcpB (((w.alloc (.cells (A ++ Z).toArray 37)).drew.setRow w.heap.size R1.toArray).drew) bN bG 3 (G - (n + 1)) (cap - n)) ?_)
  go_wp2
  go_ret
  refine ⟨G, R2, rfl, hGn, hGm, L2.out, ?_, setRow_heap _ w.heap.size _ _ 37 _ bN, ?_⟩
  · rw [E2.out, E1.out, spl_fill LA.out (by omega) (by rw [LM.out, LZ.out]; omega), EA.out, EM.out]
    rw [List.take_append_of_le_length (by simp; omega), List.take_of_length_le (by simp; omega)]
  · exact below_setRow (Below.drew (below_setRow (Below.drew ((Below.refl _ _).alloc (Nat.le_refl _) _)) (Nat.le_refl _) _)) (Nat.le_refl _) _
def ins (xs : List S37) (i : Int) (p : S37) : List S37 := xs.take i.toNat ++ p :: xs.drop i.toNat
theorem reps_take {α : Type} {R : α → List Value → Prop} {ps : List α} {cs : List Value} (h : Reps R 3 ps cs) (i : Nat) (hi : i ≤ ps.length) : Reps R 3 (ps.take i) (cs.take (i * 3)) := by
  refine ⟨by rw [List.length_take, List.length_take, h.1]; omega, fun j p hj => ?_⟩
  rw [List.getElem?_take] at hj
  split at hj
  · have := h.2 j p hj
    rw [List.drop_take, List.take_take, Nat.min_eq_left (by omega)]
    exact this
  · cases hj
theorem reps_drop {α : Type} {R : α → List Value → Prop} {ps : List α} {cs : List Value} (h : Reps R 3 ps cs) (i : Nat) : Reps R 3 (ps.drop i) (cs.drop (i * 3)) := by
  refine ⟨by rw [List.length_drop, List.length_drop, h.1]; omega, fun j p hj => ?_⟩
  rw [List.getElem?_drop] at hj
  have := h.2 (i + j) p hj
  rw [List.drop_drop, ← Nat.add_mul]
  exact this
theorem reps_one {α : Type} {R : α → List Value → Prop} {ps : List α} {cs : List Value} (h : Reps R 3 ps cs) (hR : ∀ p c, R p c → ∀ u ∈ c, u.oneCell' = true) : ∀ u ∈ cs, u.oneCell' = true := by
  intro u hu
  obtain ⟨j, hj, e⟩ := List.mem_iff_getElem.1 hu
  have hl := h.1
  have hq : j / 3 < ps.length := by omega
  refine hR _ _ (h.2 (j / 3) _ (List.getElem?_eq_getElem hq)) u ?_
  have : ((cs.drop (j / 3 * 3)).take 3)[j % 3]? = some u := by
    rw [List.getElem?_take, if_pos (by omega), List.getElem?_drop, show j / 3 * 3 + j % 3 = j from by omega, List.getElem?_eq_getElem hj, e]
  exact List.mem_of_getElem? this
def Ln (x : S37) (cs : List Value) : Prop := cs = [.string x.f0, .int .i64 x.f1, .int .i64 x.f2]
theorem R_made {w1 : World} {base : Nat} {ok : Nat → Prop} {v1 : Value} {ys : List S37} {inner : List Value} (h0 : ∀ k, v1.ownBlock = some k → ok k) (hown : w1.ownsRow base 37 3 v1 ys.length inner) (hr : Reps Ln 3 ys inner) : Kd.R k37 37 w1 base ok v1 ys :=
  ⟨h0, inner, hown, hr.imp_ (fun x cs h => by rw [show cs = _ from h]; exact k37_mkM _ _ _ x)⟩
theorem ins_len (xs : List S37) (i : Nat) (p : S37) (hi : i ≤ xs.length) : (ins xs (i : Int) p).length = xs.length + 1 := by unfold ins; simp; omega
theorem ins_reps {xs : List S37} {inner cs : List Value} {p : S37} (h : Reps Ln 3 xs inner) (hp : Ln p cs) (i : Nat) (hi : i ≤ xs.length) : Reps Ln 3 (ins xs (i : Int) p) (inner.take (i * 3) ++ cs ++ inner.drop (i * 3)) := by
  unfold ins
  rw [Int.toNat_natCast, List.append_assoc]
  refine Kd.reps_append (reps_take h i hi) ?_
  have h1 : Reps Ln 3 [p] cs := by
    have := (Reps.none Ln 3).snoc hp (by rw [show cs = _ from hp]; rfl)
    simpa using this
  exact Kd.reps_append h1 (reps_drop h i)
set_option maxHeartbeats 4000000 in
set_option maxRecDepth 100000 in
theorem ins_calls {w0 W : World} (base : Nat) (v : Value) (xs : List S37) (p : S37) (cs : List Value) (ok okp : Nat → Prop) (hp : k37.M W base okp p cs) (hokp : ∀ k, okp k → ok k ∧ some k ≠ v.ownBlock) (hfresh : ∀ k, W.heap.size ≤ k → ok k)
    (HO : Kd.R k37 37 W base ok v xs) (HB : Below base w0 W) (hbase : base ≤ W.heap.size) (hl : (xs.length + 1) * 32 ≤ 140737488355328) (i : Nat) (hi : i ≤ xs.length) :
    Calls Tryd.prog 27 #[v, .int .i64 i, .slice (some ⟨W.heap.size, 0, none⟩) 1 1] (W.alloc (.cells cs.toArray 37)) fun e w1 => ∃ v1, e = .returned v1 ∧ Kd.R k37 37 w1 base ok v1 (ins xs (i : Int) p) ∧ Below base w0 w1 ∧ W.grownBy w1 v.ownBlock ∧ (v1.ownBlock = v.ownBlock ∨ ∃ b, v1.ownBlock = some b ∧ W.heap.size ≤ b) := by
  have hcs := k37_openM hp
  have hcl : cs.length = 3 := by rw [hcs]; rfl
  have hc1 : ∀ u ∈ cs, u.oneCell' = true := k37.K_one (k37.K_of_M hp)
  by_cases hend : i = xs.length
  · subst hend
    have hins : ins xs ((xs.length : Nat) : Int) p = xs ++ [p] := by unfold ins; simp
    rw [hins]
    have hv : (v = .slice none 0 0 ∧ xs.length = 0) ∨ ∃ g cap, v = .slice (some ⟨g, 0, none⟩) xs.length cap ∧ xs.length ≤ cap := by
      obtain ⟨_, _, ⟨_, h2⟩, _⟩ := HO
      rcases h2 with h | ⟨g, cap, cur, h, _, _, h', _⟩
      · exact .inl h
      · exact .inr ⟨g, cap, h, h'⟩
    have HO' := Aside0.mk HO
    have HB' := Aside0.mk HB
    have HP' := Aside0.mk hp
    have HF' := Aside0.mk hfresh
    have HK' := Aside0.mk hokp
    clear HO HB hp hfresh hokp hins hcs
    have hu22 := Tryd.underlying22
    have HL := Aside0.mk hl
    rcases hv with ⟨rfl, h0⟩ | ⟨g, cap, rfl, hNc⟩
    · rw [h0]
      go_enter Tryd.func27, Tryd.ntmps27
      go_wp2_with ((with_reducible refine gate_builtin (b := .append) (xs := #[.tmp 23, .tmp 24]) rfl ?_); at_builtin; refine Kd.R_append k37 (w0 := w0) base rfl (.tmp 23) (.tmp 24) 22 37 (.agg #[(.string ⟨#[]⟩), (.int .i64 0), (.int .i64 0)]) 32 rfl Tryd.underlying22 info37 rfl (by decide) (by omega) (.slice none 0 0) xs p cs ok okp rfl rfl HP'.out HK'.out HF'.out HO'.out HB'.out hbase HL.out ?_; intro v1 w1 ho hb hg hat; have A1 := Aside0.mk ho; have A2 := Aside0.mk hb; have A3 := Aside0.mk hg; have A4 := Aside0.mk hat; clear ho hb hg hat)
      go_ret
      exact ⟨v1, rfl, A1.out, A2.out, A3.out, A4.out⟩
    · have hb1 : (0 : Int) ≤ (xs.length : Int) := by omega
      go_enter Tryd.func27, Tryd.ntmps27
      go_wp2_with ((with_reducible refine gate_builtin (b := .append) (xs := #[.tmp 23, .tmp 24]) rfl ?_); at_builtin; refine Kd.R_append k37 (w0 := w0) base rfl (.tmp 23) (.tmp 24) 22 37 (.agg #[(.string ⟨#[]⟩), (.int .i64 0), (.int .i64 0)]) 32 rfl Tryd.underlying22 info37 rfl (by decide) (by omega) (.slice (some ⟨g, 0, none⟩) xs.length cap) xs p cs ok okp rfl rfl HP'.out HK'.out HF'.out HO'.out HB'.out hbase HL.out ?_; intro v1 w1 ho hb hg hat; have A1 := Aside0.mk ho; have A2 := Aside0.mk hb; have A3 := Aside0.mk hg; have A4 := Aside0.mk hat; clear ho hb hg hat)
      all_goals (go_ret; exact ⟨v1, rfl, A1.out, A2.out, A3.out, A4.out⟩)
  · obtain ⟨hok, inner, ⟨hil, hcase⟩, hr⟩ := HO
    have k3 : k37.sz = 3 := rfl
    rw [k3] at hil hcase hr
    have hr' : Reps Ln 3 xs inner := hr.imp_ (fun x c h => k37_openM h)
    have h1c : ∀ u ∈ inner, u.oneCell' = true := reps_one hr' (fun x c h => by
      rw [show c = _ from h]
      exact k37.K_one (k37_mk W x))
    rcases hcase with ⟨_, h0⟩ | ⟨g, cap, cur, rfl, hgb, hg, hNc, hcm, hsz, htk⟩
    · omega
    have hgl := blk_lt hg
    have hcm' : cap ≤ 9223372036854775807 := by unfold maxLen at hcm; omega
    have hne : W.heap.size ≠ g := by omega
    have hg' : (W.alloc (.cells cs.toArray 37)).heap[g]? = some (.cells cur 37 (0, 0)) := blk_alloc hg _
    have hb' : (W.alloc (.cells cs.toArray 37)).heap[W.heap.size]? = some (.cells cs.toArray 37 (0, 0)) := heap_alloc_new W _
    have hsA : (W.alloc (.cells cs.toArray 37)).heap.size = W.heap.size + 1 := Array.size_push ..
    have hln : Ln p cs := hcs
    have hBA : Below base w0 (W.alloc (.cells cs.toArray 37)) := HB.alloc (by omega) _
    by_cases hroom : xs.length + 1 ≤ cap
    · refine (ins_shift g W.heap.size xs.length cap i cur cs _ (by omega) hroom hcm' hsz hg' hne hb' hcl hc1 (by rw [htk]; exact h1c)).mono ?_
      rintro e w1 ⟨rfl, rfl⟩
      have hspl : spl (spl cur.toList ((i + 1) * 3) ((cur.toList.take (xs.length * 3)).drop (i * 3))) (i * 3) cs = cur.toList.take (i * 3) ++ cs ++ (cur.toList.take (xs.length * 3)).drop (i * 3) ++ cur.toList.drop ((i + 1) * 3 + ((cur.toList.take (xs.length * 3)).drop (i * 3)).length) := by
        exact spl_shift (by omega) (by simp; omega)
      have hMl : ((cur.toList.take (xs.length * 3)).drop (i * 3)).length = (xs.length - i) * 3 := by simp; omega
      refine ⟨_, rfl, R_made (fun k hk => hok k (by simpa [Value.ownBlock] using hk)) ⟨?_, .inr ⟨g, cap, _, by rw [ins_len xs i p hi], hgb, setRow_heap _ g cur _ 37 _ hg', by rw [ins_len xs i p hi]; exact hroom, hcm, ?_, ?_⟩⟩ (ins_reps hr' hln i hi), ?_, ?_, .inl rfl⟩
      · rw [ins_len xs i p hi]; simp [hcl, hil]; omega
      · rw [List.size_toArray, spl_len, spl_len]
        · simpa using hsz
        · rw [hMl]; simp; omega
        · rw [spl_len _ _ _ (by rw [hMl]; simp; omega)]; simp; omega
      · rw [ins_len xs i p hi, hspl, List.take_append_of_le_length (by simp; omega), List.take_of_length_le (by simp; omega), ← htk, List.take_take, Nat.min_eq_left (by omega)]
      · exact below_setRow (Below.drew hBA) hgb _
      · refine ⟨rfl, rfl, rfl, ?_, fun k hk hkr => ?_⟩
        · rw [setRow_size]; show W.heap.size ≤ (W.alloc (.cells cs.toArray 37)).heap.size; omega
        · have hkg : k ≠ g := fun e => hkr (by rw [e]; rfl)
          exact (setRow_other _ g k _ hkg).trans (heap_alloc_old W _ hk)
    · refine (ins_grow g W.heap.size xs.length cap i cur cs _ (by omega) hNc (by omega) hl hsz hg' hne hb' hcl hc1 (by rw [htk]; exact h1c)).mono ?_
      rintro e w1 ⟨G, row, rfl, hG1, hG2, hrl, hrt, hh, hbel⟩
      refine ⟨_, rfl, R_made (fun k hk => ?_) ⟨?_, .inr ⟨_, G, _, by rw [ins_len xs i p hi], ?_, hh, by rw [ins_len xs i p hi]; exact hG1, hG2, by simpa using hrl, ?_⟩⟩ (ins_reps hr' hln i hi), ?_, ?_, .inr ⟨_, rfl, by show W.heap.size ≤ (W.alloc (.cells cs.toArray 37)).heap.size; omega⟩⟩
      · have : (W.alloc (.cells cs.toArray 37)).heap.size = k := by simpa [Value.ownBlock] using hk
        exact hfresh k (by omega)
      · rw [ins_len xs i p hi]; simp [hcl, hil]; omega
      · omega
      · rw [ins_len xs i p hi, List.toList_toArray, hrt, ← htk, List.take_take, Nat.min_eq_left (by omega)]
      · exact below_then hBA (by omega) hbel
      · exact grown_of_below (below_then ((Below.refl W.heap.size W).alloc (Nat.le_refl _) _) (by omega) hbel) _
section
variable {ops : Array Oper} {rest : List Oper} {o : Oper} {a : Act} {Q : Exit → Act → World → Prop}
theorem ins_own {w0 W : World} (base : Nat) (N : Option Tmp) (hd : o.dst = N) (hgd : o.guard = none) {ys : Array Operand} {ts : Array TypeId} (ho : o.op = .call { callee := .value (.func 27), args := ys, argTypes := ts })
    (v : Value) (xs : List S37) (i : Int) (p : S37) (cs : List Value) (ok okp : Nat → Prop) (hargs : ys.map a.eval = #[v, .int .i64 i, .slice (some ⟨W.heap.size, 0, none⟩) 1 1]) (hp : k37.M W base okp p cs) (hokp : ∀ k, okp k → ok k ∧ some k ≠ v.ownBlock) (hfresh : ∀ k, W.heap.size ≤ k → ok k)
    (HO : Kd.R k37 37 W base ok v xs) (HB : Below base w0 W) (hbase : base ≤ W.heap.size) (hl : xs.length < 4398046511104 ∧ 0 ≤ i ∧ i ≤ (xs.length : Int))
    (h : ∀ v1 w1, Kd.R k37 37 w1 base ok v1 (ins xs i p) → Below base w0 w1 → W.grownBy w1 v.ownBlock → (v1.ownBlock = v.ownBlock ∨ ∃ b, v1.ownBlock = some b ∧ W.heap.size ≤ b) → wpList Tryd.prog ops Q rest (a.put N v1) w1) :
    wpList Tryd.prog ops Q (o :: rest) a (W.alloc (.cells cs.toArray 37)) := by
  refine goesL_ N hd hgd Tryd.func27 (by kernel_rfl) (by kernel_rfl) _ ho hargs ?_
  obtain ⟨n, rfl⟩ := Int.eq_ofNat_of_zero_le hl.2.1
  refine (ins_calls (w0 := w0) base v xs p cs ok okp hp hokp hfresh HO HB hbase (by omega) n (by omega)).mono ?_
  rintro e w1 ⟨v1, rfl, h1, h2, h3, h4⟩
  exact ⟨v1, rfl, h v1 w1 h1 h2 h3 h4⟩
end
end Go.Proofs.YtalcopjlofbfaaaDoor.PAll
