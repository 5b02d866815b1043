
import Derived.Test.YtalcopjlofbfaaaDoorQLinesNamesIns
set_option linter.unusedVariables false
set_option linter.unusedSimpArgs false
namespace Go.Proofs.YtalcopjlofbfaaaDoor.PAll
open Go Go.Proofs Go.RowKit Go.Proofs.YtalcopjlofbfaaaDoorW.PrintWords Go.Proofs.YtalcopjlofbfaaaDoorW.PrintLast Go.Proofs.YtalcopjlofbfaaaDoorW.PrintMore
theorem run_append_row3 (w : World) (ty : TypeId) (g sLen sCap : Nat) (a : Addr) (m c : Nat) (cur : Array Value) (news : List Value) (hl : news.length = m * 3) (hnews : ∀ j u, news[j]? = some u → w.cell? (a.add j) = some u) (h1 : ∀ u ∈ news, u.oneCell' = true)
    (hroom : sLen + m ≤ sCap) (hg : w.heap[g]? = some (.cells cur 37 (0, 0))) (hfit : sLen * 3 + news.length ≤ cur.size) :
    (Builtin.append_ #[22, 22] ty #[.slice (some ⟨g, 0, none⟩) sLen sCap, .slice (some a) m c]).run Tryd.prog w = .ok (.slice (some ⟨g, 0, none⟩) (sLen + m) sCap) (w.setRow g (spl cur.toList (sLen * 3) news).toArray) := by
  obtain ⟨i0, hi0, hzz⟩ := Option.map_eq_some_iff.1 info37
  simp only [Prod.mk.injEq] at hzz
  obtain ⟨hz0, hz1, hzb⟩ := hzz
  have hfc := run_firstCells_some (P := Tryd.prog) w 3 m a m c news hl hnews
  have hst := run_storeCells_at Tryd.prog g (sLen * 3) 37 news 0 cur w hg (by simpa using hfit) h1
  simp only [Nat.add_zero] at hst
  simp [Builtin.append_, run_underlying Tryd.underlying22, sizeOf, typeInfo, hi0, hz1, Builtin.lenOf, hroom, hfc, Addr.add_lit, hst, spl]
theorem run_clear1 (w : World) (ty : TypeId) (g o c : Nat) (cur : Array Value) (hg : w.heap[g]? = some (.cells cur 37 (0, 0))) (hfit : o + 3 ≤ cur.size) :
    (Builtin.clear_ #[22] ty #[.slice (some ⟨g, o, none⟩) 1 c]).run Tryd.prog w = .ok (.tuple #[]) (w.setRow g (spl cur.toList o [.string ⟨#[]⟩, .int .i64 0, .int .i64 0]).toArray) := by
  obtain ⟨i0, hi0, hzz⟩ := Option.map_eq_some_iff.1 info37
  simp only [Prod.mk.injEq] at hzz
  obtain ⟨hz0, hz1, hzb⟩ := hzz
  have hst := run_storeCells_at Tryd.prog g o 37 [.string ⟨#[]⟩, .int .i64 0, .int .i64 0] 0 cur w hg (by simpa using hfit) (by simp [Value.oneCell'])
  simp only [Nat.add_zero] at hst
  have hz : (Builtin.zeroCells (Value.agg #[(.string ⟨#[]⟩), (.int .i64 0), (.int .i64 0)]).cells 1).toList = [.string ⟨#[]⟩, .int .i64 0, .int .i64 0] := by kernel_rfl
  simp [Builtin.clear_, run_underlying Tryd.underlying22, zeroValue, typeInfo, hi0, hz0, hz, hst, spl]
section
variable {P : Program} {ops : Array Oper} {rest : List Oper} {o : Oper} {a : Act} {Q : Exit → Act → World → Prop}
theorem append_known_step {w : World} {K : Act → World → Prop} {E : Prop} (hg : o.guard = none) (d x : Operand) (dT sT : TypeId) (hop : o.op = Op.call { callee := Callee.builtin Builtin.append, args := #[d, x], argTypes := #[dT, sT] })
    (v u : Value) (hd : a.eval d = v) (hx : a.eval x = u) {v' : Value} {w' : World} (hr : (Builtin.append_ #[dT, sT] o.type #[v, u]).run P w = .ok v' w') (hK : K (a.put o.dst v') w') :
    if Region.wanted o (yielded ops a.tmps) = true then Oper.wp P o a w K Q else E := by
  have hw : Region.wanted o (yielded ops a.tmps) = true := by simp [Region.wanted, hg]
  rw [if_pos hw]
  unfold Oper.wp
  simp [execOp, hop, resolve, invoke, builtin, hd, hx, hr, Result.andThen]
  exact hK
theorem clear_known (w : World) (hgd : o.guard = none) (d : Operand) (t : TypeId)
    (ho : o.op = .call { callee := .builtin .clear, args := #[d], argTypes := #[t] }) (v : Value) (hd : a.eval d = v) {v' : Value} {w' : World}
    (hr : (Builtin.clear_ #[t] o.type #[v]).run P w = .ok v' w') (h : wpList P ops Q rest (a.put o.dst v') w') : wpList P ops Q (o :: rest) a w := by
  refine wpList_plain hgd fun K hK => ?_
  unfold Oper.wp execOp
  simp only [ho, resolve, invoke, builtin, Sem.run_bind, Sem.run_pure, Result.andThen_ok, List.map_toArray, List.map_cons, List.map_nil, hd, hr]
  exact hK _ _ h
end
set_option maxHeartbeats 4000000 in
set_option maxRecDepth 100000 in
theorem del_mid (g N cap i : Nat) (cur : Array Value) (w : World) (hi : i + 1 < N) (hNc : N ≤ cap) (hcap : cap ≤ 9223372036854775807) (hsize : cur.size = cap * 3)
    (hg : w.heap[g]? = some (.cells cur 37 (0, 0))) (h1c : ∀ v ∈ cur.toList.take (N * 3), v.oneCell' = true) :
    Calls Tryd.prog 36 #[.slice (some ⟨g, 0, none⟩) N cap, .int .i64 i, .int .i64 ((i : Int) + 1)] w fun e w' => ∃ row : List Value,
      e = .returned (.slice (some ⟨g, 0, none⟩) (N - 1) cap) ∧ row.length = cap * 3 ∧ row.take ((N - 1) * 3) = cur.toList.take (i * 3) ++ (cur.toList.take (N * 3)).drop ((i + 1) * 3) ∧ w' = w.drew.setRow g row.toArray := by
  obtain ⟨MV, hMV⟩ : ∃ MV, MV = (cur.toList.take (N * 3)).drop ((i + 1) * 3) := ⟨_, rfl⟩
  have hMl : MV.length = (N - 1 - i) * 3 := by rw [hMV]; simp; omega
  have hlen : cur.toList.length = cap * 3 := by simpa using hsize
  obtain ⟨R1, hR1⟩ : ∃ R1, R1 = spl cur.toList (i * 3) MV := ⟨_, rfl⟩
  have hR1l : R1.length = cap * 3 := by rw [hR1, spl_len _ _ _ (by omega)]; exact hlen
  obtain ⟨R2, hR2⟩ : ∃ R2, R2 = spl R1 ((N - 1) * 3) [.string ⟨#[]⟩, .int .i64 0, .int .i64 0] := ⟨_, rfl⟩
  have hR2l : R2.length = cap * 3 := by rw [hR2, spl_len _ _ _ (by simp; omega)]; exact hR1l
  have hap : ∀ ty (a : Addr) sc, (N - (i + 1) = 0 ∨ a = ⟨g, (i + 1) * 3, none⟩) → (Builtin.append_ #[22, 22] ty #[.slice (some ⟨g, 0, none⟩) i cap, .slice (some a) (N - (i + 1)) sc]).run Tryd.prog w.drew = .ok (.slice (some ⟨g, 0, none⟩) (N - 1) cap) (w.drew.setRow g R1.toArray) := fun ty a sc ha => by
    have h := run_append_row3 w.drew ty g i cap a (N - (i + 1)) sc cur MV (by rw [hMl]; omega) (fun j v hj => by
      rcases ha with h0 | rfl
      · have : MV.length = 0 := by rw [hMl]; omega
        rw [List.eq_nil_of_length_eq_zero this] at hj; cases hj
      · rw [Addr.add_lit, blk_cell (w := w.drew) hg]
        rw [hMV, List.getElem?_drop, List.getElem?_take] at hj
        split at hj
        · rw [← hj]; simp
        · cases hj) (fun v hv => h1c v (by rw [hMV] at hv; exact List.mem_of_mem_drop hv)) (by omega) hg (by omega)
    rw [h, hR1, show i + (N - (i + 1)) = N - 1 from by omega]
  have hN1 : (w.drew.setRow g R1.toArray).heap[g]? = some (.cells R1.toArray 37 (0, 0)) := setRow_heap w.drew g cur _ 37 _ hg
  have hcl : ∀ ty c, (Builtin.clear_ #[22] ty #[.slice (some ⟨g, (N - 1) * 3, none⟩) 1 c]).run Tryd.prog (w.drew.setRow g R1.toArray) = .ok (.tuple #[]) ((w.drew.setRow g R1.toArray).setRow g R2.toArray) := fun ty c => by
    have h := run_clear1 (w.drew.setRow g R1.toArray) ty g ((N - 1) * 3) c R1.toArray hN1 (by simp; omega)
    rw [h, hR2]
  have fin : R2.take ((N - 1) * 3) = cur.toList.take (i * 3) ++ MV := by
    have e1 : R2.take ((N - 1) * 3) = R1.take ((N - 1) * 3) := by
      rw [hR2]; unfold spl
      have : (R1.take ((N - 1) * 3)).length = (N - 1) * 3 := by simp; omega
      rw [List.append_assoc, List.take_append_of_le_length (by omega), List.take_take, Nat.min_self]
    rw [e1, hR1]; unfold spl
    have : (cur.toList.take (i * 3) ++ MV).length = (N - 1) * 3 := by rw [List.length_append, hMl]; simp; omega
    rw [List.take_append_of_le_length (by omega), List.take_of_length_le (by omega)]
  have a1 : ¬ ((i : Int) = (i : Int) + 1) := by omega
  have a2 : i ≤ i + 1 := by omega
  have a3 : (i : Int) ≤ (i : Int) + 1 := by omega
  have a4 : i + 1 ≤ N := by omega
  have a5 : (0 : Int) ≤ (i : Int) + 1 := by omega
  have a6 : ((i : Int) + 1).toNat = i + 1 := by omega
  have a7 : ¬ (cap = i) := by omega
  have a8 : ¬ (N = i) := by omega
  have a9 : ¬ (cap = N - 1) := by omega
  have b1 : (i : Int) + 1 ≤ (N : Int) := by omega
  have b2 : (i : Int) ≤ (N : Int) := by omega
  have b3 : (N : Int) ≤ (cap : Int) := by omega
  have b4 : (i : Int) ≤ (cap : Int) := by omega
  have b5 : N - 1 ≤ N := by omega
  have b6 : N - (N - 1) = 1 := by omega
  have b7 : i ≤ N := by omega
  have b8 : i ≤ cap := by omega
  have hu22 := Tryd.underlying22
  have mixed : Tryd.prog.follows Departure.mixedOrders = true := by kernel_rfl
  have HL := Aside0.mk hR2l
  have HF := Aside0.mk fin
  have HM := Aside0.mk hMV
  clear hR2l fin hMV hR1 hR2 hR1l hMl hlen
  rw [← HM.out]
  have hap1 := fun ty sc => hap ty ⟨g, (i + 1) * 3, none⟩ sc (.inr rfl)
  have cc : ¬ (cap = i + 1) := by omega
  clear hap
  go_enter Tryd.func36, Tryd.ntmps36
  go_wp2
  go_region_law_o (refine append_known_step rfl (.tmp 22) (.tmp 25) 22 22 rfl (.slice (some ⟨g, 0, none⟩) i cap) (.slice (some ⟨g, (i + 1) * 3, none⟩) (N - (i + 1)) (cap - (i + 1))) ?hd ?hx (hap1 _ _) ?_; (case hd => rfl); (case hx => rfl))
  go_wp2_with ((with_reducible refine gate_builtin (b := .clear) (xs := #[.tmp 31]) rfl ?_); refine clear_known _ rfl _ 22 rfl _ rfl (hcl _ _) ?_)
  go_ret
  exact ⟨R2, rfl, HL.out, HF.out, by rw [setRow_setRow]⟩
set_option maxHeartbeats 4000000 in
set_option maxRecDepth 100000 in
theorem del_end (g cap i : Nat) (cur : Array Value) (w : World) (hNc : i + 1 ≤ cap) (hcap : cap ≤ 9223372036854775807) (hsize : cur.size = cap * 3)
    (hg : w.heap[g]? = some (.cells cur 37 (0, 0))) :
    Calls Tryd.prog 36 #[.slice (some ⟨g, 0, none⟩) (i + 1) cap, .int .i64 i, .int .i64 ((i : Int) + 1)] w fun e w' => ∃ row : List Value,
      e = .returned (.slice (some ⟨g, 0, none⟩) i cap) ∧ row.length = cap * 3 ∧ row.take (i * 3) = cur.toList.take (i * 3) ∧ w' = w.drew.setRow g row.toArray := by
  have hlen : cur.toList.length = cap * 3 := by simpa using hsize
  obtain ⟨R2, hR2⟩ : ∃ R2, R2 = spl cur.toList (i * 3) [.string ⟨#[]⟩, .int .i64 0, .int .i64 0] := ⟨_, rfl⟩
  have hR2l : R2.length = cap * 3 := by rw [hR2, spl_len _ _ _ (by simp; omega)]; exact hlen
  have hcl : ∀ ty c, (Builtin.clear_ #[22] ty #[.slice (some ⟨g, i * 3, none⟩) 1 c]).run Tryd.prog w.drew = .ok (.tuple #[]) (w.drew.setRow g R2.toArray) := fun ty c => by
    rw [run_clear1 w.drew ty g (i * 3) c cur hg (by omega), hR2]
  have fin : R2.take (i * 3) = cur.toList.take (i * 3) := by
    rw [hR2]; unfold spl
    have : (cur.toList.take (i * 3)).length = i * 3 := by simp; omega
    rw [List.append_assoc, List.take_append_of_le_length (by omega), List.take_take, Nat.min_self]
  have hR1l : cur.size = cap * 3 := hsize
  have hap : ∀ ty (a : Addr) sc, (Builtin.append_ #[22, 22] ty #[.slice (some ⟨g, 0, none⟩) i cap, .slice (some a) 0 sc]).run Tryd.prog w.drew = .ok (.slice (some ⟨g, 0, none⟩) i cap) w.drew := fun ty a sc => by
    have h := run_append_row3 w.drew ty g i cap a 0 sc cur [] rfl (fun j v hj => by cases hj) (fun v hv => by cases hv) (by omega) hg (by simp; omega)
    rw [h]
    have : (spl cur.toList (i * 3) []).toArray = cur := by simp [spl]
    rw [this, setRow_self w.drew g cur 37 (0, 0) hg]; rfl
  have a1 : ¬ ((i : Int) = (i : Int) + 1) := by omega
  have a2 : i ≤ i + 1 := by omega
  have a3 : (i : Int) ≤ (i : Int) + 1 := by omega
  have a5 : (0 : Int) ≤ (i : Int) + 1 := by omega
  have a6 : ((i : Int) + 1).toNat = i + 1 := by omega
  have a7 : ¬ (cap = i) := by omega
  have b3 : (i : Int) + 1 ≤ (cap : Int) := by omega
  have b4 : (i : Int) ≤ (cap : Int) := by omega
  have b8 : i ≤ cap := by omega
  have b9 : i + 1 - i = 1 := by omega
  have hu22 := Tryd.underlying22
  have mixed : Tryd.prog.follows Departure.mixedOrders = true := by kernel_rfl
  have HL := Aside0.mk hR2l
  have HF := Aside0.mk fin
  clear hR2l fin hR2 hlen
  by_cases cc : cap = i + 1
  · subst cc
    go_enter Tryd.func36, Tryd.ntmps36
    go_wp2
    go_region_law_o (refine append_known_step rfl _ _ 22 22 rfl _ _ (by simp [Act.eval, Act.put]) (by simp [Act.eval, Act.put]) (hap _ _ _) ?_)
    go_wp2_with ((with_reducible refine gate_builtin (b := .clear) (xs := #[.tmp 31]) rfl ?_); refine clear_known _ rfl _ 22 rfl _ rfl (hcl _ _) ?_)
    go_ret
    exact ⟨R2, rfl, HL.out, HF.out, rfl⟩
  · go_enter Tryd.func36, Tryd.ntmps36
    go_wp2
    go_region_law_o (refine append_known_step rfl _ _ 22 22 rfl _ _ (by simp [Act.eval, Act.put]) (by simp [Act.eval, Act.put]) (hap _ _ _) ?_)
    go_wp2_with ((with_reducible refine gate_builtin (b := .clear) (xs := #[.tmp 31]) rfl ?_); refine clear_known _ rfl _ 22 rfl _ rfl (hcl _ _) ?_)
    go_ret
    exact ⟨R2, rfl, HL.out, HF.out, rfl⟩
theorem del_any (g N cap i : Nat) (cur : Array Value) (w : World) (hi : i < N) (hNc : N ≤ cap) (hcap : cap ≤ 9223372036854775807) (hsize : cur.size = cap * 3)
    (hg : w.heap[g]? = some (.cells cur 37 (0, 0))) (h1c : ∀ v ∈ cur.toList.take (N * 3), v.oneCell' = true) :
    Calls Tryd.prog 36 #[.slice (some ⟨g, 0, none⟩) N cap, .int .i64 i, .int .i64 ((i : Int) + 1)] w fun e w' => ∃ row : List Value,
      e = .returned (.slice (some ⟨g, 0, none⟩) (N - 1) cap) ∧ row.length = cap * 3 ∧ row.take ((N - 1) * 3) = cur.toList.take (i * 3) ++ (cur.toList.take (N * 3)).drop ((i + 1) * 3) ∧ w' = w.drew.setRow g row.toArray := by
  by_cases c : i + 1 < N
  · exact del_mid g N cap i cur w c hNc hcap hsize hg h1c
  · obtain rfl : N = i + 1 := by omega
    refine (del_end g cap i cur w hNc hcap hsize hg).mono ?_
    rintro e w1 ⟨row, rfl, h1, h2, h3⟩
    refine ⟨row, rfl, h1, ?_, h3⟩
    rw [show i + 1 - 1 = i from by omega, h2, List.drop_of_length_le (by simp; omega), List.append_nil]
end Go.Proofs.YtalcopjlofbfaaaDoor.PAll
