
import Derived.Test.YtalcopjlofbfaaaDoorQLinesNamesWWords
import Derived.Great.BuildSlice
import Derived.Great.Walk
import Derived.Laws.CopyOwn
namespace Go.Proofs.YtalcopjlofbfaaaDoor.Ev
open Go Go.Proofs Go.RowKit Go.Great
section
variable {P : Program} {ops : Array Oper} {rest : List Oper} {o : Oper} {a : Act} {Q : Exit → Act → World → Prop}
theorem store_ev {W : World} (hgd : o.guard = none) (ty : TypeId) (x y : Operand) (ho : o.op = .store ty x y)
    (g off : Nat) (hx : a.eval x = .pointer (some ⟨g, off, none⟩)) (vs : List Value) (hy : (a.eval y).cells = vs.toArray) (t : TypeId) (old : Array Value) (hg : W.heap[g]? = some (.cells old t (0, 0)))
    (hi : (P.info? ty).map (·.size) = some vs.length) (hl : off + vs.length ≤ old.size) (h1 : vs.all (·.oneCell') = true) (new : Array Value)
    (hn : (old.toList.take off ++ vs ++ old.toList.drop (off + vs.length)).toArray = new)
    (h : ∀ w2, w2.heap[g]? = some (.cells new t (0, 0)) → w2.heap.size = W.heap.size → (∀ k, k ≠ g → w2.heap[k]? = W.heap[k]?) → (∀ B w0, B ≤ g → Below B w0 W → Below B w0 w2) → wpList P ops Q rest (a.put o.dst undef) w2) : wpList P ops Q (o :: rest) a W := by
  refine wpList_plain hgd fun K hK => ?_
  have hs := run_storeCells_at (P := P) g off t vs 0 old W hg (by omega) (fun v hv => List.all_eq_true.1 h1 v hv)
  rw [Nat.add_zero, hn] at hs
  have hr : (storeVar ty ⟨g, off, none⟩ (a.eval y)).run P W = .ok () (W.setRow g new) := by
    cases hq : P.info? ty with
    | none => simp [hq] at hi
    | some i =>
      have hz : i.size = vs.length := by simpa [hq] using hi
      simp [storeVar, sizeOf, typeInfo, hq, hy, hz, hs]
  unfold Oper.wp execOp
  simp only [ho, hx, Instr.storeAt, Instr.sureAddr, Sem.run_bind, Sem.run_pure, Result.andThen_ok, hr]
  exact hK _ _ (h _ (setRow_heap W g old new t _ hg) (by simp [World.setRow]) (fun k hk => setRow_other W g k new hk) (fun B w0 hB hb => below_setRow hb hB new))
end
end Go.Proofs.YtalcopjlofbfaaaDoor.Ev
