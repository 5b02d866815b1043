
import Derived.Test.YtapfpdjcbeiibaaDoorQBatchBackWWords
import Derived.Test.YtapfpdjcbeiibaaDoorQBatchBackWMore
import Derived.ArgAppend
namespace Go.Proofs.YtapfpdjcbeiibaaDoor.Full
open Go Go.Proofs Go.RowKit Go.Proofs.YtapfpdjcbeiibaaDoorW.PrintWords
section
variable {P : Program} {ops : Array Oper} {rest : List Oper} {o : Oper} {a : Act} {Q : Exit → Act → World → Prop} {α : Type}
theorem olds_at {enc : α → Value} {h1 : ∀ x, (enc x).oneCell' = true} {W : World} {A : Option Addr} {xs : List α} (hC : (Kd.scalar enc h1).C W A xs.length xs) (b : Addr) (hb : A = some b) : ∀ j u, (encs enc xs)[j]? = some u → W.cell? (b.add j) = some u := by
  intro j u hu
  have hj : j < xs.length := by
    have := (List.getElem?_eq_some_iff.1 hu).1
    rwa [encs_length] at this
  obtain ⟨ad, c, hA, hc, hK, hx⟩ := Kd.C_get hC (xs[j]'hj) (j : Int) (by omega) (by omega)
  rw [hb] at hA
  injection hA with hA
  subst hA
  have hc1 : c = [enc (xs.getD (j : Int).toNat (xs[j]'hj))] := hK
  have := hx 0 u (by
    rw [hc1]
    have e1 : (encs enc xs)[j]? = some (enc (xs.getD j (xs[j]'hj))) := encs_get xs j hj
    rw [e1] at hu
    simpa using hu)
  have hz : (Kd.scalar enc h1).sz = 1 := rfl
  rw [hz] at this
  simpa using this
theorem R_append_full (enc : α → Value) {h1 : ∀ x, (enc x).oneCell' = true} {w0 W : World} (base : Nat) (hgd : o.guard = none) (s x : Operand) (t e : TypeId) (z : Value) (bytes : Nat)
    (ho : o.op = .call { callee := .builtin .append, args := #[s, x], argTypes := #[t, t] })
    (ht : P.underlying t = some (.slice e)) (hinfo : (P.info? e).map (fun i => (i.zero, i.size, i.bytes)) = some (some z, 1, bytes)) (hz : z.cells.size = 1) (hb0 : 0 < bytes)
    (A : Option Addr) (xs : List α) (p : α) (ok : Nat → Prop) (hs : a.eval s = .slice A xs.length xs.length) (hx : a.eval x = .slice (some ⟨W.heap.size, 0, none⟩) 1 1)
    (hC : (Kd.scalar enc h1).C W A xs.length xs) (hfresh : ∀ k, W.heap.size ≤ k → ok k) (HB : Below base w0 W) (hbase : base ≤ W.heap.size) (hl : (xs.length + 1) * bytes ≤ 140737488355328)
    (h : ∀ v1 w1, (Kd.scalar enc h1).R e w1 base ok v1 (xs ++ [p]) → Below base w0 w1 → W.grownBy w1 (Value.slice none 0 0).ownBlock → (v1.ownBlock = (Value.slice none 0 0).ownBlock ∨ ∃ b, v1.ownBlock = some b ∧ W.heap.size ≤ b) → wpList P ops Q rest (a.put o.dst v1) w1) :
    wpList P ops Q (o :: rest) a (W.alloc (.cells [enc p].toArray e)) := by
  obtain ⟨i0, hi, hzz⟩ := Option.map_eq_some_iff.1 hinfo
  simp only [Prod.mk.injEq] at hzz
  obtain ⟨hz0, hz1, hz2⟩ := hzz
  have hlen : xs.length + 1 ≤ 140737488355328 := Nat.le_trans (Nat.le_mul_of_pos_right _ hb0) hl
  have hC' : (Kd.scalar enc h1).C (W.alloc (.cells [enc p].toArray e)) A xs.length xs := Kd.C_below hC ((Below.refl _ _).alloc (Nat.le_refl _) _)
  refine wpList_append_grows (W.alloc (.cells [enc p].toArray e)) hgd s x t ho e i0 z 1 bytes ht hi hz0 hz1 hz2 hz (by decide) A xs.length xs.length (encs enc xs) hs ?_ (by rw [encs_length]; simp) (fun b hb => olds_at hC' b hb)
    ⟨W.heap.size, 0, none⟩ 1 1 [enc p] hx (by simp) (by simpa using World.news_of_block (cs := [enc p].toArray) (t := e) (fr := (0, 0)) (heap_alloc_new W (.cells [enc p].toArray e))) (fun u hu => by simp only [List.mem_singleton] at hu; subst hu; exact h1 p) (by omega) (by simp only [maxLen]; omega) hl ?_
  · intro hA
    rcases Nat.eq_zero_or_pos xs.length with h0 | h0
    · exact ⟨h0, h0⟩
    · obtain ⟨ad, c, hA2, _⟩ := Kd.C_get hC (xs[0]'h0) 0 (by omega) (by omega)
      rw [hA] at hA2; cases hA2
  · intro v1 w1 hown hg
    have hown2 : w1.ownsRow base e 1 v1 (xs ++ [p]).length (encs enc (xs ++ [p])) := by
      rw [List.length_append, encs_append]
      exact own_less hown (by simp; omega)
    have hat : ∃ b, v1.ownBlock = some b ∧ W.heap.size ≤ b := by
      rcases hown.2 with ⟨_, hz9⟩ | ⟨g, cap, cur, hv, hle, _⟩
      · omega
      · refine ⟨g, by rw [hv]; rfl, ?_⟩
        simp at hle; omega
    refine h v1 w1 (Kd.R_of_own hown2 (fun k hk => ?_)) ((HB.alloc hbase _).grown hg (by simp; omega) (fun k hk => by cases hk)) (World.grownBy.trans (World.grownBy_alloc W _ _) hg) (.inr hat)
    obtain ⟨b, hb, hle⟩ := hat
    rw [hb] at hk
    injection hk with hk
    exact hfresh k (by omega)
theorem R_append_full_string {w0 W : World} (base : Nat) (hgd : o.guard = none) (s x : Operand) (t e : TypeId) (z : Value) (bytes : Nat)
    (ho : o.op = .call { callee := .builtin .append, args := #[s, x], argTypes := #[t, t] })
    (ht : P.underlying t = some (.slice e)) (hinfo : (P.info? e).map (fun i => (i.zero, i.size, i.bytes)) = some (some z, 1, bytes)) (hz : z.cells.size = 1) (hb0 : 0 < bytes)
    (A : Option Addr) (xs : List ByteArray) (p : ByteArray) (ok : Nat → Prop) (hs : a.eval s = .slice A xs.length xs.length) (hx : a.eval x = .slice (some ⟨W.heap.size, 0, none⟩) 1 1)
    (hC : Kd.string.C W A xs.length xs) (hfresh : ∀ k, W.heap.size ≤ k → ok k) (HB : Below base w0 W) (hbase : base ≤ W.heap.size) (hl : (xs.length + 1) * bytes ≤ 140737488355328)
    (h : ∀ v1 w1, Kd.string.R e w1 base ok v1 (xs ++ [p]) → Below base w0 w1 → W.grownBy w1 (Value.slice none 0 0).ownBlock → (v1.ownBlock = (Value.slice none 0 0).ownBlock ∨ ∃ b, v1.ownBlock = some b ∧ W.heap.size ≤ b) → wpList P ops Q rest (a.put o.dst v1) w1) :
    wpList P ops Q (o :: rest) a (W.alloc (.cells [Value.string p].toArray e)) :=
  R_append_full Value.string (h1 := fun _ => rfl) base hgd s x t e z bytes ho ht hinfo hz hb0 A xs p ok hs hx hC hfresh HB hbase hl h
theorem cut_full (t e : TypeId) (kh km : IntKind) {i : TypeInfo} (ht : P.underlying t = some (.slice e)) (hi : P.info? e = some i) (A : Option Addr) (n c : Nat) (j : Int) (h0 : 0 ≤ j) (hm : j ≤ n) (hc : n ≤ c) :
    ∀ W : World, (Instr.slice t (.slice A n c) none (some (.int kh j)) (some (.int km j))).run P W = .ok (.slice A j.toNat j.toNat) W := by
  intro W
  have hel : P.elem t = e := by simp [Program.elem, ht]
  have hu : P.underlying t = some (.slice (P.elem t)) := by rw [hel]; exact ht
  have hb : (Instr.sliceBounds true n c none (some (.int kh j)) (some (.int km j))).run P W = .ok (0, j.toNat, j.toNat) W := by
    have e1 : (Instr.sliceBound (.int km j) c .slice3Acap).run P W = .ok j.toNat W := by rw [run_sliceBound] <;> omega
    have e2 : (Instr.sliceBound (.int kh j) j.toNat .slice3B).run P W = .ok j.toNat W := by rw [run_sliceBound] <;> omega
    simp [Instr.sliceBounds, e1, e2]
  have ha : (A.map fun x => x.add 0) = A := by cases A <;> simp [Addr.add]
  rw [run_slice_any W t A n c hu, hb, hel]
  simp [sizeOf, typeInfo, hi, sliced, Result.andThen, ha]
end
end Go.Proofs.YtapfpdjcbeiibaaDoor.Full
