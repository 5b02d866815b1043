
import Derived.Test.YtfikgnneajlgbaaQBankApartPAllx0
import Derived.Maps.OwnSet
import Derived.Maps.OwnOps
import Derived.Maps.Views
set_option linter.unusedVariables false
namespace Go.Proofs.Ytfikgnneajlgbaa.PAll
open Go Go.Proofs Go.RowKit Go.Proofs.YtfikgnneajlgbaaW.PrintWords Go.Proofs.YtfikgnneajlgbaaW.PrintLast Go.Proofs.YtfikgnneajlgbaaW.PrintMore Go.Maps
def heldElem (v : Value) : Option (DataW Value × List MemPlace) := some (.held v, [])
def MapV {κ : Type} (W : World) (k : TypeId) (enc : κ → Lit) (b n : Nat) (f : κ → Option Value) : Prop :=
  ∃ D : DataW Value, W.ownsMap Try.prog k heldElem b n D ∧ ∀ x, (f x = none → has D (enc x) = false) ∧ (∀ v, f x = some v → has D (enc x) = true ∧ ∀ z, D.atKey (enc x) z = .held v)
def upd {κ : Type} [DecidableEq κ] (f : κ → Option Value) (y : κ) (v : Value) : κ → Option Value := fun x => if x = y then some v else f x
theorem upd_same {κ : Type} [DecidableEq κ] (f : κ → Option Value) (y : κ) (v : Value) : upd f y v y = some v := if_pos rfl
theorem upd_other {κ : Type} [DecidableEq κ] (f : κ → Option Value) {x y : κ} (v : Value) (h : x ≠ y) : upd f y v x = f x := if_neg h
section
variable {κ : Type} {W W1 : World} {k : TypeId} {enc : κ → Lit} {b n : Nat} {f : κ → Option Value}
theorem MapV.mono (h : MapV W k enc b n f) {n' : Nat} (hn : n ≤ n') : MapV W k enc b n' f := by
  obtain ⟨D, h1, h2⟩ := h
  exact ⟨D, h1.mono hn, h2⟩
theorem MapV.made (W : World) (k : TypeId) (enc : κ → Lit) : MapV (W.alloc (.map #[] 0)) k enc W.heap.size 0 (fun _ => none) :=
  ⟨.map [], World.ownsMap_made _ _ _ _, fun x => ⟨fun _ => rfl, fun v hv => by cases hv⟩⟩
theorem MapV.obj (h : MapV W k enc b n f) : ∃ es clock, W.heap[b]? = some (.map es clock) := by
  obtain ⟨D, ⟨es, clock, hb, _⟩, _⟩ := h
  exact ⟨es, clock, hb⟩
theorem MapV.move (h : MapV W k enc b n f) (hb : W1.heap[b]? = W.heap[b]?) : MapV W1 k enc b n f := by
  obtain ⟨D, ⟨es, clock, h1, r⟩, h2⟩ := h
  exact ⟨D, ⟨es, clock, hb.trans h1, r⟩, h2⟩
theorem MapV.lt (h : MapV W k enc b n f) : b < W.heap.size := by
  obtain ⟨es, clock, hb⟩ := h.obj
  exact (Array.getElem?_eq_some_iff.1 hb).1
theorem MapV.below (h : MapV W k enc b n f) (hb : Below W.heap.size W W1) : MapV W1 k enc b n f := h.move (hb.block b h.lt)
theorem MapV.alloc (h : MapV W k enc b n f) (o : Obj) : MapV (W.alloc o) k enc b n f := h.below (below_alloc (Below.refl _ _) o)
theorem MapV.setCell (h : MapV W k enc b n f) {p : Addr} {cs : Array Value} {t : TypeId} (hc : W.heap[p.block]? = some (.cells cs t (0, 0))) (u : Value) : MapV (W.setCell p u) k enc b n f :=
  h.move (Below.heap_setCell W p u b (fun e => by
    obtain ⟨es, clock, hb⟩ := h.obj
    rw [e, hc] at hb
    cases hb))
theorem MapV.look (h : MapV W k enc b n f) (K : Keyed Try.prog k) {t e : TypeId} (ht : Try.prog.underlying t = some (.map k e)) {z : Value} (hz : (zeroValue e).run Try.prog W = .ok z W) {key : Value} {y : κ} (hkey : keyOf Try.prog k key = some (enc y)) :
    (Instr.lookup t (.map (some b)) key true).run Try.prog W = .ok (.tuple #[(f y).getD z, .bool (f y).isSome]) W ∧ (Instr.lookup t (.map (some b)) key false).run Try.prog W = .ok ((f y).getD z) W := by
  obtain ⟨D, h1, h2⟩ := h
  obtain ⟨v, ps, hrun, hv⟩ := h1.look_ok K ht hz (zd := .held z) (zp := []) rfl hkey
  obtain ⟨v', ps', hrun', hv'⟩ := h1.lookup K ht hz (zd := .held z) (zp := []) rfl hkey
  have key_ : ∀ {u : Value} {qs : List MemPlace}, heldElem u = some (D.atKey (enc y) (.held z), qs) → u = (f y).getD z ∧ has D (enc y) = (f y).isSome := by
    intro u qs hu
    cases hf : f y with
    | none =>
      have h3 := (h2 y).1 hf
      rw [atKey_of_not_has h3] at hu
      simp only [heldElem, Option.some.injEq, Prod.mk.injEq, DataW.held.injEq] at hu
      exact ⟨hu.1, h3⟩
    | some a =>
      obtain ⟨h3, h4⟩ := (h2 y).2 a hf
      rw [h4] at hu
      simp only [heldElem, Option.some.injEq, Prod.mk.injEq, DataW.held.injEq] at hu
      exact ⟨hu.1, h3⟩
  obtain ⟨e1, e2⟩ := key_ hv
  obtain ⟨e3, _⟩ := key_ hv'
  rw [e2, e1] at hrun
  rw [e3] at hrun'
  exact ⟨hrun, hrun'⟩
variable [DecidableEq κ]
theorem MapV.store (h : MapV W k enc b n f) (hinj : ∀ x y, enc x = enc y → x = y) (K : Keyed Try.prog k) {t e : TypeId} (ht : Try.prog.underlying t = some (.map k e)) (hn : n < maxLen) {key val : Value} {y : κ} (hkey : keyOf Try.prog k key = some (enc y)) :
    ∃ w', (Instr.mapUpdate t (.map (some b)) key val).run Try.prog W = .ok () w' ∧ MapV w' k enc b (n + 1) (upd f y val) ∧ W.mapTurned w' b := by
  obtain ⟨D, h1, h2⟩ := h
  obtain ⟨w', hrun, h3, h4⟩ := h1.store K ht hn (val := val) (d := .held val) (ps := []) hkey rfl
  have hm := h1.isMap
  have hk := K.key hkey
  refine ⟨w', hrun, ⟨_, h3, fun x => ?_⟩, h4⟩
  by_cases e : x = y
  · subst e
    rw [upd_same]
    exact ⟨fun q => (by cases q), fun v hv => by injection hv with hv; subst hv; exact ⟨has_put_same hm hk _, fun z => atKey_put_same hm hk _ z⟩⟩
  · rw [upd_other f val e]
    have hne : enc x ≠ enc y := fun q => e (hinj _ _ q)
    exact ⟨fun q => by rw [has_put_other hne]; exact (h2 x).1 q, fun v hv => ⟨by rw [has_put_other hne]; exact ((h2 x).2 v hv).1, fun z => by rw [atKey_put_other hne]; exact ((h2 x).2 v hv).2 z⟩⟩
end
section
variable {κ : Type} {W : World} {k : TypeId} {enc : κ → Lit} {b n : Nat} {f : κ → Option Value} {ops : Array Oper} {rest : List Oper} {o : Oper} {a : Act} {Q : Exit → Act → World → Prop}
theorem MapV.look_ok_wp (h : MapV W k enc b n f) (hg : o.guard = none) (m x : Operand) (t : TypeId) (hop : o.op = Op.lookup t m x true) (K : Keyed Try.prog k) (e : TypeId) (ht : Try.prog.underlying t = some (.map k e)) (z : Value) (hz : (zeroValue e).run Try.prog W = .ok z W)
    (hm : a.eval m = .map (some b)) (key : Value) (y : κ) (hx : a.eval x = key) (hkey : keyOf Try.prog k key = some (enc y)) (hK : wpList Try.prog ops Q rest (a.put o.dst (.tuple #[(f y).getD z, .bool (f y).isSome])) W) : wpList Try.prog ops Q (o :: rest) a W := by
  refine wpList_plain hg fun K' hK' => ?_
  have hrun := (h.look K ht hz hkey).1
  unfold Oper.wp
  simp [execOp, hop, hm, hx, hrun, Result.andThen]
  exact hK' _ _ hK
theorem MapV.look_wp (h : MapV W k enc b n f) (hg : o.guard = none) (m x : Operand) (t : TypeId) (hop : o.op = Op.lookup t m x false) (K : Keyed Try.prog k) (e : TypeId) (ht : Try.prog.underlying t = some (.map k e)) (z : Value) (hz : (zeroValue e).run Try.prog W = .ok z W)
    (hm : a.eval m = .map (some b)) (key : Value) (y : κ) (hx : a.eval x = key) (hkey : keyOf Try.prog k key = some (enc y)) (hK : wpList Try.prog ops Q rest (a.put o.dst ((f y).getD z)) W) : wpList Try.prog ops Q (o :: rest) a W := by
  refine wpList_plain hg fun K' hK' => ?_
  have hrun := (h.look K ht hz hkey).2
  unfold Oper.wp
  simp [execOp, hop, hm, hx, hrun, Result.andThen]
  exact hK' _ _ hK
theorem MapV.store_wp [DecidableEq κ] (h : MapV W k enc b n f) (hinj : ∀ x y, enc x = enc y → x = y) (hg : o.guard = none) (m x v : Operand) (t : TypeId) (hop : o.op = Op.mapUpdate t m x v) (K : Keyed Try.prog k) (e : TypeId) (ht : Try.prog.underlying t = some (.map k e)) (hn : n < maxLen)
    (hm : a.eval m = .map (some b)) (key val : Value) (y : κ) (hx : a.eval x = key) (hv : a.eval v = val) (hkey : keyOf Try.prog k key = some (enc y)) (hK : ∀ w', MapV w' k enc b (n + 1) (upd f y val) → W.mapTurned w' b → wpList Try.prog ops Q rest (a.put o.dst undef) w') : wpList Try.prog ops Q (o :: rest) a W := by
  refine wpList_plain hg fun K' hK' => ?_
  obtain ⟨w', hrun, r1, r2⟩ := h.store hinj K ht hn (val := val) hkey
  unfold Oper.wp
  simp [execOp, hop, hm, hx, hv, hrun, Result.andThen]
  exact hK' _ _ (hK w' r1 r2)
end
theorem turned_blk {W W1 : World} {b g : Nat} {o : Obj} (h : W.mapTurned W1 b) (hg : W.heap[g]? = some o) (hne : g ≠ b) : W1.heap[g]? = some o := blk_grown hg h.grown (fun e => hne (by injection e))
theorem turned_cells {W W1 : World} {b g : Nat} {cs : Array Value} {t : TypeId} (h : W.mapTurned W1 b) (hg : W.heap[g]? = some (.cells cs t (0, 0))) : W1.heap[g]? = some (.cells cs t (0, 0)) := turned_blk h hg (fun e => by
  obtain ⟨es, clock, _, _, hb, _⟩ := h
  rw [e, hb] at hg
  cases hg)
theorem turned_below {B : Nat} {W0 W W1 : World} {b : Nat} (hb : Below B W0 W) (h : W.mapTurned W1 b) (hB : B ≤ b) (hlt : b < W.heap.size) : Below B W0 W1 := hb.grown h.grown (by omega) (fun k hk => by injection hk with hk; omega)
end Go.Proofs.Ytfikgnneajlgbaa.PAll
