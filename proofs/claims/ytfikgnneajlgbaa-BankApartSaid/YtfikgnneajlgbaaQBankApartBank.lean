
import Derived.Test.YtfikgnneajlgbaaQBankApartMapV
import Derived.Test.YtfikgnneajlgbaaQBankApartPAllx2
set_option linter.unusedVariables false
set_option linter.unusedSimpArgs false
namespace Go.Proofs.Ytfikgnneajlgbaa.PAll
open Go Go.Proofs Go.RowKit Go.Proofs.YtfikgnneajlgbaaW.PrintWords Go.Proofs.YtfikgnneajlgbaaW.PrintLast Go.Proofs.YtfikgnneajlgbaaW.PrintMore Go.Maps
def KeepO (φ : Obj → Prop) (W W1 : World) : Prop := W.heap.size ≤ W1.heap.size ∧ ∀ (k : Nat) (o : Obj), W.heap[k]? = some o → φ o → W1.heap[k]? = some o
section
variable {φ : Obj → Prop} {W W1 W2 : World}
theorem KeepO.refl (φ : Obj → Prop) (W : World) : KeepO φ W W := ⟨Nat.le_refl _, fun _ _ h _ => h⟩
theorem KeepO.trans (h : KeepO φ W W1) (k : KeepO φ W1 W2) : KeepO φ W W2 := ⟨Nat.le_trans h.1 k.1, fun i o hi hp => k.2 i o (h.2 i o hi hp) hp⟩
theorem KeepO.of_below (φ : Obj → Prop) (hb : Below W.heap.size W W1) : KeepO φ W W1 := ⟨hb.size, fun k o hk _ => blk_below hk hb⟩
theorem KeepO.below (h : KeepO φ W W1) (hb : Below W1.heap.size W1 W2) : KeepO φ W W2 := h.trans (KeepO.of_below φ hb)
theorem KeepO.alloc (h : KeepO φ W W1) (o : Obj) : KeepO φ W (W1.alloc o) := h.below (below_alloc (Below.refl _ _) o)
theorem KeepO.drew (h : KeepO φ W W1) : KeepO φ W W1.drew := h
theorem KeepO.setCell (h : KeepO φ W W1) {p : Addr} {cs : Array Value} {t : TypeId} (hc : W1.heap[p.block]? = some (.cells cs t (0, 0))) (hn : ¬ φ (.cells cs t (0, 0))) (u : Value) : KeepO φ W (W1.setCell p u) :=
  ⟨by rw [World.size_setCell]; exact h.1, fun k o hk hp => (Below.heap_setCell W1 p u k (fun e => by
    have h2 := h.2 k o hk hp
    rw [e, hc] at h2
    injection h2 with h2
    exact hn (h2 ▸ hp))).trans (h.2 k o hk hp)⟩
theorem KeepO.grown (h : KeepO φ W W1) {row : Option Nat} (hg : W1.grownBy W2 row) (hr : ∀ k, row = some k → ∃ cs t, W1.heap[k]? = some (.cells cs t (0, 0)) ∧ ¬ φ (.cells cs t (0, 0))) : KeepO φ W W2 :=
  ⟨Nat.le_trans h.1 hg.size, fun k o hk hp => blk_grown (h.2 k o hk hp) hg (fun e => by
    obtain ⟨cs, t, hc, hn⟩ := hr k e.symm
    have h2 := h.2 k o hk hp
    rw [hc] at h2
    injection h2 with h2
    exact hn (h2 ▸ hp))⟩
theorem KeepO.turned (h : KeepO φ W W1) {b : Nat} (ht : W1.mapTurned W2 b) (hn : ∀ es c, ¬ φ (.map es c)) : KeepO φ W W2 :=
  ⟨Nat.le_trans h.1 ht.grown.size, fun k o hk hp => turned_blk ht (h.2 k o hk hp) (fun e => by
    obtain ⟨es, clock, _, _, hb, _⟩ := ht
    have h2 := h.2 k o hk hp
    rw [e, hb] at h2
    injection h2 with h2
    exact hn _ _ (h2 ▸ hp))⟩
theorem Kd.R_keepO {α : Type} {d : Kd α} {e base : Nat} {ok : Nat → Prop} {v : Value} {xs : List α} (h : d.R e W base ok v xs) (hk : KeepO φ W W1) (ht : ∀ q, q ∈ e :: d.E → ∀ cs, φ (.cells cs q (0, 0))) : d.R e W1 base ok v xs := by
  refine Kd.R_mono (Kd.R_step (Kd.R_bound h) (fun k hb _ => ?_)) (fun k hb => hb.1)
  obtain ⟨_, _, _, q, hq, cells, hc⟩ := hb
  rw [hc]
  exact hk.2 k _ hc (ht q hq cells)
end
def bankObj : Obj → Prop
  | .map _ _ => True
  | .cells _ t _ => t = 60 ∨ t = 65 ∨ t = 4 ∨ t = 76
  | _ => False
def isCells (o : Obj) : Prop := ∃ cs t fr, o = .cells cs t fr
def refObj : Obj → Prop
  | .cells _ t _ => t ≠ 60 ∧ t ≠ 65 ∧ t ≠ 76
  | _ => False
structure Acc where
  amount : Int
  paid : Int
  held : Bool
  times : Int
structure Bk where
  acc : ByteArray → Acc
  ans : Int → Option Bool
  bad : List S76
def acc0 : Acc := ⟨0, 0, false, 0⟩
def accCells (a : Acc) : Array Value := #[.int .i64 a.amount, .int .i64 a.paid, .bool a.held, .int .i64 a.times]
def encS (s : ByteArray) : Lit := .string s.data.toList
def encI (i : Int) : Lit := .int .i64 i
theorem encS_inj (x y : ByteArray) (h : encS x = encS y) : x = y := by
  unfold encS at h
  injection h with h
  cases x; cases y
  simp only [ByteArray.mk.injEq]
  exact Array.toList_inj.1 h
theorem encI_inj (x y : Int) (h : encI x = encI y) : x = y := by
  unfold encI at h
  injection h
abbrev ptr (b : Nat) : Value := .pointer (some ⟨b, 0, none⟩)
structure BankV (W : World) (B g m1 m2 n : Nat) (vb : Value) (fA : ByteArray → Option Value) (fN : Int → Option Value) (st : Bk) : Prop where
  box : W.heap[g]? = some (.cells #[.map (some m1), .map (some m2), vb] 60 (0, 0))
  geg : B ≤ g
  ge1 : B ≤ m1
  ge2 : B ≤ m2
  ne : m1 ≠ m2
  mA : MapV W 9 encS m1 n fA
  mN : MapV W 2 encI m2 n fN
  bad : k76.R 76 W B (fun _ => True) vb st.bad
  acc : ∀ id, (fA id = none → st.acc id = acc0) ∧ (∀ v, fA id = some v → ∃ b, v = ptr b ∧ B ≤ b ∧ W.heap[b]? = some (.cells (accCells (st.acc id)) 65 (0, 0)))
  inj : ∀ id id' v, fA id = some v → fA id' = some v → id = id'
  ans : ∀ k, (fN k = none → st.ans k = none) ∧ (∀ v, fN k = some v → ∃ b x, v = ptr b ∧ B ≤ b ∧ st.ans k = some x ∧ W.heap[b]? = some (.cells #[.bool x] 4 (0, 0)))
section
variable {W W1 : World} {B g m1 m2 n : Nat} {vb : Value} {fA : ByteArray → Option Value} {fN : Int → Option Value} {st : Bk}
theorem BankV.keep (h : BankV W B g m1 m2 n vb fA fN st) (hk : KeepO bankObj W W1) : BankV W1 B g m1 m2 n vb fA fN st := by
  refine ⟨hk.2 _ _ h.box (.inl rfl), h.geg, h.ge1, h.ge2, h.ne, ?_, ?_, Kd.R_keepO h.bad hk (fun q hq cs => ?_), fun id => ⟨(h.acc id).1, fun v hv => ?_⟩, h.inj, fun k => ⟨(h.ans k).1, fun v hv => ?_⟩⟩
  · obtain ⟨es, c, hb⟩ := h.mA.obj
    exact h.mA.move ((hk.2 _ _ hb trivial).trans hb.symm)
  · obtain ⟨es, c, hb⟩ := h.mN.obj
    exact h.mN.move ((hk.2 _ _ hb trivial).trans hb.symm)
  · have hE : k76.E = [] := rfl
    rw [hE] at hq
    exact .inr (.inr (.inr (List.mem_singleton.1 hq)))
  · obtain ⟨b, h1, h2, h3⟩ := (h.acc id).2 v hv
    exact ⟨b, h1, h2, hk.2 _ _ h3 (.inr (.inl rfl))⟩
  · obtain ⟨b, x, h1, h2, h3, h4⟩ := (h.ans k).2 v hv
    exact ⟨b, x, h1, h2, h3, hk.2 _ _ h4 (.inr (.inr (.inl rfl)))⟩
theorem BankV.below (h : BankV W B g m1 m2 n vb fA fN st) (hb : Below W.heap.size W W1) : BankV W1 B g m1 m2 n vb fA fN st := h.keep (KeepO.of_below _ hb)
theorem BankV.mono (h : BankV W B g m1 m2 n vb fA fN st) {n' : Nat} (hn : n ≤ n') : BankV W B g m1 m2 n' vb fA fN st := { h with mA := h.mA.mono hn, mN := h.mN.mono hn }
theorem BankV.cells (h : BankV W B g m1 m2 n vb fA fN st) : W.cell? ⟨g, 0, none⟩ = some (.map (some m1)) ∧ W.cell? ⟨g, 1, none⟩ = some (.map (some m2)) ∧ W.cell? ⟨g, 2, none⟩ = some vb :=
  ⟨(blk_cell h.box 0).trans rfl, (blk_cell h.box 1).trans rfl, (blk_cell h.box 2).trans rfl⟩
theorem BankV.base (h : BankV W B g m1 m2 n vb fA fN st) : B ≤ W.heap.size := Nat.le_of_lt (Nat.lt_of_le_of_lt h.geg (blk_lt h.box))
theorem BankV.maps {fA' : ByteArray → Option Value} {fN' : Int → Option Value} {st' : Bk} {n' : Nat} (h : BankV W B g m1 m2 n vb fA fN st) (hk : KeepO isCells W W1) (mA : MapV W1 9 encS m1 n' fA') (mN : MapV W1 2 encI m2 n' fN')
    (acc : ∀ id, (fA' id = none → st'.acc id = acc0) ∧ (∀ v, fA' id = some v → ∃ b, v = ptr b ∧ B ≤ b ∧ W1.heap[b]? = some (.cells (accCells (st'.acc id)) 65 (0, 0)))) (inj : ∀ id id' v, fA' id = some v → fA' id' = some v → id = id')
    (ans : ∀ k, (fN' k = none → st'.ans k = none) ∧ (∀ v, fN' k = some v → ∃ b x, v = ptr b ∧ B ≤ b ∧ st'.ans k = some x ∧ W1.heap[b]? = some (.cells #[.bool x] 4 (0, 0)))) (hbad : st'.bad = st.bad := by rfl) : BankV W1 B g m1 m2 n' vb fA' fN' st' :=
  ⟨hk.2 _ _ h.box ⟨_, _, _, rfl⟩, h.geg, h.ge1, h.ge2, h.ne, mA, mN, by rw [hbad]; exact Kd.R_keepO h.bad hk (fun q _ cs => ⟨_, _, _, rfl⟩), acc, inj, ans⟩
theorem BankV.account {W2 : World} {id : ByteArray} {b : Nat} (h : BankV W B g m1 m2 n vb fA fN st) (hf : fA id = none) (hb : b = W.heap.size) (hbx : W1.heap[b]? = some (.cells #[.int .i64 0, .int .i64 0, .bool false, .int .i64 0] 65 (0, 0))) (hB : Below W.heap.size W W1)
    (hm : MapV W2 9 encS m1 (n + 1) (upd fA id (ptr b))) (ht : W1.mapTurned W2 m1) : BankV W2 B g m1 m2 (n + 1) vb (upd fA id (ptr b)) fN st := by
  have h1 := h.below hB
  have hacc := (h.acc id).1 hf
  have hlt : ∀ i v, fA i = some v → v ≠ ptr b := fun i v hv e => by
    obtain ⟨b', h2, _, h3⟩ := (h.acc i).2 v hv
    rw [h2] at e
    injection e with e
    injection e with e
    injection e with e
    have := blk_lt h3
    omega
  have hk : KeepO isCells W1 W2 := (KeepO.refl _ _).turned ht (fun es c q => by obtain ⟨_, _, _, q⟩ := q; cases q)
  refine h1.maps hk hm ?_ (fun i => ⟨fun hi => ?_, fun v hv => ?_⟩) (fun i j v hi hj => ?_) (fun k => ⟨(h1.ans k).1, fun v hv => ?_⟩)
  · obtain ⟨es, c, hb2⟩ := h1.mN.obj
    exact (h1.mN.move ((turned_blk ht hb2 (fun e => h.ne e.symm)).trans hb2.symm)).mono (Nat.le_succ _)
  · unfold upd at hi
    by_cases e : i = id
    · rw [if_pos e] at hi; cases hi
    · rw [if_neg e] at hi; exact (h1.acc i).1 hi
  · by_cases e : i = id
    · subst e
      rw [upd_same] at hv
      injection hv with hv
      exact ⟨b, hv.symm, by rw [hb]; exact h.base, by rw [hacc]; exact turned_cells ht hbx⟩
    · rw [upd_other _ _ e] at hv
      obtain ⟨b', q1, q2, q3⟩ := (h1.acc i).2 v hv
      exact ⟨b', q1, q2, turned_cells ht q3⟩
  · by_cases e : i = id
    · subst e
      rw [upd_same] at hi
      injection hi with hi
      by_cases e2 : j = i
      · exact e2.symm
      · rw [upd_other _ _ e2] at hj
        exact absurd hi.symm (hlt j v hj)
    · rw [upd_other _ _ e] at hi
      by_cases e2 : j = id
      · subst e2
        rw [upd_same] at hj
        injection hj with hj
        exact absurd hj.symm (hlt i v hi)
      · rw [upd_other _ _ e2] at hj
        exact h.inj i j v hi hj
  · obtain ⟨b', x, q1, q2, q3, q4⟩ := (h1.ans k).2 v hv
    exact ⟨b', x, q1, q2, q3, turned_cells ht q4⟩
theorem BankV.turn {b : Nat} {id : ByteArray} {a : Acc} {cs : Array Value} (h : BankV W B g m1 m2 n vb fA fN st) (hf : fA id = some (ptr b)) (hb1 : W1.heap[b]? = some (.cells (accCells a) 65 (0, 0))) (hk : ∀ (k : Nat) (o : Obj), k ≠ b → W.heap[k]? = some o → W1.heap[k]? = some o) :
    BankV W1 B g m1 m2 n vb fA fN { st with acc := fun i => if i = id then a else st.acc i } := by
  obtain ⟨b0, e0, hB, hb0⟩ := (h.acc id).2 _ hf
  obtain rfl : b = b0 := by
    injection e0 with e0
    injection e0 with e0
    injection e0
  have hne : ∀ {k : Nat} {cs : Array Value} {t : TypeId}, t ≠ 65 → W.heap[k]? = some (.cells cs t (0, 0)) → W1.heap[k]? = some (.cells cs t (0, 0)) := fun ht hc => hk _ _ (blk_ne hc hb0 ht) hc
  refine ⟨hne (by decide) h.box, h.geg, h.ge1, h.ge2, h.ne, ?_, ?_, ?_, fun i => ⟨fun hi => ?_, fun v hv => ?_⟩, h.inj, fun k => ⟨(h.ans k).1, fun v hv => ?_⟩⟩
  · obtain ⟨es, c, hm⟩ := h.mA.obj
    exact h.mA.move ((hk _ _ (fun e => by rw [e, hb0] at hm; cases hm) hm).trans hm.symm)
  · obtain ⟨es, c, hm⟩ := h.mN.obj
    exact h.mN.move ((hk _ _ (fun e => by rw [e, hb0] at hm; cases hm) hm).trans hm.symm)
  · refine Kd.R_mono (Kd.R_step (Kd.R_bound h.bad) (fun k hbk _ => ?_)) (fun k hbk => hbk.1)
    obtain ⟨_, _, _, q, hq, cells, hc⟩ := hbk
    have hE : k76.E = [] := rfl
    rw [hE] at hq
    rw [List.mem_singleton.1 hq] at hc
    rw [hc, hne (by decide) hc]
  · simp only
    by_cases e : i = id
    · subst e; rw [hf] at hi; cases hi
    · rw [if_neg e]; exact (h.acc i).1 hi
  · simp only
    by_cases e : i = id
    · subst e
      rw [if_pos rfl]
      rw [hf] at hv
      injection hv with hv
      exact ⟨b, hv.symm, hB, hb1⟩
    · rw [if_neg e]
      obtain ⟨b', q1, q2, q3⟩ := (h.acc i).2 v hv
      refine ⟨b', q1, q2, hk _ _ (fun eb => e (h.inj i id v hv ?_)) q3⟩
      rw [hf, q1, eb]
  · obtain ⟨b', x, q1, q2, q3, q4⟩ := (h.ans k).2 v hv
    exact ⟨b', x, q1, q2, q3, hne (by decide) q4⟩
end
end Go.Proofs.Ytfikgnneajlgbaa.PAll
