
import Derived.Test.YtdfnpjmebnlfbaaQHalvesRunsPlanStep
import Derived.Shelf.RegionOpenPlain
import Derived.Deep.RegionHeldLaw
import Derived.Deep.Cut
namespace Go.Proofs.YtdfnpjmebnlfbaaW.PrintMore
end Go.Proofs.YtdfnpjmebnlfbaaW.PrintMore
set_option linter.unusedVariables false
set_option linter.unusedSimpArgs false
namespace Go.Proofs.Ytdfnpjmebnlfbaa.PAll
open Go Go.Proofs Go.RowKit Go.Proofs.YtdfnpjmebnlfbaaW.PrintWords Go.Proofs.YtdfnpjmebnlfbaaW.PrintLast Go.Proofs.YtdfnpjmebnlfbaaW.PrintMore
def KT (W W' : World) : Prop := W.heap.size ≤ W'.heap.size ∧ ∀ (k : Nat) (cs : Array Value) (t : TypeId), t ≠ 9 → W.heap[k]? = some (.cells cs t (0, 0)) → W'.heap[k]? = some (.cells cs t (0, 0))
theorem KT.refl (W : World) : KT W W := ⟨Nat.le_refl _, fun _ _ _ _ h => h⟩
theorem KT.drew {W W' : World} (h : KT W W') : KT W W'.drew := h
theorem KT.alloc {W W' : World} (h : KT W W') (o : Obj) : KT W (W'.alloc o) := ⟨Nat.le_trans h.1 (below_alloc (Below.refl _ _) o).size, fun k cs t ht hk => blk_alloc (h.2 k cs t ht hk) o⟩
theorem KT.trans {W W1 W2 : World} (h : KT W W1) (k : KT W1 W2) : KT W W2 := ⟨Nat.le_trans h.1 k.1, fun i cs t ht hi => k.2 i cs t ht (h.2 i cs t ht hi)⟩
theorem KT.set {W W' : World} (h : KT W W') {g i : Nat} (hg : W.heap.size ≤ g) (u : Value) : KT W (W'.setCell ⟨g, i, none⟩ u) :=
  ⟨by rw [World.size_setCell]; exact h.1, fun k cs t ht hk => blk_far (h.2 k cs t ht hk) (show k ≠ g from fun e => by have := blk_lt hk; omega) u⟩
theorem KT.size {W W' : World} (h : KT W W') : W.heap.size ≤ W'.heap.size := h.1
theorem KT.set4 {W W' : World} (h : KT W W') {g : Nat} (hg : W.heap.size ≤ g) {a b c d : Value} : KT W ((((W'.setCell ⟨g, 0, none⟩ a).setCell ⟨g, 1, none⟩ b).setCell ⟨g, 2, none⟩ c).setCell ⟨g, 3, none⟩ d) := (((h.set hg a).set hg b).set hg c).set hg d
def EmptyAt (W : World) (g : Nat) : Prop := W.heap[g]? = some (.cells #[] 9 (0, 0))
theorem EmptyAt.new' {W : World} {g : Nat} (h : g = W.heap.size) : EmptyAt (W.alloc (.cells #[] 9 (0, 0))) g := h ▸ blk_new W _
theorem blk_new' {W : World} {g : Nat} {o : Obj} (h : g = W.heap.size) : (W.alloc o).heap[g]? = some o := h ▸ blk_new W _
theorem EmptyAt.alloc {W : World} {g : Nat} (h : EmptyAt W g) (o : Obj) : EmptyAt (W.alloc o) g := blk_alloc h o
theorem EmptyAt.drew {W : World} {g : Nat} (h : EmptyAt W g) : EmptyAt W.drew g := h
theorem EmptyAt.own {W : World} {B g : Nat} (h : EmptyAt W g) (hg : B ≤ g) : Kd.R Kd.string 9 W B (fun _ => True) (.slice (some ⟨g, 0, none⟩) 0 0) [] :=
  ⟨fun _ _ => trivial, [], ⟨by simp, .inr ⟨g, 0, #[], rfl, hg, h, Nat.le_refl _, by simp [maxLen], by simp, by simp⟩⟩, Reps.none _ _⟩
structure AppOut (w0 W : World) (B g : Nat) (ys : List ByteArray) (v1 : Value) (w1 : World) : Prop where
  own : Kd.R Kd.string 9 w1 B (fun k => some k = v1.ownBlock) v1 ys
  below : Below B w0 w1
  kt : KT W w1
  grown : W.grownBy w1 (some g)
  at_ : v1.ownBlock = some g ∨ ∃ b, v1.ownBlock = some b ∧ W.heap.size ≤ b
theorem AppOut.ke {w0 W : World} {B g : Nat} {ys : List ByteArray} {v1 : Value} {w1 : World} (h : AppOut w0 W B g ys v1 w1) {k : Nat} (hk : EmptyAt W k) (hne : k ≠ g) : EmptyAt w1 k := blk_grown hk h.grown (fun e => hne (by injection e))
theorem AppOut.own_in {w0 W : World} {B g : Nat} {ys : List ByteArray} {v1 : Value} {w1 : World} (h : AppOut w0 W B g ys v1 w1) {k : Nat} (e : v1.ownBlock = some k) : k = g ∨ (W.heap.size ≤ k ∧ k < w1.heap.size) := by
  rcases h.at_ with h1 | ⟨b, h1, hb⟩
  · have e2 := e.symm.trans h1
    injection e2 with e2
    exact .inl e2
  · have e2 := e.symm.trans h1
    injection e2 with e2
    exact .inr ⟨by omega, Kd.R_lt h.own k e⟩
theorem AppOut.kr {w0 W : World} {B g : Nat} {ys : List ByteArray} {v1 : Value} {w1 : World} (h : AppOut w0 W B g ys v1 w1) {v : Value} {xs : List ByteArray} (hr : Kd.R Kd.string 9 W B (fun k => some k = v.ownBlock) v xs) (hne : v.ownBlock ≠ some g) : Kd.R Kd.string 9 w1 B (fun k => some k = v.ownBlock) v xs :=
  Kd.R_grown hr h.grown (fun k hk e => hne (by rw [← hk, e]))
theorem sl_inj {g g' : Nat} (h : Value.slice (some ⟨g, 0, none⟩) 0 0 = .slice (some ⟨g', 0, none⟩) 0 0) : g = g' := by
  simpa using h
theorem lit_str1 (W : World) (s : ByteArray) : Kd.C Kd.string (W.alloc (.cells #[.string s] 9)) (some ⟨W.heap.size, 0, none⟩) 1 [s] := by
  refine ⟨rfl, by omega, fun _ => ⟨_, rfl, fun j p hj => ?_⟩⟩
  rcases j with _ | j
  · obtain rfl : s = p := by simpa using hj
    refine ⟨[.string s], rfl, rfl, fun i z hu => ?_⟩
    cases i with
    | zero =>
      obtain rfl : Value.string s = z := by simpa using hu
      exact (blk_cell (heap_alloc_new W _) 0).trans rfl
    | succ i => simp at hu
  · simp at hj
def NT {α : Type} (d : Kd α) (e : Nat) (W : World) (base : Nat) (okE : Nat → Prop) (v : Value) (xs : List α) : Prop :=
  ∃ rows : List (List Value), rows.length = xs.length ∧ (Kd.raw d.sz).R e W base (fun k => some k = v.ownBlock) v rows ∧ ∀ (j : Nat) (x : α) (c : List Value), xs[j]? = some x → rows[j]? = some c → Kd.FK d W okE x c
section
variable {α : Type} {d : Kd α} {e base : Nat} {okE : Nat → Prop} {W W1 : World} {v : Value} {xs : List α}
theorem NT.typed (h : NT d e W base okE v xs) : ∀ k, v.ownBlock = some k → ∃ cells, W.heap[k]? = some (.cells cells e (0, 0)) := by
  obtain ⟨rows, _, hR, _⟩ := h
  exact Kd.R_typed hR
theorem NT.base_ (h : NT d e W base okE v xs) : ∀ k, v.ownBlock = some k → base ≤ k := by
  obtain ⟨rows, _, hR, _⟩ := h
  exact Kd.R_base hR
theorem NT.slice (h : NT d e W base okE v xs) : ∃ A c, v = .slice A xs.length c := by
  obtain ⟨rows, hl, hR, _⟩ := h
  obtain ⟨A, c, he⟩ := Kd.R_slice hR
  exact ⟨A, c, by rw [he, hl]⟩
theorem NT.ne (h : NT d e W base okE v xs) {g t : Nat} {cells : Array Value} (hb : W.heap[g]? = some (.cells cells t (0, 0))) (ht : e ≠ t) : some g ≠ v.ownBlock := by
  obtain ⟨rows, _, hR, _⟩ := h
  exact Kd.R_ne hR hb ht
theorem NT.step (h : NT d e W base okE v xs) (h1 : ∀ k cells, v.ownBlock = some k → W.heap[k]? = some (.cells cells e (0, 0)) → W1.heap[k]? = some (.cells cells e (0, 0))) (h2 : ∀ k, okE k → k < W.heap.size → W1.heap[k]? = W.heap[k]?) : NT d e W1 base okE v xs := by
  have ht := h.typed
  obtain ⟨rows, hl, hR, hf⟩ := h
  refine ⟨rows, hl, Kd.R_step hR (fun k hk _ => ?_), fun j x c hx hc => Kd.FK_step (hf j x c hx hc) h2⟩
  obtain ⟨cells, hc⟩ := ht k hk.symm
  rw [hc, h1 k cells hk.symm hc]
theorem NT.V (h : NT d e W base okE v xs) (hne : ∀ k, okE k → some k ≠ v.ownBlock) : Kd.V d e W 0 (fun k => okE k ∨ some k = v.ownBlock) v xs := by
  obtain ⟨rows, hl, hR, hf⟩ := h
  have hN : Kd.N d e W base (fun k => okE k ∨ some k = v.ownBlock) v xs := ⟨fun k hk => .inr hk.symm, rows, hl, hR, fun j x c hx hc => Kd.FK_mono (hf j x c hx hc) (fun k hk => ⟨.inl hk, hne k hk⟩)⟩
  exact Kd.N_V hN
theorem NT.drew (h : NT d e W base okE v xs) : NT d e W.drew base okE v xs := h.step (fun _ _ _ hc => hc) (fun _ _ _ => rfl)
theorem NT.alloc (h : NT d e W base okE v xs) (o : Obj) : NT d e (W.alloc o) base okE v xs := h.step (fun _ _ _ hc => blk_alloc hc _) (fun k _ hlt => Below.heap_alloc W o k hlt)
variable {ops : Array Oper} {rest : List Oper} {o : Oper} {a : Act} {Q : Exit → Act → World → Prop}
theorem NT_append_rows (d : Kd α) {w0 W : World} (base : Nat) (hgd : o.guard = none) (s x : Operand) (t e : TypeId) (z : Value) (bytes : Nat)
    (ho : o.op = .call { callee := .builtin .append, args := #[s, x], argTypes := #[t, t] })
    (ht : Try.prog.underlying t = some (.slice e)) (hinfo : (Try.prog.info? e).map (fun i => (i.zero, i.size, i.bytes)) = some (some z, d.sz, bytes)) (hz : z.cells.size = d.sz) (hs0 : 0 < d.sz) (hb0 : 0 < bytes)
    (v : Value) (ys : List α) (A : Option Addr) (m c : Nat) (okp : Nat → Prop) (hs : a.eval s = v) (hx : a.eval x = .slice A m c)
    (HO : (Kd.raw d.sz).R e W base (fun _ => True) v []) (HR : Kd.F d W okp A m ys) (hokp : ∀ k, okp k → some k ≠ v.ownBlock)
    (HB : Below base w0 W) (hbase : base ≤ W.heap.size) (hl : m * bytes ≤ 140737488355328)
    (h : ∀ v1 w1, NT d e w1 base okp v1 ys → Below base w0 w1 → W.grownBy w1 v.ownBlock → (v1.ownBlock = v.ownBlock ∨ ∃ b, v1.ownBlock = some b ∧ W.heap.size ≤ b) → wpList Try.prog ops Q rest (a.put o.dst v1) w1) :
    wpList Try.prog ops Q (o :: rest) a W := by
  obtain ⟨news, hnl, hnr, hnf⟩ := Kd.reads_raw (Kd.F_rows HR) (fun y c hk => ⟨d.K_len (Kd.FK_now hk), d.K_one (Kd.FK_now hk)⟩)
  refine Kd.R_append_rows (Kd.raw d.sz) base hgd s x t e z bytes ho ht hinfo hz hs0 hb0 v [] news A m c (fun _ => True) (fun _ => False) hs hx HO hnr (fun _ _ hk => hk) (fun _ hk => hk.elim) (fun _ _ => trivial) HB hbase (by simpa using hl) ?_
  intro v1 w1 hr hb hg hat
  rw [List.nil_append] at hr
  exact h v1 w1 ⟨news, hnl, Kd.raw_tight hr, fun j x c hx hc => Kd.FK_step (hnf j x c hx hc) (fun k hk hlt => hg.block k hlt (hokp k hk))⟩ hb hg hat
theorem NT.lit2 {d : Kd (List ByteArray)} (hsz : d.sz = 1) (base : Nat) (hb : base ≤ W.heap.size) {okE : Nat → Prop} {x1 x2 : List ByteArray} {r1 r2 : Value} (h1 : Kd.FK d W okE x1 [r1]) (h2 : Kd.FK d W okE x2 [r2]) : NT d 22 (W.alloc (.cells #[r1, r2] 22 (0, 0))) base okE (.slice (some ⟨W.heap.size, 0, none⟩) 2 2) [x1, x2] := by
  have hlen : ∀ {x : List ByteArray} {r : Value}, Kd.FK d W okE x [r] → r.oneCell' = true := fun h => d.K_one (Kd.FK_now h) _ (by simp)
  refine ⟨[[r1], [r2]], rfl, ⟨fun k hk => hk.symm, [r1, r2], ?_, ?_⟩, fun j x c hx hc => ?_⟩
  · have h := World.ownsRow_lit (base := base) (e := 22) (size := d.sz) W #[r1, r2] 2 hb (by simp [maxLen]) (by rw [hsz]; rfl)
    simpa [Kd.raw] using h
  · rw [show (Kd.raw d.sz).sz = 1 from hsz]
    exact Reps.one (p := [r1]) (v := r1) ⟨rfl, by rw [hsz]; rfl, by intro u hu; rw [List.mem_singleton.1 hu]; exact hlen h1⟩ (Reps.one (p := [r2]) (v := r2) ⟨rfl, by rw [hsz]; rfl, by intro u hu; rw [List.mem_singleton.1 hu]; exact hlen h2⟩ (Reps.none _ _))
  · rcases j with _ | _ | j
    · simp only [List.getElem?_cons_zero, Option.some.injEq] at hx hc
      rw [← hx, ← hc]
      exact Kd.FK_below h1 (below_alloc (Below.refl _ _) _)
    · simp only [List.getElem?_cons_succ, List.getElem?_cons_zero, Option.some.injEq] at hx hc
      rw [← hx, ← hc]
      exact Kd.FK_below h2 (below_alloc (Below.refl _ _) _)
    · simp at hx
theorem NT_append_NT_step (d : Kd α) {Kc : Act → World → Prop} {w0 W : World} (base : Nat) (hw : Region.wanted o (yielded ops a.tmps) = true) (s x : Operand) (t e : TypeId) (z : Value) (bytes : Nat)
    (ho : o.op = .call { callee := .builtin .append, args := #[s, x], argTypes := #[t, t] })
    (ht : Try.prog.underlying t = some (.slice e)) (hinfo : (Try.prog.info? e).map (fun i => (i.zero, i.size, i.bytes)) = some (some z, d.sz, bytes)) (hz : z.cells.size = d.sz) (hs0 : 0 < d.sz) (hb0 : 0 < bytes)
    (v : Value) (xs ys : List α) (A : Option Addr) (m c : Nat) (okE : Nat → Prop) (hs : a.eval s = v) (hx : a.eval x = .slice A m c)
    (HO : NT d e W base okE v xs) (HU : NT d e W base okE (.slice A m c) ys) (hokE : ∀ k, okE k → some k ≠ v.ownBlock)
    (HB : Below base w0 W) (hbase : base ≤ W.heap.size) (hl : (xs.length + ys.length) * bytes ≤ 140737488355328)
    (h : ∀ v1 w1, NT d e w1 base okE v1 (xs ++ ys) → Below base w0 w1 → W.grownBy w1 v.ownBlock → (v1.ownBlock = v.ownBlock ∨ ∃ b, v1.ownBlock = some b ∧ W.heap.size ≤ b) → Kc (a.put o.dst v1) w1) :
    if Region.wanted o (yielded ops a.tmps) = true then Oper.wp Try.prog o a W Kc Q else Kc (a.put o.dst undef) W := by
  obtain ⟨rows, hlr, hR, hf⟩ := HO
  obtain ⟨news, hnl, hRn, hnf⟩ := HU
  have hm := (Kd.R_reads' hRn)
  refine Kd.R_append_rows_step (Kd.raw d.sz) base hw s x t e z bytes ho ht hinfo hz hs0 hb0 v rows news A m c (fun _ => True) (fun _ => False) hs hx (Kd.raw_any hR) (by have h2 := hm.2.2; rw [← hm.1] at h2; exact h2) (fun _ _ hk => hk) (fun _ hk => hk.elim) (fun _ _ => trivial) HB hbase (by rw [hlr, hm.1, hnl]; exact hl) ?_
  intro v1 w1 hr hb hg hat
  refine h v1 w1 ⟨rows ++ news, by rw [List.length_append, List.length_append, hlr, hnl], Kd.raw_tight hr, fun j x c hx hc => ?_⟩ hb hg hat
  have st : ∀ {x : α} {c : List Value}, Kd.FK d W okE x c → Kd.FK d w1 okE x c := fun h => Kd.FK_step h (fun k hk hlt => hg.block k hlt (hokE k hk))
  rcases Nat.lt_or_ge j xs.length with hlt | hge
  · rw [List.getElem?_append_left hlt] at hx
    rw [List.getElem?_append_left (by omega)] at hc
    exact st (hf j x c hx hc)
  · rw [List.getElem?_append_right hge] at hx
    rw [List.getElem?_append_right (by omega), hlr] at hc
    exact st (hnf _ x c hx hc)
end
section
variable {ops : Array Oper} {o : Oper} {a : Act} {Q : Exit → Act → World → Prop} {Kc : Act → World → Prop}
theorem app_empty_step {w0 W : World} {B : Nat} (s x : Tmp) (hw : Region.wanted o (yielded ops a.tmps) = true)
    (ho : o.op = .call { callee := .builtin .append, args := #[.tmp s, .tmp x], argTypes := #[22, 22] }) {ys : List ByteArray} {A : Option Addr} {c : Nat}
    (hs : ∃ g, a.eval (.tmp s) = .slice (some ⟨g, 0, none⟩) 0 0 ∧ EmptyAt W g ∧ B ≤ g) (hx : a.eval (.tmp x) = .slice A ys.length c) (HR : Kd.C Kd.string W A ys.length ys) (HB : Below B w0 W) (hl : ys.length < 8796093022208)
    (h : ∀ v1 w1 g, a.eval (.tmp s) = .slice (some ⟨g, 0, none⟩) 0 0 → AppOut w0 W B g ys v1 w1 → Kc (a.put o.dst v1) w1) :
    if Region.wanted o (yielded ops a.tmps) = true then Oper.wp Try.prog o a W Kc Q else Kc (a.put o.dst undef) W := by
  obtain ⟨g, hs, HE, hg⟩ := hs
  refine Kd.R_append_rows_step Kd.string (w0 := w0) B hw (.tmp s) (.tmp x) 22 9 (.string ⟨#[]⟩) 16 ho Try.underlying22 info9 rfl (by decide) (by omega) (.slice (some ⟨g, 0, none⟩) 0 0) [] ys A ys.length c (fun _ => True) (fun _ => False) hs hx (HE.own hg) HR (fun _ _ h => h) (fun _ h => h.elim) (fun _ _ => trivial) HB (Nat.le_trans hg (Nat.le_of_lt (blk_lt HE))) (by simp only [List.length_nil]; omega) ?_
  intro v1 w1 ho hb hg1 hat
  have hgo : (Value.slice (some ⟨g, 0, none⟩) 0 0).ownBlock = some g := rfl
  rw [hgo] at hg1 hat
  refine h v1 w1 g hs ⟨?_, hb, ⟨hg1.size, fun k cs t ht hk => ?_⟩, hg1, hat⟩
  · rw [List.nil_append] at ho
    exact Kd.R_tight (by rfl) ho
  · refine blk_grown hk hg1 (fun e => ?_)
    injection e with e
    subst e
    exact ht ((by have h2 := hk.symm.trans HE; injection h2 with h2; injection h2))
theorem app_row_step {w0 W : World} {B : Nat} (s x : Tmp) (hw : Region.wanted o (yielded ops a.tmps) = true)
    (ho : o.op = .call { callee := .builtin .append, args := #[.tmp s, .tmp x], argTypes := #[22, 22] }) (xs ys : List ByteArray) (A0 A : Option Addr) (c0 m c : Nat)
    (hs : a.eval (.tmp s) = .slice A0 xs.length c0) (hx : a.eval (.tmp x) = .slice A m c) (HO : Kd.R Kd.string 9 W B (fun k => some k = (Value.slice A0 xs.length c0).ownBlock) (.slice A0 xs.length c0) xs) (HR : Kd.C Kd.string W A m ys) (HB : Below B w0 W) (hS : B ≤ W.heap.size) (hl : xs.length + m ≤ 8796093022208)
    (h : ∀ v1 w1, Kd.R Kd.string 9 w1 B (fun k => some k = v1.ownBlock) v1 (xs ++ ys) → Below B w0 w1 → W.grownBy w1 (Value.slice A0 xs.length c0).ownBlock → Kc (a.put o.dst v1) w1) :
    if Region.wanted o (yielded ops a.tmps) = true then Oper.wp Try.prog o a W Kc Q else Kc (a.put o.dst undef) W := by
  refine Kd.R_append_rows_step Kd.string (w0 := w0) B hw (.tmp s) (.tmp x) 22 9 (.string ⟨#[]⟩) 16 ho Try.underlying22 info9 rfl (by decide) (by omega) (.slice A0 xs.length c0) xs ys A m c (fun k => some k = (Value.slice A0 xs.length c0).ownBlock ∨ W.heap.size ≤ k) (fun _ => False) hs hx (Kd.R_mono HO (fun _ hk => .inl hk)) HR (fun _ _ h => h) (fun _ h => h.elim) (fun _ hk => .inr hk) HB hS (by omega) ?_
  intro v1 w1 ho hb hg hat
  exact h v1 w1 (Kd.R_tight (by rfl) ho) hb hg
end
end Go.Proofs.Ytdfnpjmebnlfbaa.PAll
