
import Derived.Test.YtalcopjlofbfaaaDoorQLinesNamesMrgLaw
set_option linter.unusedVariables false
namespace Go.Proofs.YtalcopjlofbfaaaDoor.Pure
open Go.RowKit Go.Proofs.YtalcopjlofbfaaaDoor Go.Proofs.YtalcopjlofbfaaaDoor.PAll Go.Proofs.YtalcopjlofbfaaaDoorW.PrintWords Go.Proofs.YtalcopjlofbfaaaDoorW.PrintLast Go.Proofs.YtalcopjlofbfaaaDoorW.PrintMore Go.Lib
def hitL (o : List S37) (k : ByteArray) : Bool := if h : pl o k < o.length then decide ((o[pl o k]'h).f0 = k) else false
theorem pl_cons_lt {x : S37} {t : List S37} {k : ByteArray} (c : Lt x.f0 k) : pl (x :: t) k = pl t k + 1 := by simp [pl, c]
theorem pl_cons_ge {x : S37} {t : List S37} {k : ByteArray} (c : ¬ Lt x.f0 k) : pl (x :: t) k = 0 := by simp [pl, c]
theorem pl_le (k : ByteArray) : ∀ l : List S37, pl l k ≤ l.length := by
  intro l
  induction l with
  | nil => exact Nat.le_refl _
  | cons x t ih =>
    by_cases c : Lt x.f0 k
    · rw [pl_cons_lt c, List.length_cons]; omega
    · rw [pl_cons_ge c]; omega
theorem pl_iff (k : ByteArray) : ∀ l : List S37, Up l → ∀ (j : Nat) (hj : j < l.length), Lt l[j].f0 k ↔ j < pl l k := by
  intro l
  induction l with
  | nil => intro _ j hj; exact absurd hj (by simp)
  | cons x t ih =>
    intro h j hj
    have hp := List.pairwise_cons.1 h
    by_cases c : Lt x.f0 k
    · rw [pl_cons_lt c]
      cases j with
      | zero => simp [c]
      | succ j =>
        have := ih hp.2 j (by simp at hj; omega)
        simp only [List.getElem_cons_succ, this]; omega
    · rw [pl_cons_ge c]
      cases j with
      | zero => simp [c]
      | succ j =>
        simp only [List.getElem_cons_succ]
        refine ⟨fun q => absurd (lt_tr (hp.1 _ (List.getElem_mem _)) q) c, fun q => absurd q (by omega)⟩
theorem cutL (k : ByteArray) (o : List S37) (h : Up o) : ∃ A B, o = A ++ B ∧ A.length = pl o k ∧ (∀ a ∈ A, Lt a.f0 k) ∧
    ((hitL o k = true ∧ ∃ z B', B = z :: B' ∧ z.f0 = k) ∨ (hitL o k = false ∧ ∀ b ∈ B, Lt k b.f0)) := by
  have hlen : (o.take (pl o k)).length = pl o k := by rw [List.length_take, Nat.min_eq_left (pl_le k o)]
  refine ⟨o.take (pl o k), o.drop (pl o k), (List.take_append_drop _ _).symm, hlen, fun a ha => ?_, ?_⟩
  · obtain ⟨j, hj, e⟩ := List.mem_iff_getElem.1 ha
    rw [hlen] at hj
    have hjl : j < o.length := Nat.lt_of_lt_of_le hj (pl_le k o)
    rw [List.getElem_take] at e
    rw [← e]
    exact (pl_iff k o h j hjl).2 hj
  · by_cases c : pl o k < o.length
    · have hge : ¬ Lt (o[pl o k]).f0 k := fun q => by have := (pl_iff k o h _ c).1 q; omega
      by_cases e : (o[pl o k]).f0 = k
      · exact .inl ⟨by unfold hitL; rw [dif_pos c, decide_eq_true e], _, _, List.drop_eq_getElem_cons c, e⟩
      · refine .inr ⟨by unfold hitL; rw [dif_pos c, decide_eq_false e], fun b hb => ?_⟩
        have g : Lt k (o[pl o k]).f0 := by
          rcases lt_tri (o[pl o k]).f0 k with q | q | q
          · exact absurd q hge
          · exact absurd q e
          · exact q
        rw [List.drop_eq_getElem_cons c] at hb
        rcases List.mem_cons.1 hb with q | q
        · rw [q]; exact g
        · have hu : Up (o[pl o k] :: o.drop (pl o k + 1)) := by rw [← List.drop_eq_getElem_cons c]; exact h.drop
          exact lt_tr g ((List.pairwise_cons.1 hu).1 b q)
    · refine .inr ⟨by unfold hitL; rw [dif_neg c], fun b hb => ?_⟩
      rw [List.drop_of_length_le (by omega)] at hb
      exact absurd hb (by simp)
theorem mrg_new {p A B : List S37} {x : S37} (h : Mrg p (A ++ B)) (ha : ∀ a ∈ A, Lt a.f0 x.f0) (hb : ∀ b ∈ B, Lt x.f0 b.f0) : Mrg (p ++ [x]) (A ++ x :: B) := by
  have hne : ∀ z ∈ A ++ B, z.f0 ≠ x.f0 := by
    intro z hz e
    rcases List.mem_append.1 hz with q | q
    · have := ha z q; rw [e] at this; exact lt_irr _ this
    · have := hb z q; rw [e] at this; exact lt_irr _ this
  have hno : ∀ y ∈ p, y.f0 ≠ x.f0 := by
    intro y hy e
    obtain ⟨z, hz, z1, _⟩ := h.2.2 y hy
    exact hne z hz (by rw [z1, e])
  refine ⟨?_, fun z hz => ?_, fun y hy => ?_⟩
  · have hu := List.pairwise_append.1 h.1
    refine List.pairwise_append.2 ⟨hu.1, List.pairwise_cons.2 ⟨hb, hu.2.1⟩, fun a haa b hbb => ?_⟩
    rcases List.mem_cons.1 hbb with q | q
    · rw [q]; exact ha a haa
    · exact hu.2.2 a haa b q
  · rw [qs_append, qs_one]
    have : z = x ∨ z ∈ A ++ B := by
      rcases List.mem_append.1 hz with q | q
      · exact .inr (List.mem_append_left _ q)
      · rcases List.mem_cons.1 q with q | q
        · exact .inl q
        · exact .inr (List.mem_append_right _ q)
    rcases this with e | e
    · rw [e, if_pos rfl, qs_none p x.f0 hno]
      exact ⟨⟨x, by simp, rfl⟩, by omega⟩
    · obtain ⟨⟨y, hy, q⟩, r⟩ := h.2.1 z e
      refine ⟨⟨y, by simp [hy], q⟩, ?_⟩
      rw [if_neg (fun g => hne z e g.symm), r]; omega
  · rcases List.mem_append.1 hy with q | q
    · obtain ⟨z, hz, z1, z2⟩ := h.2.2 y q
      refine ⟨z, ?_, z1, z2⟩
      rcases List.mem_append.1 hz with r | r
      · exact List.mem_append_left _ r
      · exact List.mem_append_right _ (List.mem_cons_of_mem _ r)
    · rw [List.mem_singleton.1 q]
      exact ⟨x, List.mem_append_right _ (List.mem_cons_self ..), rfl, rfl⟩
theorem mrg_more {p A B : List S37} {x z : S37} (h : Mrg p (A ++ z :: B)) (e : z.f0 = x.f0) (w : z.f2 = x.f2) : Mrg (p ++ [x]) (A ++ (⟨z.f0, z.f1 + x.f1, z.f2⟩ : S37) :: B) := by
  have hu := List.pairwise_append.1 h.1
  have hc := List.pairwise_cons.1 hu.2.1
  have hneA : ∀ a ∈ A, a.f0 ≠ x.f0 := fun a ha q => by have := hu.2.2 a ha z (by simp); rw [q, ← e] at this; exact lt_irr _ this
  have hneB : ∀ b ∈ B, b.f0 ≠ x.f0 := fun b hb q => by have := hc.1 b hb; rw [q, ← e] at this; exact lt_irr _ this
  have old : ∀ y, y ∈ A ∨ y ∈ B → (∃ v ∈ p ++ [x], v.f0 = y.f0) ∧ y.f1 = qs (p ++ [x]) y.f0 := by
    intro y hy
    have hin : y ∈ A ++ z :: B := by
      rcases hy with q | q
      · exact List.mem_append_left _ q
      · exact List.mem_append_right _ (List.mem_cons_of_mem _ q)
    have hne : y.f0 ≠ x.f0 := hy.elim (hneA y) (hneB y)
    obtain ⟨⟨v, hv, q⟩, r⟩ := h.2.1 y hin
    refine ⟨⟨v, by simp [hv], q⟩, ?_⟩
    rw [qs_append, qs_one, if_neg (fun g => hne g.symm), r]; omega
  refine ⟨?_, fun y hy => ?_, fun y hy => ?_⟩
  · refine List.pairwise_append.2 ⟨hu.1, List.pairwise_cons.2 ⟨fun b hb => hc.1 b hb, hc.2⟩, fun a haa b hbb => ?_⟩
    rcases List.mem_cons.1 hbb with q | q
    · rw [q]; exact hu.2.2 a haa z (by simp)
    · exact hu.2.2 a haa b (by simp [q])
  · rcases List.mem_append.1 hy with q | q
    · exact old y (.inl q)
    · rcases List.mem_cons.1 q with q | q
      · rw [q]
        refine ⟨⟨x, by simp, e.symm⟩, ?_⟩
        simp only
        have r := (h.2.1 z (by simp)).2
        rw [qs_append, qs_one, if_pos e.symm, ← r]
      · exact old y (.inr q)
  · rcases List.mem_append.1 hy with q | q
    · obtain ⟨v, hv, v1, v2⟩ := h.2.2 y q
      rcases List.mem_append.1 hv with r | r
      · exact ⟨v, List.mem_append_left _ r, v1, v2⟩
      · rcases List.mem_cons.1 r with r | r
        · exact ⟨_, List.mem_append_right _ (List.mem_cons_self ..), by rw [← v1, r], by rw [← v2, r]⟩
        · exact ⟨v, List.mem_append_right _ (List.mem_cons_of_mem _ r), v1, v2⟩
    · rw [List.mem_singleton.1 q]
      exact ⟨_, List.mem_append_right _ (List.mem_cons_self ..), e, w⟩
theorem search (l : List S37) (x : S37) (hr : Up l) (hb : l.length ≤ 4611686018427387904) (d : Nat) : ∀ (i j : Nat), j ≤ i + d → i ≤ pl l x.f0 → pl l x.f0 ≤ j → j ≤ l.length →
    Ev (fun k => api_Line_25.l0 k l (l.length : Int) (i : Int) (j : Int) x.f0 x.f1 x.f2) ((pl l x.f0 : Int), hitL l x.f0) := by
  have leaf : ∀ (i j : Nat), ¬ i < j → i ≤ pl l x.f0 → pl l x.f0 ≤ j → Ev (fun k => api_Line_25.l0 k l (l.length : Int) (i : Int) (j : Int) x.f0 x.f1 x.f2) ((pl l x.f0 : Int), hitL l x.f0) := by
    intro i j h1 h2 h3
    obtain rfl : i = pl l x.f0 := by omega
    refine Ev.step (fun k => by rw [api_Line_25.l0, if_neg (by omega)]) ?_
    by_cases c : pl l x.f0 < l.length
    · refine Ev.ifp (by omega) (Ev.ifp (by omega) (Ev.ifp (by omega) ?_))
      rw [rd_37 l _ c]
      refine Ev.bindc (bySku_eq _ _) ?_
      rw [show hitL l x.f0 = decide (l[pl l x.f0].f0 = x.f0) from dif_pos c]
      by_cases e : l[pl l x.f0].f0 = x.f0
      · rw [decide_eq_true e, cb_eq.2 e]; exact Ev.now _
      · rw [decide_eq_false e, show (compareBytes l[pl l x.f0].f0.data.toList x.f0.data.toList == 0) = false from by simpa using fun q => e (cb_eq.1 q)]; exact Ev.now _
    · refine Ev.ifn (by omega) ?_
      rw [show hitL l x.f0 = false from dif_neg c]
      exact Ev.now _
  induction d with
  | zero => intro i j h1 h2 h3 h4; exact leaf i j (by omega) h2 h3
  | succ d ih =>
    intro i j h1 h2 h3 h4
    by_cases c : i < j
    rotate_left
    · exact leaf i j c h2 h3
    have hm : wrap64 ((IntKind.u64.wrap (wrap64 ((i : Int) + (j : Int)))) / 2) = (((i + j) / 2 : Nat) : Int) := by
      rw [w64 (x := (i : Int) + (j : Int)) (by omega) (by omega)]
      have : IntKind.u64.wrap ((i : Int) + (j : Int)) = (i : Int) + (j : Int) := by
        simp [IntKind.wrap, IntKind.bits, IntKind.signed]; omega
      rw [this, w64 (by omega) (by omega)]; omega
    have hlt : (i + j) / 2 < l.length := by omega
    refine Ev.step (fun k => by rw [api_Line_25.l0, if_pos (by omega), hm, if_pos (by omega), if_pos (by omega), rd_37 l _ hlt]) ?_
    have iff := pl_iff x.f0 l hr _ hlt
    refine Ev.bindc (bySku_eq _ _) ?_
    by_cases q : Lt l[(i + j) / 2].f0 x.f0
    · have hp := iff.1 q
      refine Ev.ifp q ?_
      rw [w64 (by omega) (by omega), show ((((i + j) / 2 : Nat) : Int) + 1) = (((i + j) / 2 + 1 : Nat) : Int) from by omega]
      exact ih _ j (by omega) (by omega) h3 h4
    · have hp : ¬ (i + j) / 2 < pl l x.f0 := fun z => q (iff.2 z)
      refine Ev.ifn q ?_
      exact ih i _ (by omega) h2 (by omega) (by omega)
theorem place_eq (l : List S37) (x : S37) (hr : Up l) (hb : l.length ≤ 4611686018427387904) : Ev (fun k => api_Line_25.f k l x.f0 x.f1 x.f2 26) ((pl l x.f0 : Int), hitL l x.f0) :=
  search l x hr hb l.length 0 l.length (by omega) (by omega) (pl_le x.f0 l) (Nat.le_refl _)
end Go.Proofs.YtalcopjlofbfaaaDoor.Pure
