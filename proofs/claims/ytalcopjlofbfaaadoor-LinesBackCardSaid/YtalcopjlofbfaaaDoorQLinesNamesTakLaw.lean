
import Derived.Test.YtalcopjlofbfaaaDoorQLinesNamesMrgGo
set_option linter.unusedVariables false
namespace Go.Proofs.YtalcopjlofbfaaaDoor.Pure
open Go.RowKit Go.Proofs.YtalcopjlofbfaaaDoor Go.Proofs.YtalcopjlofbfaaaDoor.PAll Go.Proofs.YtalcopjlofbfaaaDoorW.PrintWords Go.Proofs.YtalcopjlofbfaaaDoorW.PrintLast Go.Proofs.YtalcopjlofbfaaaDoorW.PrintMore Go.Lib
def pcs (l : List S37) : Int := (l.map fun x => x.f1).sum
def wgt (l : List S37) : Int := (l.map fun x => x.f1 * x.f2).sum
theorem pcs_cons (x : S37) (t : List S37) : pcs (x :: t) = x.f1 + pcs t := by simp [pcs]
theorem wgt_cons (x : S37) (t : List S37) : wgt (x :: t) = x.f1 * x.f2 + wgt t := by simp [wgt]
theorem rise_ones (l : List S37) : ∀ (d i : Nat), i + d = l.length → rise l d i = true → ∀ x ∈ l.drop i, lineB x = true := by
  intro d
  induction d with
  | zero => intro i h _ x hx; rw [List.drop_of_length_le (by omega)] at hx; exact absurd hx (by simp)
  | succ d ih =>
    intro i h hr x hx
    have h1 : i < l.length := by omega
    rw [rise, dif_pos h1] at hr
    simp only [Bool.and_eq_true] at hr
    rw [List.drop_eq_getElem_cons h1] at hx
    rcases List.mem_cons.1 hx with e | e
    · rw [e]; exact hr.1
    · exact ih (i + 1) (by omega) hr.2.2 x e
theorem linesB_one {l : List S37} (h : linesB l = true) : (∀ x ∈ l, lineB x = true) ∧ 1 ≤ l.length ∧ l.length ≤ 8 := by
  simp only [linesB, Bool.and_eq_true, decide_eq_true_eq] at h
  exact ⟨fun x hx => rise_ones l l.length 0 (by omega) h.1 x (by simpa using hx), h.2⟩
theorem line_rngs {x : S37} (h : lineB x = true) : (1 ≤ x.f1 ∧ x.f1 ≤ 1000) ∧ (0 ≤ x.f2 ∧ x.f2 ≤ 100000) ∧ (0 ≤ x.f1 * x.f2 ∧ x.f1 * x.f2 ≤ 100000000) := by
  simp only [lineB, Bool.and_eq_true, decide_eq_true_eq] at h
  obtain ⟨_, h1, h2, h3, h4⟩ := h
  have : x.f1 * x.f2 ≤ 1000 * 100000 := Int.mul_le_mul h2 h4 h3 (by omega)
  exact ⟨⟨h1, h2⟩, ⟨h3, h4⟩, Int.mul_nonneg (by omega) h3, by omega⟩
section
variable (l : List S37) (hone : ∀ x ∈ l, lineB x = true) (hn : l.length ≤ 8)
include hone hn
theorem pcs_l (d : Nat) : ∀ (i : Nat) (s : Int), i + d = l.length → 0 ≤ s → s ≤ 1000 * i → Ev (fun k => lines_total2.l0 k s l (l.length : Int) (i : Int)) (s + pcs (l.drop i)) := by
  induction d with
  | zero =>
    intro i s h _ _
    rw [List.drop_of_length_le (by omega)]
    refine Ev.step (f := fun _ => some (s + pcs [])) (fun k => ?_) (Ev.now _)
    rw [lines_total2.l0, if_neg (by omega)]; simp [pcs]
  | succ d ih =>
    intro i s h h0 h1
    have hlt : i < l.length := by omega
    have R := line_rngs (hone _ (List.getElem_mem hlt))
    refine Ev.step (fun k => by rw [lines_total2.l0, if_pos (by omega), if_pos (by omega), if_pos (by omega), rd_37 l i hlt]) ?_
    refine Ev.bindc (a := l[i].f1) rfl ?_
    rw [w64 (x := s + l[i].f1) (by omega) (by omega), w64 (x := (i : Int) + 1) (by omega) (by omega), List.drop_eq_getElem_cons hlt]
    have e : s + pcs (l[i] :: l.drop (i + 1)) = (s + l[i].f1) + pcs (l.drop (i + 1)) := by rw [pcs_cons]; omega
    rw [e]
    exact ih (i + 1) _ (by omega) (by omega) (by omega)
theorem wgt_l (d : Nat) : ∀ (i : Nat) (s : Int), i + d = l.length → 0 ≤ s → s ≤ 100000000 * i → Ev (fun k => lines_total.l0 k s l (l.length : Int) (i : Int)) (s + wgt (l.drop i)) := by
  induction d with
  | zero =>
    intro i s h _ _
    rw [List.drop_of_length_le (by omega)]
    refine Ev.step (f := fun _ => some (s + wgt [])) (fun k => ?_) (Ev.now _)
    rw [lines_total.l0, if_neg (by omega)]; simp [wgt]
  | succ d ih =>
    intro i s h h0 h1
    have hlt : i < l.length := by omega
    have R := line_rngs (hone _ (List.getElem_mem hlt))
    refine Ev.step (fun k => by rw [lines_total.l0, if_pos (by omega), if_pos (by omega), if_pos (by omega), rd_37 l i hlt]) ?_
    refine Ev.bindc (a := wrap64 (l[i].f1 * l[i].f2)) rfl ?_
    rw [w64 (x := l[i].f1 * l[i].f2) (by omega) (by omega), w64 (x := s + l[i].f1 * l[i].f2) (by omega) (by omega), w64 (x := (i : Int) + 1) (by omega) (by omega), List.drop_eq_getElem_cons hlt]
    have e : s + wgt (l[i] :: l.drop (i + 1)) = (s + l[i].f1 * l[i].f2) + wgt (l.drop (i + 1)) := by rw [wgt_cons]; omega
    rw [e]
    exact ih (i + 1) _ (by omega) (by omega) (by omega)
end
theorem pieces_eq {l : List S37} (h : linesB l = true) (hs : ∀ x ∈ l, x.f0.size ≤ 140737488351232) : Ev (fun k => lines_Pieces.f k l) (pcs l) := by
  obtain ⟨h1, h2, h3⟩ := linesB_one h
  have E := lines_eq l (by omega) hs
  rw [h] at E
  have P := pcs_l l h1 h3 l.length 0 0 (by omega) (by omega) (by omega)
  rw [List.drop_zero, Int.zero_add] at P
  unfold lines_Pieces.f lines_total2.f
  exact Ev.bind (Ev.bind E (Ev.ifp rfl P)) (Ev.now _)
theorem weight_eq {l : List S37} (h : linesB l = true) (hs : ∀ x ∈ l, x.f0.size ≤ 140737488351232) : Ev (fun k => lines_Weight.f k l) (wgt l) := by
  obtain ⟨h1, h2, h3⟩ := linesB_one h
  have E := lines_eq l (by omega) hs
  rw [h] at E
  have P := wgt_l l h1 h3 l.length 0 0 (by omega) (by omega) (by omega)
  rw [List.drop_zero, Int.zero_add] at P
  unfold lines_Weight.f lines_total.f
  exact Ev.bind (Ev.bind E (Ev.ifp rfl P)) (Ev.now _)
theorem pcs_app (a b : List S37) : pcs (a ++ b) = pcs a + pcs b := by simp [pcs]
theorem wgt_app (a b : List S37) : wgt (a ++ b) = wgt a + wgt b := by simp [wgt]
theorem pcs_rng (l : List S37) (h : AllB l) : 0 ≤ pcs l ∧ pcs l ≤ 1000 * l.length := by
  induction l with
  | nil => exact ⟨Int.le_refl 0, Int.le_refl 0⟩
  | cons x t ih =>
    rw [pcs_cons, List.length_cons]
    have := ih (fun y hy => h y (by simp [hy]))
    have := (line_rngs (h x (by simp))).1
    omega
theorem wgt_rng (l : List S37) (h : AllB l) : 0 ≤ wgt l ∧ wgt l ≤ 100000000 * l.length := by
  induction l with
  | nil => exact ⟨Int.le_refl 0, Int.le_refl 0⟩
  | cons x t ih =>
    rw [wgt_cons, List.length_cons]
    have := ih (fun y hy => h y (by simp [hy]))
    have := (line_rngs (h x (by simp))).2.2
    omega
theorem rise_up (l : List S37) : ∀ (d i : Nat), i + d = l.length → rise l d i = true → Up (l.drop i) ∧ (∀ (h0 : 0 < i) (hl : i - 1 < l.length), ∀ y ∈ l.drop i, Lt l[i - 1].f0 y.f0) := by
  intro d
  induction d with
  | zero =>
    intro i h _
    rw [List.drop_of_length_le (by omega)]
    exact ⟨List.Pairwise.nil, fun _ _ y hy => absurd hy (by simp)⟩
  | succ d ih =>
    intro i h hr
    have h1 : i < l.length := by omega
    rw [rise, dif_pos h1] at hr
    simp only [Bool.and_eq_true] at hr
    obtain ⟨_, hr1, hr2⟩ := hr
    obtain ⟨u, v⟩ := ih (i + 1) (by omega) hr2
    have v' := v (by omega) (by simpa using h1)
    simp only [Nat.add_sub_cancel] at v'
    rw [List.drop_eq_getElem_cons h1]
    refine ⟨List.pairwise_cons.2 ⟨v', u⟩, fun h0 hl y hy => ?_⟩
    rw [dif_pos h0] at hr1
    have q : Lt l[i - 1].f0 l[i].f0 := of_decide_eq_true hr1
    rcases List.mem_cons.1 hy with e | e
    · rw [e]; exact q
    · exact lt_tr q (v' y e)
theorem linesB_up {l : List S37} (h : linesB l = true) : Up l := by
  simp only [linesB, Bool.and_eq_true, decide_eq_true_eq] at h
  have := (rise_up l l.length 0 (by omega) h.1).1
  rwa [List.drop_zero] at this
theorem linesB_of {l : List S37} (hu : Up l) (ha : AllB l) (h1 : 1 ≤ l.length) (h8 : l.length ≤ 8) : linesB l = true := by
  unfold linesB
  rw [rise_of l hu ha l.length 0 (by omega), decide_eq_true ⟨h1, h8⟩]; rfl
theorem idx_app (s : ByteArray) (x : S37) (B : List S37) (e : x.f0 = s) : ∀ (A : List S37) (i : Nat), (∀ a ∈ A, a.f0 ≠ s) → idxS s (A ++ x :: B) i = ((i + A.length : Nat) : Int) := by
  intro A
  induction A with
  | nil => intro i _; rw [List.nil_append, idxS, if_pos (by rw [e]; simp)]; rfl
  | cons a t ih =>
    intro i h
    rw [List.cons_append, idxS, if_neg (by simpa using fun q => h a (by simp) (toList_inj q)), ih (i + 1) (fun y hy => h y (by simp [hy])), List.length_cons]
    omega
theorem idx_none (s : ByteArray) : ∀ (l : List S37) (i : Nat), (∀ a ∈ l, a.f0 ≠ s) → idxS s l i = -1 := by
  intro l
  induction l with
  | nil => intro i _; rfl
  | cons a t ih =>
    intro i h
    rw [idxS, if_neg (by simpa using fun q => h a (by simp) (toList_inj q)), ih (i + 1) (fun y hy => h y (by simp [hy]))]
theorem up_cut {l : List S37} (hu : Up l) {x : S37} (hx : x ∈ l) : ∃ A B, l = A ++ x :: B ∧ (∀ a ∈ A, a.f0 ≠ x.f0) ∧ (∀ b ∈ B, b.f0 ≠ x.f0) := by
  obtain ⟨A, B, e⟩ := List.append_of_mem hx
  subst e
  have h := List.pairwise_append.1 hu
  refine ⟨A, B, rfl, fun a ha q => ?_, fun b hb q => ?_⟩
  · have := h.2.2 a ha x (by simp); rw [q] at this; exact lt_irr _ this
  · have := (List.pairwise_cons.1 h.2.1).1 b hb; rw [q] at this; exact lt_irr _ this
theorem rd_mid (A B : List S37) (x : S37) : rd_T37 (A ++ x :: B) (A.length : Int) = x := by
  rw [rd_37 (A ++ x :: B) A.length (by simp)]; simp
def left (A : List S37) (x : S37) (B : List S37) (q : Int) : List S37 := if x.f1 - q = 0 then A ++ B else A ++ ⟨x.f0, x.f1 - q, x.f2⟩ :: B
theorem tak_mid (A B : List S37) (x : S37) (q : Int) (h0 : 0 ≤ x.f1 - q) (h1 : x.f1 - q ≤ 1000) : tak (A ++ x :: B) A.length q = left A x B q := by
  unfold tak left
  simp only [rd_mid, w64 (x := x.f1 - q) (by omega) (by omega)]
  by_cases c : x.f1 - q = 0
  · rw [if_pos c, if_pos c]; simp
  · rw [if_neg c, if_neg c]; simp
theorem left_lines {A B : List S37} {x : S37} {q : Int} (h : linesB (A ++ x :: B) = true) (h1 : 1 ≤ q) (h2 : q ≤ x.f1) : linesB (left A x B q) = decide (left A x B q ≠ []) := by
  have hu := linesB_up h
  obtain ⟨ha, hl1, hl8⟩ := linesB_one h
  have hp := List.pairwise_append.1 hu
  have hc := List.pairwise_cons.1 hp.2.1
  have rx := line_rngs (ha x (by simp))
  have rl := line_rng (ha x (by simp))
  unfold left
  by_cases c : x.f1 - q = 0
  · rw [if_pos c]
    by_cases e : A ++ B = []
    · rw [e]; decide
    · rw [decide_eq_true e]
      refine linesB_of (List.pairwise_append.2 ⟨hp.1, hc.2, fun a haa b hbb => hp.2.2 a haa b (by simp [hbb])⟩) (fun y hy => ?_) (List.length_pos_iff.2 e) (by simp at hl8 ⊢; omega)
      rcases List.mem_append.1 hy with g | g
      · exact ha y (by simp [g])
      · exact ha y (by simp [g])
  · rw [if_neg c, decide_eq_true (by simp)]
    refine linesB_of (List.pairwise_append.2 ⟨hp.1, List.pairwise_cons.2 ⟨hc.1, hc.2⟩, fun a haa b hbb => ?_⟩) (fun y hy => ?_) (by simp; omega) (by simpa using hl8)
    · rcases List.mem_cons.1 hbb with g | g
      · rw [g]; exact hp.2.2 a haa x (by simp)
      · exact hp.2.2 a haa b (by simp [g])
    · rcases List.mem_append.1 hy with g | g
      · exact ha y (by simp [g])
      · rcases List.mem_cons.1 g with g | g
        · rw [g]
          simp only [lineB, Bool.and_eq_true, decide_eq_true_eq]
          exact ⟨rl.1, by omega, by omega, by omega, by omega⟩
        · exact ha y (by simp [g])
theorem left_pcs (A B : List S37) (x : S37) (q : Int) : pcs (left A x B q) = pcs (A ++ x :: B) - q := by
  unfold left
  by_cases c : x.f1 - q = 0
  · rw [if_pos c, pcs_app, pcs_app, pcs_cons]; omega
  · rw [if_neg c, pcs_app, pcs_app, pcs_cons, pcs_cons]; simp only; omega
theorem left_wgt (A B : List S37) (x : S37) (q : Int) : wgt (left A x B q) = wgt (A ++ x :: B) - q * x.f2 := by
  unfold left
  by_cases c : x.f1 - q = 0
  · rw [if_pos c, wgt_app, wgt_app, wgt_cons, show q = x.f1 from by omega]; omega
  · rw [if_neg c, wgt_app, wgt_app, wgt_cons, wgt_cons]; simp only; rw [Int.sub_mul]; omega
theorem take_eq (l : List S37) (s : ByteArray) (q : Int) (hb : l.length ≤ 1000) (hs : ∀ x ∈ l, x.f0.size ≤ 140737488351232) :
    (∃ A x B, l = A ++ x :: B ∧ x.f0 = s ∧ linesB l = true ∧ 1 ≤ q ∧ q ≤ x.f1 ∧ left A x B q ≠ [] ∧ linesB (left A x B q) = true ∧ Ev (fun k => lines_Take.f k l s q) (left A x B q, 0)) ∨
    ((∀ A x B, l = A ++ x :: B → x.f0 = s → linesB l = true → 1 ≤ q → q ≤ x.f1 → left A x B q = []) ∧ Ev (fun k => lines_Take.f k l s q) (([] : List S37), 41)) := by
  have E := lines_eq l (by omega) hs
  have fail : ¬ (linesB l = true ∧ 0 ≤ idxS s l 0 ∧ 1 ≤ q ∧ q ≤ (rd_T37 l (idxS s l 0)).f1) → Ev (fun k => lines_Take.f k l s q) (([] : List S37), 41) := fun h => by
    unfold lines_Take.f
    exact Ev.bind E (Ev.ifn h (Ev.now _))
  cases hl : linesB l
  · exact .inr ⟨fun A x B _ _ h => absurd h (by simp), fail (by rw [hl]; simp)⟩
  have hu := linesB_up hl
  obtain ⟨hone, hl1, hl8⟩ := linesB_one hl
  by_cases hex : ∃ x ∈ l, x.f0 = s
  rotate_left
  · refine .inr ⟨fun A x B e es => absurd ⟨x, by rw [e]; simp, es⟩ hex, fail ?_⟩
    rw [idx_none s l 0 (fun a ha q => hex ⟨a, ha, q⟩)]
    rintro ⟨_, h, _⟩; omega
  obtain ⟨x, hx, ex⟩ := hex
  obtain ⟨A, B, e, hA, hB⟩ := up_cut hu hx
  rw [ex] at hA
  have hid : idxS s l 0 = (A.length : Int) := by rw [e, idx_app s x B ex A 0 hA]; simp
  have hrd : rd_T37 l (A.length : Int) = x := by rw [e]; exact rd_mid A B x
  have uniq : ∀ A' x' B', l = A' ++ x' :: B' → x'.f0 = s → A' = A ∧ x' = x ∧ B' = B := by
    intro A' x' B' e' es
    have hxx : x' = x := up_key hu (by rw [e']; simp) hx (by rw [es, ex])
    subst hxx
    have hlen : A'.length = A.length := by
      have hA' : ∀ a ∈ A', a.f0 ≠ s := by
        intro a ha g
        have hp := List.pairwise_append.1 (by rw [e'] at hu; exact hu)
        have := hp.2.2 a ha x' (by simp)
        rw [g, es] at this; exact lt_irr _ this
      have h1 := idx_app s x' B' es A' 0 hA'
      rw [← e', hid] at h1
      omega
    have := List.append_inj (e'.symm.trans e) hlen
    exact ⟨this.1, rfl, by have := this.2; injection this⟩
  by_cases c : 1 ≤ q ∧ q ≤ x.f1
  rotate_left
  · refine .inr ⟨fun A' x' B' e' es _ h1 h2 => ?_, fail ?_⟩
    · obtain ⟨_, rfl, _⟩ := uniq A' x' B' e' es
      exact absurd ⟨h1, h2⟩ c
    · rw [hid, hrd]; rintro ⟨_, _, h1, h2⟩; exact c ⟨h1, h2⟩
  have rx := line_rngs (hone x hx)
  have ht : tak l (idxS s l 0).toNat q = left A x B q := by rw [hid, Int.toNat_natCast, e]; exact tak_mid A B x q (by omega) (by omega)
  have hsl : ∀ y ∈ left A x B q, y.f0.size ≤ 140737488351232 := by
    intro y hy
    unfold left at hy
    have hA2 : ∀ y ∈ A, y.f0.size ≤ 140737488351232 := fun y h => hs y (by rw [e]; simp [h])
    have hB2 : ∀ y ∈ B, y.f0.size ≤ 140737488351232 := fun y h => hs y (by rw [e]; simp [h])
    split at hy
    · rcases List.mem_append.1 hy with g | g
      · exact hA2 y g
      · exact hB2 y g
    · rcases List.mem_append.1 hy with g | g
      · exact hA2 y g
      · rcases List.mem_cons.1 g with g | g
        · rw [g]; exact hs x hx
        · exact hB2 y g
  have hll : (left A x B q).length ≤ 1000 := by
    unfold left; rw [e] at hb
    split
    · simp at hb ⊢; omega
    · simpa using hb
  have E2 := lines_eq (left A x B q) (by omega) hsl
  have L := left_lines (by rw [← e]; exact hl) c.1 c.2
  rw [L] at E2
  have go : ∀ r, Ev (fun k => (lines_Right.f k (left A x B q)).bind fun c => (if c = true then some (left A x B q, (0 : Int)) else some (([] : List S37), 41))) r → Ev (fun k => lines_Take.f k l s q) r := fun r hr => by
    unfold lines_Take.f
    refine Ev.bind E (Ev.ifp ⟨hl, by omega, c.1, by rw [hid, hrd]; exact c.2⟩ (Ev.ifp (by omega) ?_))
    rw [ht]; exact hr
  by_cases h0 : left A x B q = []
  · refine .inr ⟨fun A' x' B' e' es _ _ _ => ?_, go _ (Ev.bind E2 (Ev.ifn (by simp [h0]) (Ev.now _)))⟩
    obtain ⟨rfl, rfl, rfl⟩ := uniq A' x' B' e' es
    exact h0
  · exact .inl ⟨A, x, B, e, ex, rfl, c.1, c.2, h0, by rw [L]; exact decide_eq_true h0, go _ (Ev.bind E2 (Ev.ifp (by simp [h0]) (Ev.now _)))⟩
end Go.Proofs.YtalcopjlofbfaaaDoor.Pure
