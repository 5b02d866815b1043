
import Derived.Test.YtnacmehhmheooaaDoorQOutboxBackOutGo
import Derived.Test.YtnacmehhmheooaaDoorQOutboxBackCodRef
import Derived.Test.YtnacmehhmheooaaDoorQOutboxBackLabEq
set_option linter.unusedVariables false
namespace Go.Proofs.YtnacmehhmheooaaDoor.Pure
open Go.RowKit Go.Proofs.YtnacmehhmheooaaDoor Go.Proofs.YtnacmehhmheooaaDoor.PAll Go.Proofs.YtnacmehhmheooaaDoorW.PrintWords Go.Proofs.YtnacmehhmheooaaDoorW.PrintLast Go.Proofs.YtnacmehhmheooaaDoorW.PrintMore
theorem alive : Ev (fun k => packhorselaw13_outboxAlive.f k) true := Ev.of (packhorselaw13_outboxAlive.mono ·) (k := 60) (by decide +kernel)
theorem rday (x : Int) : packhorseref03_Right.f x = some (decide (0 ≤ x ∧ x ≤ 1099511627776)) := by
  unfold packhorseref03_Right.f
  by_cases c : 0 ≤ x
  · rw [if_pos c]; simp [c]
  · rw [if_neg c, decide_eq_false (by omega)]
theorem one_ref (x : S27) (hs : x.f5.size ≤ 140737488351232) : Ev (fun k => packhorseref13_One.f k x.f0 x.f1 x.f2 x.f3 x.f4 x.f5) (oneE x) := by
  obtain ⟨a, b, c, d, e, s⟩ := x
  simp only at hs ⊢
  have no : (¬ ((1 ≤ a ∧ a ≤ 1000000000000) ∧ (0 ≤ c ∧ c ≤ 1099511627776) ∧ (0 ≤ e ∧ e ≤ 1000000))) → Ev (fun k => packhorseref13_One.j0 k true a b c d e s) (oneE ⟨a, b, c, d, e, s⟩) := fun h => by
    rw [show oneE ⟨a, b, c, d, e, s⟩ = false from Bool.eq_false_iff.2 fun g => h (by have := oneE_ok g; exact ⟨this.1, this.2.2.1, this.2.2.2.2.1⟩)]
    exact Ev.step (f := fun _ => some false) (fun k => by rw [packhorseref13_One.j0, if_pos rfl]) (Ev.now _)
  unfold packhorseref13_One.f
  by_cases c1 : a < 1
  · exact Ev.ifp c1 (no (by omega))
  by_cases c2 : a > 1000000000000
  · exact Ev.ifn c1 (Ev.ifp c2 (no (by omega)))
  refine Ev.ifn c1 (Ev.ifn c2 (Ev.bindc (rday c) ?_))
  by_cases c3 : 0 ≤ c ∧ c ≤ 1099511627776
  rotate_left
  · exact Ev.ifn (by simpa using c3) (no (by omega))
  refine Ev.ifp (decide_eq_true c3) ?_
  by_cases c4 : e < 0
  · exact Ev.ifp c4 (no (by omega))
  refine Ev.ifn c4 ?_
  by_cases c5 : e > 1000000
  · rw [decide_eq_true c5]; exact no (by omega)
  rw [decide_eq_false c5]
  refine Ev.step (fun k => by rw [packhorseref13_One.j0, if_neg (by decide)]) ?_
  unfold oneE
  simp only
  rw [decide_eq_true (show 1 ≤ a ∧ a ≤ 1000000000000 by omega), decide_eq_true c3, decide_eq_true (show 0 ≤ e ∧ e ≤ 1000000 by omega)]
  simp only [Bool.true_and]
  have bat : (1 ≤ d ∧ d ≤ 7) → (d = 3 ∨ d = 4) → Ev (fun k => packhorseref13_One.j1 k d true a b c d e s) (decide (1 ≤ d ∧ d ≤ 7) && if d = 3 ∨ d = 4 then decide (1 ≤ b ∧ b ≤ 1000000000000) && decide (s = ⟨#[]⟩) else decide (b = 0) && lab s) := fun h7 h => by
    rw [decide_eq_true h7, Bool.true_and, if_pos h]
    refine Ev.step (fun k => by rw [packhorseref13_One.j1, if_pos rfl]) ?_
    by_cases b1 : b > 0
    · by_cases b2 : b ≤ 1000000000000
      · rw [decide_eq_true (show 1 ≤ b ∧ b ≤ 1000000000000 by omega), Bool.true_and]
        refine Ev.ifp b1 (Ev.ifp b2 ?_)
        rw [toList_empty]
        exact Ev.now _
      · rw [decide_eq_false (show ¬ (1 ≤ b ∧ b ≤ 1000000000000) by omega), Bool.false_and]
        exact Ev.ifp b1 (Ev.ifn b2 (Ev.now _))
    · rw [decide_eq_false (show ¬ (1 ≤ b ∧ b ≤ 1000000000000) by omega), Bool.false_and]
      exact Ev.ifn b1 (Ev.now _)
  have lb : ∀ v : Bool, v = (decide (b = 0) && lab s) → Ev (fun k => if b = 0 then ((packhorseref01_Right.f k s).bind fun t293 => (some t293)) else (some false)) v := fun v hv => by
    rw [hv]
    by_cases b0 : b = 0
    · rw [decide_eq_true b0, Bool.true_and]
      exact Ev.ifp b0 (Ev.bind (right_ref s hs) (Ev.now _))
    · rw [decide_eq_false b0, Bool.false_and]
      exact Ev.ifn b0 (Ev.now _)
  by_cases d3 : d = 3
  · refine Ev.ifp d3 ?_
    rw [show (d == 3) = true from by simp [d3]]
    exact bat (by omega) (.inl d3)
  refine Ev.ifn d3 ?_
  by_cases d4 : d = 4
  · rw [show (d == 4) = true from by simp [d4]]
    exact bat (by omega) (.inr d4)
  rw [show (d == 4) = false from by simp [d4], if_neg (show ¬ (d = 3 ∨ d = 4) by omega)]
  refine Ev.step (fun k => by rw [packhorseref13_One.j1, if_neg (by decide)]) ?_
  have r : (1 ≤ d ∧ d ≤ 7) → (decide (1 ≤ d ∧ d ≤ 7) && (decide (b = 0) && lab s)) = (decide (b = 0) && lab s) := fun h => by rw [decide_eq_true h, Bool.true_and]
  by_cases d1 : d = 1
  · exact Ev.ifp d1 (lb _ (r (by omega)))
  refine Ev.ifn d1 ?_
  by_cases d2 : d = 2
  · exact Ev.ifp d2 (lb _ (r (by omega)))
  refine Ev.ifn d2 ?_
  by_cases d5 : d = 5
  · exact Ev.ifp d5 (lb _ (r (by omega)))
  refine Ev.ifn d5 ?_
  by_cases d6 : d = 6
  · exact Ev.ifp d6 (lb _ (r (by omega)))
  refine Ev.ifn d6 ?_
  by_cases d7 : d = 7
  · exact Ev.ifp d7 (lb _ (r (by omega)))
  refine Ev.ifn d7 ?_
  rw [decide_eq_false (by omega), Bool.false_and]
  exact Ev.now _
theorem rright_l (l : List S27) (hs : ∀ x ∈ l, x.f5.size ≤ 140737488351232) (hb : l.length ≤ 4611686018427387904) (d : Nat) : ∀ (i : Nat) (a : Int), i + d = l.length →
    Ev (fun k => packhorseref13_Right.l0 k a l (l.length : Int) (i : Int)) (rightE a (l.drop i)) := by
  induction d with
  | zero =>
    intro i a h
    rw [List.drop_of_length_le (by omega)]
    exact Ev.step (f := fun _ => some true) (fun k => by rw [packhorseref13_Right.l0, if_neg (by omega)]) (Ev.now _)
  | succ d ih =>
    intro i a h
    have h1 : i < l.length := by omega
    refine Ev.step (fun k => by rw [packhorseref13_Right.l0, if_pos (by omega), if_pos (by omega), if_pos (by omega), rd_27 l i h1, w64 (x := (i : Int) + 1) (by omega) (by omega)]) ?_
    refine Ev.bind (one_ref l[i] (hs _ (List.getElem_mem h1))) ?_
    rw [List.drop_eq_getElem_cons h1, rightE]
    cases c : oneE l[i]
    · exact Ev.ifn (by decide) (Ev.now _)
    refine Ev.ifp rfl ?_
    rw [Bool.true_and]
    by_cases q : l[i].f0 ≤ a
    · rw [decide_eq_false (by omega), Bool.false_and]; exact Ev.ifp q (Ev.now _)
    · rw [decide_eq_true (by omega), Bool.true_and]; exact Ev.ifn q (ih (i + 1) l[i].f0 (by omega))
theorem right_ref13 (l : List S27) (hs : ∀ x ∈ l, x.f5.size ≤ 140737488351232) (hb : l.length ≤ 4611686018427387904) : Ev (fun k => packhorseref13_Right.f k l) (rightE 0 l) := rright_l l hs hb l.length 0 0 (by omega)
def flipO (t : ResO) : ResO := (t.1, t.2.1, t.2.2.1, !t.2.2.2)
theorem num_R (most : Nat) (q : List Int) (f : Bool) (h1 : Byt q) (h2 : q.length ≤ 140737488355328) (h3 : most ≤ 1099511627776) : Ev (fun k => packhorseref10_Scan_Number.f k q (!f) (most : Int)) ((rdN most q f).1, (rdN most q f).2.1, !(rdN most q f).2.2) ∧ Byt (rdN most q f).2.1 ∧ (rdN most q f).2.1.length ≤ 140737488355328 ∧ 0 ≤ (rdN most q f).1 ∧ (rdN most q f).1 ≤ most := by
  have := rdN_range most q f h1
  exact ⟨sN_eq q f h2 h1 most (by omega), rdN_byt _ _ _ h1, Nat.le_trans (rdN_len _ _ _) h2, this⟩
theorem rtake_l (n : Nat) (hn : n ≤ 1048576) (d : Nat) : ∀ (i : Nat) (l : List S27) (b : List Int) (bad : Bool), i + d = n → l.length = i → Byt b → b.length ≤ 140737488355328 → (∀ x ∈ l, x.f5.size ≤ 32) →
    Ev (fun k => packhorseref13_Take.l0 k l (n : Int) (i : Int) b (!bad)) (flipO (endO (l ++ (rdEs d b bad).1, (rdEs d b bad).2))) := by
  have fin : ∀ (i : Int) (l : List S27) (b : List Int) (bad : Bool), l.length ≤ 1048576 → (∀ x ∈ l, x.f5.size ≤ 32) → Ev (fun k => packhorseref13_Take.j1 k l (n : Int) i false b (!bad)) (flipO (endO (l, b, bad))) := by
    intro i l b bad hl hm
    refine Ev.step (fun k => by rw [packhorseref13_Take.j1, if_neg (by decide)]) ?_
    unfold endO
    cases bad
    · refine Ev.ifp rfl ?_
      refine Ev.bind (right_ref13 l (fun x hx => by have := hm x hx; omega) (by omega)) ?_
      rw [if_neg (show ¬ ((l, b, false) : List S27 × List Int × Bool).2.2 = true by simp)]
      simp only
      cases rightE 0 l
      · exact Ev.ifn (by decide) (Ev.now _)
      · exact Ev.ifp rfl (Ev.now _)
    · exact Ev.ifn (by decide) (Ev.now _)
  induction d with
  | zero =>
    intro i l b bad h0 h1 hb hl hm
    refine Ev.step (fun k => by rw [packhorseref13_Take.l0, if_neg (by omega)]) ?_
    unfold rdEs
    rw [List.append_nil]
    exact fin i l b bad (by omega) hm
  | succ d ih =>
    intro i l b bad h0 h1 hb hl hm
    refine Ev.step (fun k => by rw [packhorseref13_Take.l0, if_pos (by omega)]) ?_
    cases bad
    rotate_left
    · unfold rdEs
      rw [if_pos rfl, List.append_nil]
      exact fin i l b true (by omega) hm
    unfold rdEs
    rw [if_neg (by decide)]
    refine Ev.step (fun k => by rw [packhorseref13_Take.j1, if_pos (show (!false) = true from rfl)]) ?_
    have F := rdE_facts b false hb
    unfold rdE at F ⊢
    simp only at F ⊢
    obtain ⟨n1, B1, L1, _⟩ := num_R 1000000000000 b false hb hl (by omega)
    refine Ev.bind n1 ?_
    simp only [show ((1000000000000 : Nat) : Int) = 1000000000000 from rfl] at *
    generalize rdN 1000000000000 b false = k at *
    obtain ⟨n2, B2, L2, _⟩ := num_R 7 k.2.1 k.2.2 B1 L1 (by omega)
    refine Ev.bind n2 ?_
    simp only [show ((7 : Nat) : Int) = 7 from rfl] at *
    generalize rdN 7 k.2.1 k.2.2 = kd at *
    obtain ⟨n3, B3, L3, _⟩ := num_R 1000000 kd.2.1 kd.2.2 B2 L2 (by omega)
    refine Ev.bind n3 ?_
    simp only [show ((1000000 : Nat) : Int) = 1000000 from rfl] at *
    generalize rdN 1000000 kd.2.1 kd.2.2 = tr at *
    obtain ⟨n4, B4, L4, _⟩ := num_R 1099511627776 tr.2.1 tr.2.2 B3 L3 (by omega)
    refine Ev.bind n4 ?_
    simp only [show ((1099511627776 : Nat) : Int) = 1099511627776 from rfl] at *
    generalize rdN 1099511627776 tr.2.1 tr.2.2 = du at *
    obtain ⟨n5, B5, L5, _⟩ := num_R 1000000000000 du.2.1 du.2.2 B4 L4 (by omega)
    refine Ev.bind n5 ?_
    simp only [show ((1000000000000 : Nat) : Int) = 1000000000000 from rfl] at *
    generalize rdN 1000000000000 du.2.1 du.2.2 = ba at *
    refine Ev.bind (sT_eq ba.2.1 ba.2.2 L5 B5 32 (by omega)) (Ev.ifp (by omega) ?_)
    rw [w64 (x := (i : Int) + 1) (by omega) (by omega)]
    generalize rdT 32 ba.2.1 ba.2.2 = tx at *
    have k := ih (i + 1) (l ++ [⟨k.1, ba.1, du.1, kd.1, tr.1, tx.1⟩]) tx.2.1 tx.2.2 (by omega) (by simp [h1]) F.1 (by omega) (by
      intro x hx
      rcases List.mem_append.1 hx with e | e
      · exact hm x e
      · rw [List.mem_singleton.1 e]; exact F.2.2)
    rw [List.append_assoc] at k
    exact k
theorem rtake_O (b : List Int) (bad : Bool) (hb : Byt b) (hl : b.length ≤ 140737488355328) : Ev (fun k => packhorseref13_Take.f k b (!bad)) (flipO (takeO b bad)) := by
  unfold packhorseref13_Take.f takeO
  obtain ⟨n1, B1, L1, r1, r2⟩ := num_R 1048576 b bad hb hl (by omega)
  refine Ev.bind n1 ?_
  simp only [show ((1048576 : Nat) : Int) = 1048576 from rfl] at *
  generalize rdN 1048576 b bad = n at *
  have k := rtake_l n.1.toNat (by omega) n.1.toNat 0 [] n.2.1 n.2.2 (by omega) rfl B1 L1 (by simp)
  rw [show ((n.1.toNat : Nat) : Int) = n.1 from by omega, List.nil_append] at k
  exact k
section
variable (l : List S27) (h : ∀ x ∈ l, oneE x = true) (hn : l.length ≤ 60)
include h hn
theorem rb_l1 (j : Nat) (hj : j < l.length) (x : S27) (ex : l[j] = x) (ns : List Nat) (hm : ∀ n ∈ ns, n < 18446744073709551616) (hN : ns.length ≤ 10) (out : List Int)
    (next : ∀ o : List Int, o.length ≤ 2000 + 200 * (j + 1) → Ev (fun k => packhorseref13_Bytes.l0 k o l (l.length : Int) ((j + 1 : Nat) : Int)) (o ++ out)) (d : Nat) : ∀ (i : Nat) (o : List Int), i + d = ns.length → o.length ≤ 2000 + 200 * j + 10 * i →
    Ev (fun k => packhorseref13_Bytes.l1 k o l (l.length : Int) (j : Int) (ns.map fun n : Nat => (n : Int)) (ns.length : Int) (i : Int) x.f0 x.f1 x.f2 x.f3 x.f4 x.f5) (o ++ ((ns.drop i).flatMap enc ++ (encT x.f5 ++ out))) := by
  have hx5 : x.f5.size ≤ 32 := by have := (oneE_ok (h _ (List.getElem_mem hj))).2.2.2.2.2; rw [ex] at this; exact this
  induction d with
  | zero =>
    intro i o h1 h2
    have b1 := encT_len hx5
    rw [List.drop_of_length_le (by omega), List.flatMap_nil, List.nil_append]
    refine Ev.step (fun k => by rw [packhorseref13_Bytes.l1, if_neg (by omega)]) ?_
    refine Ev.bind (refT x.f5 hx5) (Ev.ifp (by omega) ?_)
    rw [w64 (x := (j : Int) + 1) (by omega) (by omega), ← List.append_assoc]
    exact next _ (by rw [List.length_append]; omega)
  | succ d ih =>
    intro i o h1 h2
    have hlt : i < ns.length := by omega
    have hv := hm _ (List.getElem_mem hlt)
    have hL := enc_len10 (n := ns[i]) (by omega)
    have e : rd (ns.map fun n : Nat => (n : Int)) (i : Int) = ((ns[i] : Nat) : Int) := by rw [rd_i _ i (by rw [List.length_map]; omega), List.getElem_map]
    refine Ev.step (fun k => by rw [packhorseref13_Bytes.l1, if_pos (by omega), if_pos (by omega), if_pos (by rw [List.length_map]; omega), e]) ?_
    refine Ev.bind (refN _ ns[i] rfl hv) (Ev.ifp (by omega) ?_)
    have k := ih (i + 1) (o ++ enc ns[i]) (by omega) (by rw [List.length_append]; omega)
    rw [w64 (x := (i : Int) + 1) (by omega) (by omega), List.drop_eq_getElem_cons hlt, List.flatMap_cons, List.append_assoc]
    rw [List.append_assoc] at k
    exact k
theorem rb_l0 (d : Nat) : ∀ (j : Nat) (o : List Int), j + d = l.length → o.length ≤ 2000 + 200 * j → Ev (fun k => packhorseref13_Bytes.l0 k o l (l.length : Int) (j : Int)) (o ++ (l.drop j).flatMap encE) := by
  induction d with
  | zero =>
    intro j o h1 h2
    rw [List.drop_of_length_le (by omega)]
    refine Ev.step (f := fun _ => some (o ++ ([] : List S27).flatMap encE)) (fun k => ?_) (Ev.now _)
    rw [packhorseref13_Bytes.l0, if_neg (by omega)]; simp
  | succ d ih =>
    intro j o h1 h2
    have hlt : j < l.length := by omega
    have hv := h _ (List.getElem_mem hlt)
    obtain ⟨g0, g1, g2, g3, g4, g5⟩ := oneE_ok hv
    refine Ev.step (fun k => by rw [packhorseref13_Bytes.l0, if_pos (by omega), if_pos (by omega), if_pos (by omega), rd_27 l j hlt]) ?_
    rw [List.drop_eq_getElem_cons hlt, List.flatMap_cons]
    generalize ex : l[j] = x at *
    refine Ev.bindc rfl ?_
    have k := rb_l1 l h hn j hlt x ex [x.f0.toNat, x.f3.toNat, x.f4.toNat, x.f2.toNat, x.f1.toNat] (by intro q hq; simp at hq; rcases hq with e | e | e | e | e <;> omega) (by simp) ((l.drop (j + 1)).flatMap encE) (fun o ho => ih (j + 1) o (by omega) ho) 5 0 o rfl (by omega)
    have e : ([x.f0.toNat, x.f3.toNat, x.f4.toNat, x.f2.toNat, x.f1.toNat] : List Nat).map (fun n : Nat => (n : Int)) = [x.f0, x.f3, x.f4, x.f2, x.f1] := by
      simp only [List.map_cons, List.map_nil]
      rw [show ((x.f0.toNat : Nat) : Int) = x.f0 from by omega, show ((x.f1.toNat : Nat) : Int) = x.f1 from by omega, show ((x.f2.toNat : Nat) : Int) = x.f2 from by omega, show ((x.f3.toNat : Nat) : Int) = x.f3 from by omega, show ((x.f4.toNat : Nat) : Int) = x.f4 from by omega]
    rw [e] at k
    have e2 : ([x.f0.toNat, x.f3.toNat, x.f4.toNat, x.f2.toNat, x.f1.toNat] : List Nat).flatMap enc ++ (encT x.f5 ++ (l.drop (j + 1)).flatMap encE) = encE x ++ (l.drop (j + 1)).flatMap encE := by simp [encE]
    rw [List.drop_zero, e2] at k
    exact k
theorem rbytes : Ev (fun k => packhorseref13_Bytes.f k l) (encO l) := by
  have a := enc_len10 (n := l.length) (by omega)
  unfold packhorseref13_Bytes.f
  exact Ev.bind (refN _ l.length rfl (by omega)) (rb_l0 l h hn l.length 0 (enc l.length) (by omega) (by omega))
end
theorem OutboxBytes : packhorselaw13_OutboxBytes.PureQ := by
  intro l q hl hq
  have Bq : Byt q := fun x hx => by
    have := hq.2 x hx
    simp only [Lit.wf, Bool.and_eq_true, decide_eq_true_eq] at this
    have h1 : IntKind.u8.min = 0 := by decide
    have h2 : IntKind.u8.max = 255 := by decide
    omega
  have hs : ∀ x ∈ l, x.f5.size ≤ 140737488351232 := fun x hx => (hl.2 x hx).2.2.2.2.2
  refine Ev.rounds (g := fun k => packhorselaw13_OutboxBytes.f k l q) ?_
  have fin : Ev (fun k => packhorselaw13_OutboxBytes.j0 k l q true) true := Ev.step (f := fun _ => some true) (fun k => by rw [packhorselaw13_OutboxBytes.j0, if_pos rfl]) (Ev.now _)
  unfold packhorselaw13_OutboxBytes.f
  refine Ev.bind alive (Ev.ifp rfl ?_)
  by_cases c60 : (l.length : Int) > 60
  · exact Ev.ifp c60 fin
  refine Ev.ifn c60 ?_
  by_cases cq : (q.length : Int) > 2000
  · rw [decide_eq_true cq]; exact fin
  rw [decide_eq_false cq]
  refine Ev.step (fun k => by rw [packhorselaw13_OutboxBytes.j0, if_neg (by decide)]) ?_
  refine Ev.bindc (new_R q (by omega)) ?_
  refine Ev.bind (take_O q false Bq (by omega)) (Ev.bind (rtake_O q false Bq (by omega)) ?_)
  have hn : l.length ≤ 60 := by omega
  have fin1 : Ev (fun k => packhorselaw13_OutboxBytes.j1 k l false) true := by
    refine Ev.step (fun k => by rw [packhorselaw13_OutboxBytes.j1, if_neg (by decide)]) ?_
    refine Ev.bind (right_ref13 l hs (by omega)) ?_
    cases hr : rightE 0 l
    · exact Ev.ifn (by decide) (Ev.now _)
    have hm := rightE_mem hr
    refine Ev.ifp rfl (Ev.bind (put_O hm hn) ?_)
    have L : (encO l).length ≤ 6000 := by
      have a := enc_len10 (n := l.length) (by omega)
      have b := encEs_len l hm
      unfold encO
      rw [List.length_append]; omega
    refine Ev.bindc (new_R _ (by omega)) (Ev.bind (take_O (encO l) false (encO_byt l) (by omega)) ?_)
    have T := takeO_put hr (by omega) []
    rw [List.append_nil] at T
    rw [T]
    refine Ev.bind (rbytes l hm hn) (Ev.ifp rfl (Ev.ifp rfl ?_))
    refine Ev.bindc (a := (true, [], false)) (by unfold packet_Reader_Done.f; rfl) (Ev.ifp rfl ?_)
    exact Ev.bind (same_O l (by omega)) (Ev.now _)
  have rest : Ev (fun k => (outbox_Right.f k l).bind fun t600 => ((packhorseref13_Right.f k l).bind fun t601 => (packhorselaw13_OutboxBytes.j1 k l (t600 != t601)))) true := by
    refine Ev.bind (right_O l hs (by omega)) (Ev.bind (right_ref13 l hs (by omega)) ?_)
    rw [bne_self_eq_false]
    exact fin1
  rcases takeO_got q Bq with ⟨r, bad, e⟩ | ⟨m, u, ok, hm, e, _⟩
  · rw [e]
    refine Ev.ifn (by simp [flipO]) (Ev.bind (same_O [] (by simp)) (Ev.ifp rfl rest))
  · rw [e]
    refine Ev.ifn (by simp [flipO]) (Ev.bind (same_O m (by omega)) (Ev.ifp rfl rest))
end Go.Proofs.YtnacmehhmheooaaDoor.Pure
