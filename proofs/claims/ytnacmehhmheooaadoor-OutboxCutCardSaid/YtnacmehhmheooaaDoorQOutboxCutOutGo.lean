import Derived.Test.YtnacmehhmheooaaDoorQOutboxCutOutCod
import Derived.Test.YtnacmehhmheooaaDoorQOutboxCutPlaceGo

set_option linter.unusedVariables false
namespace Go.Proofs.YtnacmehhmheooaaDoor.Pure
open Go.RowKit Go.Proofs.YtnacmehhmheooaaDoor Go.Proofs.YtnacmehhmheooaaDoor.PAll Go.Proofs.YtnacmehhmheooaaDoorW.PrintWords Go.Proofs.YtnacmehhmheooaaDoorW.PrintLast Go.Proofs.YtnacmehhmheooaaDoorW.PrintMore
theorem toList_inj {a b : ByteArray} (h : a.toList = b.toList) : a = b := by
  rw [ByteArray.toList_eq, ByteArray.toList_eq] at h
  exact ByteArray.ext (Array.toList_inj.1 h)
theorem toList_empty (s : ByteArray) : (s.toList == ([] : List UInt8)) = decide (s = ⟨#[]⟩) := by
  have e0 : (⟨#[]⟩ : ByteArray).toList = [] := by rw [ByteArray.toList_eq]
  by_cases c : s = ⟨#[]⟩
  · rw [decide_eq_true c, c, e0]; rfl
  · rw [decide_eq_false c]
    refine Bool.eq_false_iff.2 fun h => c ?_
    have h : s.toList = [] := by simpa using h
    exact toList_inj (b := ⟨#[]⟩) (by rw [h, e0])
theorem tally_R (x : Int) : tally_Right.f x = some (decide (0 ≤ x ∧ x ≤ 1000000000000)) := by
  unfold tally_Right.f
  by_cases c : 0 ≤ x
  · rw [if_pos (by omega)]; simp [c]
  · rw [if_neg (by omega), decide_eq_false (by omega)]
theorem day_R (x : Int) : day_Right.f x = some (decide (0 ≤ x ∧ x ≤ 1099511627776)) := by
  unfold day_Right.f
  by_cases c : 0 ≤ x
  · rw [if_pos (by omega)]; simp [c]
  · rw [if_neg (by omega), decide_eq_false (by omega)]
theorem one_eq (x : S27) (hs : x.f5.size ≤ 140737488351232) : Ev (fun k => outbox_one.f k x.f0 x.f1 x.f2 x.f3 x.f4 x.f5) (oneE x) := by
  obtain ⟨a, b, c, d, e, s⟩ := x
  simp only at hs ⊢
  have no : (¬ ((1 ≤ a ∧ a ≤ 1000000000000) ∧ (0 ≤ c ∧ c ≤ 1099511627776) ∧ (1 ≤ d ∧ d ≤ 7) ∧ (0 ≤ e ∧ e ≤ 1000000))) → Ev (fun k => outbox_one.j0 k true a b c d e s) (oneE ⟨a, b, c, d, e, s⟩) := fun h => by
    rw [show oneE ⟨a, b, c, d, e, s⟩ = false from Bool.eq_false_iff.2 fun g => h (by have := oneE_ok g; exact ⟨this.1, this.2.2.1, this.2.2.2.1, this.2.2.2.2.1⟩)]
    exact Ev.step (f := fun _ => some false) (fun k => by rw [outbox_one.j0, if_pos rfl]) (Ev.now _)
  unfold outbox_one.f
  by_cases c1 : a < 1
  · exact Ev.ifp c1 (no (by omega))
  by_cases c2 : 0 ≤ a ∧ a ≤ 1000000000000
  rotate_left
  · exact Ev.ifn c1 (Ev.bindc (tally_R a) (Ev.ifn (by simpa using c2) (no (by omega))))
  by_cases c3 : 0 ≤ c ∧ c ≤ 1099511627776
  rotate_left
  · exact Ev.ifn c1 (Ev.bindc (tally_R a) (Ev.ifp (decide_eq_true c2) (Ev.bindc (day_R c) (Ev.ifn (by simpa using c3) (no (by omega))))))
  refine Ev.ifn c1 (Ev.bindc (tally_R a) (Ev.ifp (decide_eq_true c2) (Ev.bindc (day_R c) (Ev.ifp (decide_eq_true c3) ?_))))
  by_cases c4 : e < 0
  · exact Ev.ifp c4 (no (by omega))
  by_cases c5 : e > 1000000
  · exact Ev.ifn c4 (Ev.ifp c5 (no (by omega)))
  by_cases c6 : d < 1
  · exact Ev.ifn c4 (Ev.ifn c5 (Ev.ifp c6 (no (by omega))))
  refine Ev.ifn c4 (Ev.ifn c5 (Ev.ifn c6 ?_))
  by_cases c7 : d > 7
  · rw [decide_eq_true c7]; exact no (by omega)
  rw [decide_eq_false c7]
  have bt : outbox_batched.f d = some (decide (d = 3 ∨ d = 4)) := by
    unfold outbox_batched.f
    by_cases c : d = 3
    · rw [if_pos c, decide_eq_true (.inl c)]
    · rw [if_neg c]
      by_cases c' : d = 4
      · rw [decide_eq_true (.inr c'), c']; rfl
      · rw [decide_eq_false (by omega)]; simp [c']
  refine Ev.step (fun k => by rw [outbox_one.j0, if_neg (by decide)]) (Ev.bindc bt ?_)
  unfold oneE
  simp only
  rw [decide_eq_true (show 1 ≤ a ∧ a ≤ 1000000000000 by omega), decide_eq_true c3, decide_eq_true (show 0 ≤ e ∧ e ≤ 1000000 by omega), decide_eq_true (show 1 ≤ d ∧ d ≤ 7 by omega)]
  simp only [Bool.true_and]
  by_cases t : d = 3 ∨ d = 4
  · refine Ev.ifp (decide_eq_true t) ?_
    rw [if_pos t]
    by_cases b1 : b ≥ 1
    · by_cases b2 : 0 ≤ b ∧ b ≤ 1000000000000
      · rw [decide_eq_true (show 1 ≤ b ∧ b ≤ 1000000000000 by omega), Bool.true_and]
        refine Ev.ifp b1 (Ev.bindc (tally_R b) (Ev.ifp (decide_eq_true b2) ?_))
        rw [toList_empty]
        exact Ev.now _
      · rw [decide_eq_false (show ¬ (1 ≤ b ∧ b ≤ 1000000000000) by omega), Bool.false_and]
        exact Ev.ifp b1 (Ev.bindc (tally_R b) (Ev.ifn (by simpa using b2) (Ev.now _)))
    · rw [decide_eq_false (show ¬ (1 ≤ b ∧ b ≤ 1000000000000) by omega), Bool.false_and]
      exact Ev.ifn b1 (Ev.now _)
  · refine Ev.ifn (by simpa using t) ?_
    rw [if_neg t]
    by_cases b0 : b = 0
    · rw [decide_eq_true b0, Bool.true_and]
      exact Ev.ifp b0 (Ev.bindc (right_eq s hs) (Ev.now _))
    · rw [decide_eq_false b0, Bool.false_and]
      exact Ev.ifn b0 (Ev.now _)
theorem right_l (l : List S27) (hs : ∀ x ∈ l, x.f5.size ≤ 140737488351232) (hb : l.length ≤ 4611686018427387904) (d : Nat) : ∀ (i : Nat) (a : Int), i + d = l.length → (∀ h : 0 < i, ∀ h' : i - 1 < l.length, a = l[i - 1].f0) → (i = 0 → a = 0) →
    Ev (fun k => outbox_Right.l0 k l l (l.length : Int) (i : Int)) (rightE a (l.drop i)) := by
  induction d with
  | zero =>
    intro i a h _ _
    rw [List.drop_of_length_le (by omega)]
    exact Ev.step (f := fun _ => some true) (fun k => by rw [outbox_Right.l0, if_neg (by omega)]) (Ev.now _)
  | succ d ih =>
    intro i a h ha h0
    have h1 : i < l.length := by omega
    refine Ev.step (fun k => by rw [outbox_Right.l0, if_pos (by omega), if_pos (by omega), if_pos (by omega), rd_27 l i h1]) ?_
    have one := one_eq l[i] (hs _ (List.getElem_mem h1))
    refine Ev.bind one ?_
    rw [List.drop_eq_getElem_cons h1, rightE]
    cases c : oneE l[i]
    · exact Ev.ifn (by decide) (Ev.now _)
    refine Ev.ifp rfl ?_
    rw [Bool.true_and]
    have next := ih (i + 1) l[i].f0 (by omega) (fun _ _ => rfl) (by omega)
    rw [w64 (x := (i : Int) + 1) (by omega) (by omega)]
    by_cases ci : (i : Int) > 0
    · rw [w64 (by omega) (by omega), show (i : Int) - 1 = ((i - 1 : Nat) : Int) from by omega]
      refine Ev.ifp ci (Ev.ifp (by omega) (Ev.ifp (by omega) ?_))
      rw [rd_27 l (i - 1) (by omega), ← ha (by omega) (by omega)]
      by_cases q : a ≥ l[i].f0
      · rw [decide_eq_false (by omega), Bool.false_and]; exact Ev.ifp q (Ev.now _)
      · rw [decide_eq_true (by omega), Bool.true_and]; exact Ev.ifn q next
    · rw [decide_eq_true (by have := (oneE_ok c).1; have := h0 (by omega); omega), Bool.true_and]
      exact Ev.ifn ci next
theorem right_O (l : List S27) (hs : ∀ x ∈ l, x.f5.size ≤ 140737488351232) (hb : l.length ≤ 4611686018427387904) : Ev (fun k => outbox_Right.f k l) (rightE 0 l) :=
  right_l l hs hb l.length 0 0 (by omega) (fun h => absurd h (by omega)) (fun _ => rfl)
theorem putO_l (l : List S27) (h : ∀ x ∈ l, oneE x = true) (hn : l.length ≤ 60) (d : Nat) : ∀ (i : Nat) (o : List Int), i + d = l.length → o.length ≤ 1000 + 83 * i → Ev (fun k => outbox_Put.l0 k o l (l.length : Int) (i : Int)) (o ++ (l.drop i).flatMap encE) := by
  induction d with
  | zero =>
    intro i o h1 h2
    rw [List.drop_of_length_le (by omega)]
    refine Ev.step (f := fun _ => some (o ++ ([] : List S27).flatMap encE)) (fun k => ?_) (Ev.now _)
    rw [outbox_Put.l0, if_neg (by omega)]; simp
  | succ d ih =>
    intro i o h1 h2
    have hlt : i < l.length := by omega
    have hv := h _ (List.getElem_mem hlt)
    have hL := encE_len hv
    obtain ⟨g0, g1, g2, g3, g4, g5⟩ := oneE_ok hv
    refine Ev.step (fun k => by rw [outbox_Put.l0, if_pos (by omega), if_pos (by omega), if_pos (by omega), rd_27 l i hlt]) ?_
    rw [w64 (x := (i : Int) + 1) (by omega) (by omega), List.drop_eq_getElem_cons hlt, List.flatMap_cons]
    generalize l[i] = x at *
    refine Ev.bind (putNs o [x.f0.toNat, x.f3.toNat, x.f4.toNat, x.f2.toNat, x.f1.toNat] _ ?_ (by simp) ?_ (by omega)) ?_
    · rw [wrapN x.f0 x.f0.toNat (by omega) (by omega), wrapN x.f3 x.f3.toNat (by omega) (by omega), wrapN x.f4 x.f4.toNat (by omega) (by omega), wrapN x.f2 x.f2.toNat (by omega) (by omega), wrapN x.f1 x.f1.toNat (by omega) (by omega)]; rfl
    · intro q hq; simp at hq; rcases hq with e | e | e | e | e <;> omega
    have e : (o ++ ([x.f0.toNat, x.f3.toNat, x.f4.toNat, x.f2.toNat, x.f1.toNat] : List Nat).flatMap enc) ++ ([x.f5] : List ByteArray).flatMap encT = o ++ encE x := by simp [encE]
    refine Ev.bind (putTs _ [x.f5] (by simp) (by intro q hq; simp at hq; rw [hq]; exact g5) ?_) ?_
    · have := congrArg List.length e
      simp only [List.length_append] at this ⊢
      omega
    rw [e]
    have k := ih (i + 1) (o ++ encE x) (by omega) (by rw [List.length_append]; omega)
    rw [List.append_assoc] at k
    exact k
theorem put_O {l : List S27} (h : ∀ x ∈ l, oneE x = true) (hn : l.length ≤ 60) : Ev (fun k => outbox_Put.f k ([] : List Int) l) (encO l) := by
  have a := enc_len10 (n := l.length) (by omega)
  unfold outbox_Put.f
  refine Ev.bind (putNs [] [l.length] _ (by rw [wrapN _ l.length rfl (by omega)]; rfl) (by simp) (by intro q hq; simp at hq; omega) (by simp)) ?_
  have e : ([] ++ ([l.length] : List Nat).flatMap enc : List Int) = enc l.length := by simp
  rw [e]
  exact putO_l l h hn l.length 0 (enc l.length) (by omega) (by omega)
theorem num_O (most : Nat) (q : List Int) (f : Bool) (h1 : Byt q) (h2 : q.length ≤ 140737488355328) (h3 : most ≤ 1099511627776) : Ev (fun k => packet_Reader_Number.f k q f (most : Int)) (rdN most q f) ∧ wrap64 (rdN most q f).1 = (rdN most q f).1 ∧ Byt (rdN most q f).2.1 ∧ (rdN most q f).2.1.length ≤ 140737488355328 ∧ 0 ≤ (rdN most q f).1 ∧ (rdN most q f).1 ≤ most := by
  have := rdN_range most q f h1
  exact ⟨rN_eq q f h2 h1 most (by omega), w64 (by omega) (by omega), rdN_byt _ _ _ h1, Nat.le_trans (rdN_len _ _ _) h2, this⟩
theorem take_l (d : Nat) : ∀ (l : List S27) (b : List Int) (bad : Bool), l.length + d ≤ 1048576 → Byt b → b.length ≤ 140737488355328 → (∀ x ∈ l, x.f5.size ≤ 32) →
    Ev (fun k => outbox_Take.l0 k l (d : Int) b bad) (endO (l ++ (rdEs d b bad).1, (rdEs d b bad).2)) := by
  have fin : ∀ (l : List S27) (d : Int) (b : List Int) (bad : Bool), l.length ≤ 1048576 → (∀ x ∈ l, x.f5.size ≤ 32) → Ev (fun k => outbox_Take.j1 k l d false b bad) (endO (l, b, bad)) := by
    intro l d b bad hl hm
    refine Ev.step (fun k => by rw [outbox_Take.j1, if_neg (by decide)]) ?_
    refine Ev.bindc (a := (bad, b, bad)) (by unfold packet_Reader_Bad.f; rfl) ?_
    unfold endO
    refine Ev.ite fun _ => ?_
    refine Ev.bind (right_O l (fun x hx => by have := hm x hx; omega) (by omega)) ?_
    cases rightE 0 l
    · exact Ev.ifn (by decide) (Ev.now _)
    · exact Ev.ifp rfl (Ev.now _)
  induction d with
  | zero =>
    intro l b bad h1 hb hl hm
    refine Ev.step (fun k => by rw [outbox_Take.l0, if_neg (by omega)]) ?_
    unfold rdEs
    rw [List.append_nil]
    exact fin l _ b bad (by omega) hm
  | succ d ih =>
    intro l b bad h1 hb hl hm
    refine Ev.step (fun k => by rw [outbox_Take.l0, if_pos (by omega)]) ?_
    refine Ev.bindc (a := (bad, b, bad)) (by unfold packet_Reader_Bad.f; rfl) ?_
    cases bad
    rotate_left
    · unfold rdEs
      rw [if_pos rfl, List.append_nil]
      exact fin l _ b true (by omega) hm
    unfold rdEs
    rw [if_neg (by decide)]
    refine Ev.step (fun k => by rw [outbox_Take.j1, if_pos (show (!(false, b, false).1) = true from rfl)]) ?_
    have F := rdE_facts b false hb
    unfold rdE at F ⊢
    simp only at F ⊢
    obtain ⟨n1, w1, B1, L1, _⟩ := num_O 1000000000000 b false hb hl (by omega)
    refine Ev.bind n1 ?_
    simp only [show ((1000000000000 : Nat) : Int) = 1000000000000 from rfl] at *
    generalize rdN 1000000000000 b false = k at *
    obtain ⟨n2, w2, B2, L2, _⟩ := num_O 7 k.2.1 k.2.2 B1 L1 (by omega)
    refine Ev.bind n2 ?_
    simp only [show ((7 : Nat) : Int) = 7 from rfl] at *
    generalize rdN 7 k.2.1 k.2.2 = kd at *
    obtain ⟨n3, w3, B3, L3, _⟩ := num_O 1000000 kd.2.1 kd.2.2 B2 L2 (by omega)
    refine Ev.bind n3 ?_
    simp only [show ((1000000 : Nat) : Int) = 1000000 from rfl] at *
    generalize rdN 1000000 kd.2.1 kd.2.2 = tr at *
    obtain ⟨n4, w4, B4, L4, _⟩ := num_O 1099511627776 tr.2.1 tr.2.2 B3 L3 (by omega)
    refine Ev.bind n4 ?_
    simp only [show ((1099511627776 : Nat) : Int) = 1099511627776 from rfl] at *
    generalize rdN 1099511627776 tr.2.1 tr.2.2 = du at *
    obtain ⟨n5, w5, B5, L5, _⟩ := num_O 1000000000000 du.2.1 du.2.2 B4 L4 (by omega)
    refine Ev.bind n5 ?_
    simp only [show ((1000000000000 : Nat) : Int) = 1000000000000 from rfl] at *
    generalize rdN 1000000000000 du.2.1 du.2.2 = ba at *
    refine Ev.bind (rT_eq ba.2.1 ba.2.2 L5 B5 32 (by omega)) (Ev.ifp (by omega) ?_)
    rw [w1, w2, w3, w4, w5, show IntKind.u64.wrap (((d + 1 : Nat) : Int) - 1) = (d : Int) from by rw [wrap_u (by omega) (by omega)]; omega]
    generalize rdT 32 ba.2.1 ba.2.2 = tx at *
    have k := ih (l ++ [⟨k.1, ba.1, du.1, kd.1, tr.1, tx.1⟩]) tx.2.1 tx.2.2 (by simp; omega) F.1 (by omega) (by
      intro x hx
      rcases List.mem_append.1 hx with e | e
      · exact hm x e
      · rw [List.mem_singleton.1 e]; exact F.2.2)
    rw [List.append_assoc] at k
    exact k
theorem take_O (b : List Int) (bad : Bool) (hb : Byt b) (hl : b.length ≤ 140737488355328) : Ev (fun k => outbox_Take.f k b bad) (takeO b bad) := by
  unfold outbox_Take.f takeO
  obtain ⟨n1, w1, B1, L1, r1, r2⟩ := num_O 1048576 b bad hb hl (by omega)
  refine Ev.bind n1 ?_
  simp only [show ((1048576 : Nat) : Int) = 1048576 from rfl] at *
  generalize rdN 1048576 b bad = n at *
  have k := take_l n.1.toNat [] n.2.1 n.2.2 (by simp; omega) B1 L1 (by simp)
  rw [show ((n.1.toNat : Nat) : Int) = n.1 from by omega, List.nil_append] at k
  exact k
theorem due_l (l : List S27) (now : Int) (hb : l.length ≤ 1000000) (d : Nat) : ∀ (i : Nat) (o : List S27), i + d = l.length → o.length ≤ i → Ev (fun k => outbox_Due.l0 k now o l (l.length : Int) (i : Int)) (o ++ (l.drop i).filter fun x => decide (x.f2 ≤ now)) := by
  induction d with
  | zero =>
    intro i o h1 _
    rw [List.drop_of_length_le (by omega), List.filter_nil, List.append_nil]
    exact Ev.step (f := fun _ => some o) (fun k => by rw [outbox_Due.l0, if_neg (by omega)]) (Ev.now _)
  | succ d ih =>
    intro i o h1 h2
    have hlt : i < l.length := by omega
    refine Ev.step (fun k => by rw [outbox_Due.l0, if_pos (by omega), if_pos (by omega), if_pos (by omega), rd_27 l i hlt, w64 (x := (i : Int) + 1) (by omega) (by omega)]) ?_
    rw [List.drop_eq_getElem_cons hlt]
    by_cases c : l[i].f2 ≤ now
    · rw [List.filter_cons_of_pos (by simpa using c)]
      have k := ih (i + 1) (o ++ [l[i]]) (by omega) (by rw [List.length_append, List.length_singleton]; omega)
      rw [List.append_assoc] at k
      exact Ev.ifp c (Ev.ifp (by omega) k)
    · rw [List.filter_cons_of_neg (by simpa using c)]
      exact Ev.ifn c (ih (i + 1) o (by omega) (by omega))
theorem due_O (l : List S27) (now : Int) (hb : l.length ≤ 1000000) : Ev (fun k => outbox_Due.f k l now) (l.filter fun x => decide (x.f2 ≤ now)) := due_l l now hb l.length 0 [] (by omega) (by simp)
end Go.Proofs.YtnacmehhmheooaaDoor.Pure
