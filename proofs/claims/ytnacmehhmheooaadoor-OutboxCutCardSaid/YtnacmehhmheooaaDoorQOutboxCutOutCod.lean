
import Derived.Test.YtnacmehhmheooaaDoorQOutboxCutCodMore
set_option linter.unusedVariables false
namespace Go.Proofs.YtnacmehhmheooaaDoor.Pure
open Go.RowKit Go.Proofs.YtnacmehhmheooaaDoor Go.Proofs.YtnacmehhmheooaaDoor.PAll Go.Proofs.YtnacmehhmheooaaDoorW.PrintWords Go.Proofs.YtnacmehhmheooaaDoorW.PrintLast Go.Proofs.YtnacmehhmheooaaDoorW.PrintMore
def oneE (x : S27) : Bool :=
  decide (1 ≤ x.f0 ∧ x.f0 ≤ 1000000000000) && (decide (0 ≤ x.f2 ∧ x.f2 ≤ 1099511627776) && (decide (0 ≤ x.f4 ∧ x.f4 ≤ 1000000) && (decide (1 ≤ x.f3 ∧ x.f3 ≤ 7) &&
  (if x.f3 = 3 ∨ x.f3 = 4 then decide (1 ≤ x.f1 ∧ x.f1 ≤ 1000000000000) && decide (x.f5 = ⟨#[]⟩) else decide (x.f1 = 0) && lab x.f5))))
def rightE : Int → List S27 → Bool
  | _, [] => true
  | last, x :: t => oneE x && (decide (last < x.f0) && rightE x.f0 t)
theorem oneE_ok {x : S27} (h : oneE x = true) : (1 ≤ x.f0 ∧ x.f0 ≤ 1000000000000) ∧ (0 ≤ x.f1 ∧ x.f1 ≤ 1000000000000) ∧ (0 ≤ x.f2 ∧ x.f2 ≤ 1099511627776) ∧ (1 ≤ x.f3 ∧ x.f3 ≤ 7) ∧ (0 ≤ x.f4 ∧ x.f4 ≤ 1000000) ∧ x.f5.size ≤ 32 := by
  unfold oneE at h
  by_cases c : x.f3 = 3 ∨ x.f3 = 4
  · rw [if_pos c] at h
    simp only [Bool.and_eq_true, decide_eq_true_eq] at h
    obtain ⟨h1, h2, h3, h4, h5, h6⟩ := h
    refine ⟨h1, by omega, h2, h4, h3, ?_⟩
    rw [h6]; decide
  · rw [if_neg c] at h
    simp only [Bool.and_eq_true, decide_eq_true_eq] at h
    obtain ⟨h1, h2, h3, h4, h5, h6⟩ := h
    exact ⟨h1, by omega, h2, h4, h3, lab_size _ h6⟩
theorem rightE_mem {l : List S27} : ∀ {a : Int}, rightE a l = true → ∀ x ∈ l, oneE x = true := by
  induction l with
  | nil => intro a _ x hx; exact absurd hx (by simp)
  | cons y t ih =>
    intro a h x hx
    simp only [rightE, Bool.and_eq_true] at h
    rcases List.mem_cons.1 hx with e | e
    · rw [e]; exact h.1
    · exact ih h.2.2 x e
def encE (x : S27) : List Int := enc x.f0.toNat ++ (enc x.f3.toNat ++ (enc x.f4.toNat ++ (enc x.f2.toNat ++ (enc x.f1.toNat ++ encT x.f5))))
def encO (l : List S27) : List Int := enc l.length ++ l.flatMap encE
theorem encE_byt (x : S27) : Byt (encE x) := by
  unfold encE
  simp only [byt_append]
  exact ⟨enc_byt _, enc_byt _, enc_byt _, enc_byt _, enc_byt _, encT_byt _⟩
theorem encE_len {x : S27} (h : oneE x = true) : (encE x).length ≤ 83 := by
  obtain ⟨h1, h2, h3, h4, h5, h6⟩ := oneE_ok h
  have a1 := enc_len10 (n := x.f0.toNat) (by omega)
  have a2 := enc_len10 (n := x.f1.toNat) (by omega)
  have a3 := enc_len10 (n := x.f2.toNat) (by omega)
  have a4 := enc_len10 (n := x.f3.toNat) (by omega)
  have a5 := enc_len10 (n := x.f4.toNat) (by omega)
  have b1 := encT_len h6
  unfold encE
  simp only [List.length_append]
  omega
theorem encEs_byt : ∀ l : List S27, Byt (l.flatMap encE) := by
  intro l
  induction l with
  | nil => intro x hx; exact absurd hx (by simp)
  | cons x l ih => rw [List.flatMap_cons]; exact byt_append.2 ⟨encE_byt x, ih⟩
theorem encEs_len : ∀ l : List S27, (∀ x ∈ l, oneE x = true) → (l.flatMap encE).length ≤ 83 * l.length := by
  intro l
  induction l with
  | nil => intro _; simp
  | cons x l ih =>
    intro h
    have h1 := encE_len (h x (by simp))
    have h2 := ih fun n hn => h n (by simp [hn])
    rw [List.flatMap_cons, List.length_append, List.length_cons]; omega
theorem encO_byt (l : List S27) : Byt (encO l) := byt_append.2 ⟨enc_byt _, encEs_byt l⟩
def rdE (b : List Int) (bad : Bool) : S27 × List Int × Bool :=
  let k := rdN 1000000000000 b bad
  let d := rdN 7 k.2.1 k.2.2
  let t := rdN 1000000 d.2.1 d.2.2
  let w := rdN 1099511627776 t.2.1 t.2.2
  let h := rdN 1000000000000 w.2.1 w.2.2
  let o := rdT 32 h.2.1 h.2.2
  (⟨k.1, h.1, w.1, d.1, t.1, o.1⟩, o.2.1, o.2.2)
theorem rdE_put {x : S27} (h : oneE x = true) (r : List Int) : rdE (encE x ++ r) false = (x, r, false) := by
  obtain ⟨h1, h2, h3, h4, h5, h6⟩ := oneE_ok h
  unfold rdE encE
  simp only [List.append_assoc]
  rw [show (32 : Int) = ((32 : Nat) : Int) from rfl, show (1000000 : Int) = ((1000000 : Nat) : Int) from rfl, show (1099511627776 : Int) = ((1099511627776 : Nat) : Int) from rfl, show (1000000000000 : Int) = ((1000000000000 : Nat) : Int) from rfl]
  rw [rdN_put 1000000000000 x.f0.toNat _ (by omega)]
  simp only
  rw [show ∀ r, rdN 7 (enc x.f3.toNat ++ r) false = (((x.f3.toNat : Nat) : Int), r, false) from fun r => rdN_put 7 x.f3.toNat r (by omega)]
  simp only
  rw [rdN_put 1000000 x.f4.toNat _ (by omega)]
  simp only
  rw [rdN_put 1099511627776 x.f2.toNat _ (by omega)]
  simp only
  rw [rdN_put 1000000000000 x.f1.toNat _ (by omega)]
  simp only
  rw [rdT_put 32 x.f5 _ h6]
  rw [show ((x.f0.toNat : Nat) : Int) = x.f0 from by omega, show ((x.f1.toNat : Nat) : Int) = x.f1 from by omega, show ((x.f2.toNat : Nat) : Int) = x.f2 from by omega, show ((x.f3.toNat : Nat) : Int) = x.f3 from by omega, show ((x.f4.toNat : Nat) : Int) = x.f4 from by omega]
theorem rdE_facts (b : List Int) (bad : Bool) (hb : Byt b) : Byt (rdE b bad).2.1 ∧ (rdE b bad).2.1.length ≤ b.length ∧ (rdE b bad).1.f5.size ≤ 32 := by
  unfold rdE
  simp only
  have B1 := rdN_byt 1000000000000 b bad hb
  have L1 := rdN_len 1000000000000 b bad
  generalize rdN 1000000000000 b bad = k at *
  have B2 := rdN_byt 7 _ k.2.2 B1
  have L2 := rdN_len 7 k.2.1 k.2.2
  generalize rdN 7 k.2.1 k.2.2 = d at *
  have B3 := rdN_byt 1000000 _ d.2.2 B2
  have L3 := rdN_len 1000000 d.2.1 d.2.2
  generalize rdN 1000000 d.2.1 d.2.2 = t at *
  have B4 := rdN_byt 1099511627776 _ t.2.2 B3
  have L4 := rdN_len 1099511627776 t.2.1 t.2.2
  generalize rdN 1099511627776 t.2.1 t.2.2 = w at *
  have B5 := rdN_byt 1000000000000 _ w.2.2 B4
  have L5 := rdN_len 1000000000000 w.2.1 w.2.2
  generalize rdN 1000000000000 w.2.1 w.2.2 = h at *
  have L6 := rdT_len 32 h.2.1 h.2.2
  exact ⟨rdT_byt 32 _ h.2.2 B5, by omega, rdT_size 32 _ _ B5⟩
theorem rdE_got (b : List Int) (bad : Bool) (hb : Byt b) (h : (rdE b bad).2.2 = false) : bad = false ∧ b = encE (rdE b bad).1 ++ (rdE b bad).2.1 := by
  unfold rdE at h ⊢
  simp only at h ⊢
  have B1 := rdN_byt 1000000000000 b bad hb
  have G1 := rdN_got 1000000000000 b bad hb
  simp only [show ((1000000000000 : Nat) : Int) = 1000000000000 from rfl] at *
  generalize rdN 1000000000000 b bad = k at *
  have B2 := rdN_byt 7 _ k.2.2 B1
  have G2 := rdN_got 7 _ k.2.2 B1
  simp only [show ((7 : Nat) : Int) = 7 from rfl] at *
  generalize rdN 7 k.2.1 k.2.2 = d at *
  have B3 := rdN_byt 1000000 _ d.2.2 B2
  have G3 := rdN_got 1000000 _ d.2.2 B2
  simp only [show ((1000000 : Nat) : Int) = 1000000 from rfl] at *
  generalize rdN 1000000 d.2.1 d.2.2 = t at *
  have B4 := rdN_byt 1099511627776 _ t.2.2 B3
  have G4 := rdN_got 1099511627776 _ t.2.2 B3
  simp only [show ((1099511627776 : Nat) : Int) = 1099511627776 from rfl] at *
  generalize rdN 1099511627776 t.2.1 t.2.2 = w at *
  have B5 := rdN_byt 1000000000000 _ w.2.2 B4
  have G5 := rdN_got 1000000000000 _ w.2.2 B4
  simp only [show ((1000000000000 : Nat) : Int) = 1000000000000 from rfl] at *
  generalize rdN 1000000000000 w.2.1 w.2.2 = m at *
  have G6 : (rdT 32 m.2.1 m.2.2).2.2 = false → m.2.2 = false ∧ _ ∧ m.2.1 = encT (rdT 32 m.2.1 m.2.2).1 ++ (rdT 32 m.2.1 m.2.2).2.1 := rdT_got 32 _ m.2.2 B5
  obtain ⟨f6, _, w6⟩ := G6 h
  obtain ⟨f5, q5, _, v5, w5⟩ := G5 f6
  obtain ⟨f4, q4, _, v4, w4⟩ := G4 f5
  obtain ⟨f3, q3, _, v3, w3⟩ := G3 f4
  obtain ⟨f2, q2, _, v2, w2⟩ := G2 f3
  obtain ⟨f1, q1, _, v1, w1⟩ := G1 f2
  refine ⟨f1, ?_⟩
  unfold encE
  simp only [List.append_assoc]
  rw [v1, v2, v3, v4, v5, Int.toNat_natCast, Int.toNat_natCast, Int.toNat_natCast, Int.toNat_natCast, Int.toNat_natCast, ← w6, ← w5, ← w4, ← w3, ← w2]
  exact w1
def rdEs : Nat → List Int → Bool → List S27 × List Int × Bool
  | 0, b, bad => ([], b, bad)
  | n + 1, b, bad => if bad = true then ([], b, bad) else ((rdE b bad).1 :: (rdEs n (rdE b bad).2.1 (rdE b bad).2.2).1, (rdEs n (rdE b bad).2.1 (rdE b bad).2.2).2)
theorem rdEs_put (r : List Int) : ∀ l : List S27, (∀ x ∈ l, oneE x = true) → rdEs l.length (l.flatMap encE ++ r) false = (l, r, false) := by
  intro l
  induction l with
  | nil => intro _; rfl
  | cons x l ih =>
    intro h
    have e := rdE_put (h x (by simp)) (l.flatMap encE ++ r)
    have e2 := ih (fun y hy => h y (by simp [hy]))
    show rdEs (l.length + 1) _ false = _
    rw [List.flatMap_cons, List.append_assoc]
    unfold rdEs
    rw [if_neg (by decide), e]
    simp only
    rw [e2]
theorem rdEs_got : ∀ (n : Nat) (b : List Int) (bad : Bool), Byt b → (rdEs n b bad).2.2 = false → bad = false ∧ (rdEs n b bad).1.length = n ∧ b = (rdEs n b bad).1.flatMap encE ++ (rdEs n b bad).2.1 := by
  intro n
  induction n with
  | zero => intro b bad hb h; exact ⟨h, rfl, rfl⟩
  | succ n ih =>
    intro b bad hb h
    unfold rdEs at h ⊢
    by_cases c : bad = true
    · rw [if_pos c] at h; exact absurd h (by simp [c])
    rw [if_neg c] at h ⊢
    obtain ⟨g1, g2, w1⟩ := ih _ _ (rdE_facts b bad hb).1 h
    obtain ⟨g3, w2⟩ := rdE_got b bad hb g1
    refine ⟨g3, by rw [List.length_cons, g2], ?_⟩
    rw [List.flatMap_cons, List.append_assoc, ← w1]
    exact w2
abbrev ResO : Type := List S27 × Bool × List Int × Bool
def endO (q : List S27 × List Int × Bool) : ResO := if q.2.2 = true then ([], false, q.2.1, q.2.2) else if rightE 0 q.1 = true then (q.1, true, q.2.1, q.2.2) else ([], false, q.2.1, q.2.2)
def takeO (b : List Int) (bad : Bool) : ResO := endO (rdEs (rdN 1048576 b bad).1.toNat (rdN 1048576 b bad).2.1 (rdN 1048576 b bad).2.2)
theorem takeO_put {l : List S27} (h : rightE 0 l = true) (hl : l.length ≤ 1048576) (r : List Int) : takeO (encO l ++ r) false = (l, true, r, false) := by
  unfold takeO encO
  rw [List.append_assoc, show (1048576 : Int) = ((1048576 : Nat) : Int) from rfl, rdN_put 1048576 l.length _ hl]
  simp only
  rw [Int.toNat_natCast, rdEs_put r l (rightE_mem h)]
  unfold endO
  rw [if_neg (by simp), if_pos h]
theorem takeO_got (q : List Int) (hb : Byt q) : (∃ r bad, takeO q false = ([], false, r, bad)) ∨ ∃ l u, rightE 0 l = true ∧ l.length ≤ 1048576 ∧ takeO q false = (l, true, u, false) ∧ q = encO l ++ u := by
  unfold takeO
  have B1 := rdN_byt 1048576 q false hb
  have G1 := rdN_got 1048576 q false hb
  simp only [show ((1048576 : Nat) : Int) = 1048576 from rfl] at *
  generalize rdN 1048576 q false = n at *
  have G2 := rdEs_got n.1.toNat n.2.1 n.2.2 B1
  generalize rdEs n.1.toNat n.2.1 n.2.2 = v at *
  unfold endO
  by_cases cb : v.2.2 = true
  · rw [if_pos cb]; exact .inl ⟨_, _, rfl⟩
  rw [if_neg cb]
  have cb : v.2.2 = false := by simpa using cb
  by_cases co : rightE 0 v.1 = true
  · rw [if_pos co]
    obtain ⟨f2, m2, w2⟩ := G2 cb
    obtain ⟨_, p, hp, v1, w1⟩ := G1 f2
    refine .inr ⟨v.1, v.2.1, co, by omega, by rw [cb], ?_⟩
    unfold encO
    rw [List.append_assoc, ← w2, m2, v1, Int.toNat_natCast]
    exact w1
  · rw [if_neg co]; exact .inl ⟨_, _, rfl⟩
theorem begin_O {l m : List S27} (h : rightE 0 l = true) (hl : l.length ≤ 1048576) (h' : rightE 0 m = true) (hm : m.length ≤ 1048576) (q : List Int) (e : encO m = encO l ++ q) : l = m ∧ q = [] := by
  have e1 := takeO_put h hl q
  have e2 := takeO_put h' hm []
  rw [List.append_nil, e, e1] at e2
  simp only [Prod.mk.injEq] at e2
  exact ⟨e2.1, e2.2.2.1⟩
end Go.Proofs.YtnacmehhmheooaaDoor.Pure
