
import Derived.Test.YtalcopjlofbfaaaDoorQLinesNamesLinGo
set_option linter.unusedVariables false
namespace Go.Proofs.YtalcopjlofbfaaaDoor.Pure
open Go.RowKit Go.Proofs.YtalcopjlofbfaaaDoor Go.Proofs.YtalcopjlofbfaaaDoor.PAll Go.Proofs.YtalcopjlofbfaaaDoorW.PrintWords Go.Proofs.YtalcopjlofbfaaaDoorW.PrintLast Go.Proofs.YtalcopjlofbfaaaDoorW.PrintMore Go.Lib
def Lt (a b : ByteArray) : Prop := compareBytes a.data.toList b.data.toList < 0
instance (a b : ByteArray) : Decidable (Lt a b) := inferInstanceAs (Decidable (compareBytes a.data.toList b.data.toList < 0))
theorem bytes_eq {a b : ByteArray} (h : a.data.toList = b.data.toList) : a = b := ByteArray.ext (Array.toList_inj.1 h)
theorem cb_eq {a b : ByteArray} : compareBytes a.data.toList b.data.toList = 0 ↔ a = b := by
  rw [cb_zero]; exact ⟨bytes_eq, fun h => by rw [h]⟩
theorem lt_irr (a : ByteArray) : ¬ Lt a a := fun h => by have := cb_eq.2 (rfl : a = a); unfold Lt at h; omega
theorem lt_gt {a b : ByteArray} (h : Lt a b) : 0 < compareBytes b.data.toList a.data.toList := by
  unfold Lt at h; rw [cb_anti a.data.toList b.data.toList]; omega
theorem gt_lt {a b : ByteArray} (h : 0 < compareBytes b.data.toList a.data.toList) : Lt a b := by
  unfold Lt; rw [cb_anti b.data.toList a.data.toList]; omega
theorem lt_asym {a b : ByteArray} (h : Lt a b) : ¬ Lt b a := fun g => by have := lt_gt h; unfold Lt at g; omega
theorem lt_tri (a b : ByteArray) : Lt a b ∨ a = b ∨ Lt b a := by
  rcases cb_range a.data.toList b.data.toList with h | h | h
  · exact .inl (by unfold Lt; omega)
  · exact .inr (.inl (cb_eq.1 h))
  · exact .inr (.inr (gt_lt (by omega)))
theorem lt_tr {a b c : ByteArray} (h : Lt a b) (g : Lt b c) : Lt a c := by
  have k := cb_trans _ _ _ (Int.le_of_lt h) (Int.le_of_lt g)
  rcases Int.lt_or_eq_of_le k with k | k
  · exact k
  · exact absurd g (by rw [← cb_eq.1 k]; exact lt_asym h)
def Up (l : List S37) : Prop := l.Pairwise fun x y => Lt x.f0 y.f0
def qs (l : List S37) (k : ByteArray) : Int := (l.map fun x => if x.f0 = k then x.f1 else 0).sum
theorem qs_append (a b : List S37) (k : ByteArray) : qs (a ++ b) k = qs a k + qs b k := by simp [qs]
theorem qs_one (x : S37) (k : ByteArray) : qs [x] k = if x.f0 = k then x.f1 else 0 := by simp [qs]
theorem qs_cons (x : S37) (l : List S37) (k : ByteArray) : qs (x :: l) k = (if x.f0 = k then x.f1 else 0) + qs l k := by simp [qs]
theorem qs_none (l : List S37) (k : ByteArray) (h : ∀ x ∈ l, x.f0 ≠ k) : qs l k = 0 := by
  induction l with
  | nil => rfl
  | cons x t ih => rw [qs_cons, if_neg (h x (by simp)), ih (fun y hy => h y (by simp [hy]))]; rfl
theorem qs_nonneg (l : List S37) (k : ByteArray) (h : ∀ x ∈ l, 0 ≤ x.f1) : 0 ≤ qs l k := by
  induction l with
  | nil => exact Int.le_refl 0
  | cons x t ih =>
    rw [qs_cons]
    have := ih (fun y hy => h y (by simp [hy]))
    have := h x (by simp)
    split <;> omega
theorem qs_ge (l : List S37) (x : S37) (hx : x ∈ l) (h : ∀ x ∈ l, 0 ≤ x.f1) : x.f1 ≤ qs l x.f0 := by
  induction l with
  | nil => exact absurd hx (by simp)
  | cons y t ih =>
    rw [qs_cons]
    have n := qs_nonneg t x.f0 (fun y hy => h y (by simp [hy]))
    rcases List.mem_cons.1 hx with e | e
    · rw [e, if_pos rfl]; rw [e] at n; omega
    · have := ih e (fun y hy => h y (by simp [hy]))
      have := h y (by simp)
      split <;> omega
def Mrg (l o : List S37) : Prop := Up o ∧ (∀ z ∈ o, (∃ x ∈ l, x.f0 = z.f0) ∧ z.f1 = qs l z.f0) ∧ (∀ x ∈ l, ∃ z ∈ o, z.f0 = x.f0 ∧ z.f2 = x.f2)
theorem up_key {o : List S37} (h : Up o) {y z : S37} (hy : y ∈ o) (hz : z ∈ o) (e : y.f0 = z.f0) : y = z := by
  induction o with
  | nil => exact absurd hy (by simp)
  | cons x t ih =>
    have h2 := List.pairwise_cons.1 h
    rcases List.mem_cons.1 hy with a | a <;> rcases List.mem_cons.1 hz with b | b
    · rw [a, b]
    · exact absurd (h2.1 z b) (by rw [← a, e]; exact lt_irr _)
    · exact absurd (h2.1 y a) (by rw [← b, e]; exact lt_irr _)
    · exact ih h2.2 a b
theorem up_ext : ∀ (a b : List S37), Up a → Up b → (∀ z, z ∈ a ↔ z ∈ b) → a = b := by
  intro a
  induction a with
  | nil =>
    intro b _ _ h
    cases b with
    | nil => rfl
    | cons y t => exact absurd ((h y).2 (by simp)) (by simp)
  | cons x t ih =>
    intro b ha hb h
    cases b with
    | nil => exact absurd ((h x).1 (by simp)) (by simp)
    | cons y u =>
      have pa := List.pairwise_cons.1 ha
      have pb := List.pairwise_cons.1 hb
      have e : x = y := by
        rcases List.mem_cons.1 ((h x).1 (by simp)) with e | e
        · exact e
        rcases List.mem_cons.1 ((h y).2 (by simp)) with e' | e'
        · exact e'.symm
        exact absurd (pb.1 x e) (lt_asym (pa.1 y e'))
      subst e
      congr 1
      refine ih u pa.2 pb.2 fun z => ⟨fun hz => ?_, fun hz => ?_⟩
      · rcases List.mem_cons.1 ((h z).1 (by simp [hz])) with e | e
        · exact absurd (pa.1 z hz) (by rw [e]; exact lt_irr _)
        · exact e
      · rcases List.mem_cons.1 ((h z).2 (by simp [hz])) with e | e
        · exact absurd (pb.1 z hz) (by rw [e]; exact lt_irr _)
        · exact e
theorem up_sub : ∀ (b a : List S37), Up a → Up b → (∀ z ∈ a, ∃ y ∈ b, y.f0 = z.f0) → a.length ≤ b.length := by
  intro b
  induction b with
  | nil =>
    intro a _ _ h
    cases a with
    | nil => exact Nat.le_refl _
    | cons x t => obtain ⟨y, hy, _⟩ := h x (by simp); exact absurd hy (by simp)
  | cons y u ih =>
    intro a ha hb h
    cases a with
    | nil => exact Nat.zero_le _
    | cons x t =>
      have pa := List.pairwise_cons.1 ha
      have pb := List.pairwise_cons.1 hb
      obtain ⟨y', hy', e'⟩ := h x (by simp)
      rcases List.mem_cons.1 hy' with e | e
      · have : t.length ≤ u.length := ih t pa.2 pb.2 fun z hz => by
          obtain ⟨w, hw, ew⟩ := h z (by simp [hz])
          rcases List.mem_cons.1 hw with q | q
          · exact absurd (pa.1 z hz) (by rw [← e', e, ← ew, q]; exact lt_irr _)
          · exact ⟨w, q, ew⟩
        simp only [List.length_cons]; omega
      · have : (x :: t).length ≤ u.length := ih (x :: t) ha pb.2 fun z hz => by
          obtain ⟨w, hw, ew⟩ := h z hz
          rcases List.mem_cons.1 hw with q | q
          · exfalso
            have l1 : Lt y.f0 x.f0 := by rw [← e']; exact pb.1 y' e
            have ez : z.f0 = y.f0 := by rw [← ew, q]
            rcases List.mem_cons.1 hz with r | r
            · rw [r] at ez; rw [ez] at l1; exact lt_irr _ l1
            · have := pa.1 z r; rw [ez] at this; exact lt_asym l1 this
          · exact ⟨w, q, ew⟩
        simp only [List.length_cons] at this ⊢; omega
theorem mrg_wt {l o : List S37} (h : Mrg l o) {x y : S37} (hx : x ∈ l) (hy : y ∈ l) (e : x.f0 = y.f0) : x.f2 = y.f2 := by
  obtain ⟨a, ha, a1, a2⟩ := h.2.2 x hx
  obtain ⟨b, hb, b1, b2⟩ := h.2.2 y hy
  have := up_key h.1 ha hb (by rw [a1, b1, e])
  rw [← a2, ← b2, this]
theorem mrg_uniq {l o o' : List S37} (h : Mrg l o) (h' : Mrg l o') : o = o' := by
  have sub : ∀ {o o' : List S37}, Mrg l o → Mrg l o' → ∀ z ∈ o, z ∈ o' := by
    intro o o' h h' z hz
    obtain ⟨⟨x, hx, e⟩, q⟩ := h.2.1 z hz
    obtain ⟨w, hw, w1, w2⟩ := h'.2.2 x hx
    obtain ⟨v, hv, v1, v2⟩ := h.2.2 x hx
    have ev := up_key h.1 hz hv (by rw [v1, e])
    obtain ⟨_, qw⟩ := h'.2.1 w hw
    have e0 : z.f0 = w.f0 := by rw [w1, e]
    have : z = w := by
      cases z with | mk a b c => cases w with | mk a' b' c' =>
      simp only at e0 q qw
      subst e0
      rw [← ev] at v2
      simp only at v2 w2
      rw [q, qw, v2, w2]
    rw [this]; exact hw
  exact up_ext o o' h.1 h'.1 fun z => ⟨sub h h' z, sub h' h z⟩
theorem mrg_len {p l o o' : List S37} (hp : ∀ x ∈ p, x ∈ l) (h : Mrg p o) (h' : Mrg l o') : o.length ≤ o'.length :=
  up_sub o' o h.1 h'.1 fun z hz => by
    obtain ⟨⟨x, hx, e⟩, _⟩ := h.2.1 z hz
    obtain ⟨w, hw, w1, _⟩ := h'.2.2 x (hp x hx)
    exact ⟨w, hw, by rw [w1, e]⟩
theorem mrg_nil : Mrg [] [] := ⟨List.Pairwise.nil, fun z hz => absurd hz (by simp), fun x hx => absurd hx (by simp)⟩
def pl (o : List S37) (k : ByteArray) : Nat := (o.takeWhile fun x => decide (Lt x.f0 k)).length
end Go.Proofs.YtalcopjlofbfaaaDoor.Pure
