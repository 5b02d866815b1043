
import Derived.Test.YtapfpdjcbeiibaaDoorQBatchBytesYCodGo
import Derived.Test.YtapfpdjcbeiibaaDoorQBatchBytesYLabSize
set_option linter.unusedVariables false
namespace Go.Proofs.YtapfpdjcbeiibaaDoor.Pure
open Go.RowKit Go.Proofs.YtapfpdjcbeiibaaDoor Go.Proofs.YtapfpdjcbeiibaaDoor.PByt Go.Proofs.YtapfpdjcbeiibaaDoorW.PrintWords Go.Proofs.YtapfpdjcbeiibaaDoorW.PrintLast Go.Proofs.YtapfpdjcbeiibaaDoorW.PrintMore
theorem encT_len {s : ByteArray} (h : s.size ≤ 32) : (encT s).length ≤ 33 := by
  unfold encT
  have := enc_le 1 s.size (by omega) (by omega)
  rw [List.length_append, bytesOf_length]; omega
theorem enc_len10 {n : Nat} (h : n < 1180591620717411303424) : (enc n).length ≤ 10 := enc_le 10 n h (by omega)
theorem putNs (b : List Int) (ns : List Nat) (xs : List Int) (e : xs = ns.map fun n : Nat => (n : Int)) (hN : ns.length < 10) (hm : ∀ n ∈ ns, n < 1180591620717411303424) (hb : b.length ≤ 100000000) : Ev (fun k => packet_Number.f k b xs) (b ++ ns.flatMap enc) := by
  have : ∀ l : List Nat, (∀ n ∈ l, n < 1180591620717411303424) → (l.flatMap enc).length ≤ 10 * l.length := by
    intro l
    induction l with
    | nil => intro _; simp
    | cons x l ih =>
      intro h
      have h1 := enc_len10 (h x (by simp))
      have h2 := ih fun n hn => h n (by simp [hn])
      rw [List.flatMap_cons, List.length_append, List.length_cons]; omega
  have := this ns hm
  rw [e]
  exact putN b ns (by omega) (by omega)
theorem putTs (b : List Int) (ss : List ByteArray) (hN : ss.length ≤ 100) (hs : ∀ s ∈ ss, s.size ≤ 32) (hb : b.length ≤ 100000000) : Ev (fun k => packet_Text.f k b ss) (b ++ ss.flatMap encT) := by
  have : ∀ l : List ByteArray, (∀ s ∈ l, s.size ≤ 32) → (l.flatMap encT).length ≤ 33 * l.length := by
    intro l
    induction l with
    | nil => intro _; simp
    | cons x l ih =>
      intro h
      have h1 := encT_len (h x (by simp))
      have h2 := ih fun n hn => h n (by simp [hn])
      rw [List.flatMap_cons, List.length_append, List.length_cons]; omega
  have := this ss hs
  exact putT b ss (by omega) (fun s h => by have := hs s h; omega) (by omega)
theorem wrapN (x : Int) (n : Nat) (h : x = (n : Int)) (hn : n < 18446744073709551616) : IntKind.u64.wrap x = (n : Int) := by
  rw [h]; exact wrap_u (by omega) (by omega)
theorem rdT_size (most : Nat) (l : List Int) (bad : Bool) (hb : Byt l) : (rdT most l bad).1.size ≤ most := by
  by_cases h : (rdT most l bad).2.2 = false
  · exact (rdT_got most l bad hb h).2.1
  · unfold rdT at h ⊢
    by_cases c : (rdN most l bad).2.2 = true
    · rw [if_pos c]; exact Nat.zero_le _
    rw [if_neg c] at h ⊢
    by_cases c2 : ((rdN most l bad).2.1.length : Int) < (rdN most l bad).1
    · rw [if_pos c2]; exact Nat.zero_le _
    · rw [if_neg c2] at h; exact absurd rfl h
theorem encT_byt (s : ByteArray) : Byt (encT s) := byt_append.2 ⟨enc_byt _, byt_bytesOf s⟩
theorem new_R (l : List Int) (h : l.length < 140737488355328) : packet_New.f l = some (l, false) := by unfold packet_New.f; rw [if_pos h]
def rdTs : Nat → List Int → Bool → List ByteArray × List Int × Bool
  | 0, l, bad => ([], l, bad)
  | n + 1, l, bad => ((rdT 32 l bad).1 :: (rdTs n (rdT 32 l bad).2.1 (rdT 32 l bad).2.2).1, (rdTs n (rdT 32 l bad).2.1 (rdT 32 l bad).2.2).2.1, (rdTs n (rdT 32 l bad).2.1 (rdT 32 l bad).2.2).2.2)
theorem rdTs_put (r : List Int) : ∀ l : List ByteArray, (∀ x ∈ l, x.size ≤ 32) → rdTs l.length (l.flatMap encT ++ r) false = (l, r, false) := by
  intro l
  induction l with
  | nil => intro _; rfl
  | cons x l ih =>
    intro h
    have e : rdT 32 (encT x ++ (l.flatMap encT ++ r)) false = _ := rdT_put 32 x (l.flatMap encT ++ r) (h x (by simp))
    have e2 := ih (fun y hy => h y (by simp [hy]))
    show rdTs (l.length + 1) _ false = _
    rw [List.flatMap_cons, List.append_assoc]
    unfold rdTs
    rw [e]
    simp only
    rw [e2]
theorem rdTs_many : ∀ (n : Nat) (l : List Int) (bad : Bool), (rdTs n l bad).1.length = n := by
  intro n
  induction n with
  | zero => intro l bad; rfl
  | succ n ih => intro l bad; show ((rdTs n _ _).1.length + 1) = n + 1; rw [ih]
theorem rdTs_got : ∀ (n : Nat) (l : List Int) (bad : Bool), Byt l → (rdTs n l bad).2.2 = false → bad = false ∧ l = (rdTs n l bad).1.flatMap encT ++ (rdTs n l bad).2.1 := by
  intro n
  induction n with
  | zero => intro l bad hb h; exact ⟨h, rfl⟩
  | succ n ih =>
    intro l bad hb h
    obtain ⟨g1, w1⟩ := ih _ _ (rdT_byt 32 l bad hb) h
    obtain ⟨g2, _, w2⟩ := rdT_got 32 l bad hb g1
    refine ⟨g2, ?_⟩
    show l = ((rdT 32 l bad).1 :: (rdTs n (rdT 32 l bad).2.1 (rdT 32 l bad).2.2).1).flatMap encT ++ (rdTs n (rdT 32 l bad).2.1 (rdT 32 l bad).2.2).2.1
    rw [List.flatMap_cons, List.append_assoc, ← w1]
    exact w2
theorem texts_len : ∀ l : List ByteArray, (∀ s ∈ l, s.size ≤ 32) → (l.flatMap encT).length ≤ 33 * l.length := by
  intro l
  induction l with
  | nil => intro _; simp
  | cons x l ih =>
    intro h
    have h1 := encT_len (h x (by simp))
    have h2 := ih fun n hn => h n (by simp [hn])
    rw [List.flatMap_cons, List.length_append, List.length_cons]; omega
theorem texts_byt : ∀ l : List ByteArray, Byt (l.flatMap encT) := by
  intro l
  induction l with
  | nil => intro x hx; exact absurd hx (by simp)
  | cons x l ih => rw [List.flatMap_cons]; exact byt_append.2 ⟨encT_byt x, ih⟩
end Go.Proofs.YtapfpdjcbeiibaaDoor.Pure
