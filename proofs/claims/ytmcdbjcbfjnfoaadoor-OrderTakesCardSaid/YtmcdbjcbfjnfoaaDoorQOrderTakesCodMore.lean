
import Derived.Test.YtmcdbjcbfjnfoaaDoorQOrderTakesCodGo
import Derived.Test.YtmcdbjcbfjnfoaaDoorQOrderTakesLabSize
set_option linter.unusedVariables false
namespace Go.Proofs.YtmcdbjcbfjnfoaaDoor.Pure
open Go.RowKit Go.Proofs.YtmcdbjcbfjnfoaaDoor Go.Proofs.YtmcdbjcbfjnfoaaDoor.PAll Go.Proofs.YtmcdbjcbfjnfoaaDoorW.PrintWords Go.Proofs.YtmcdbjcbfjnfoaaDoorW.PrintLast Go.Proofs.YtmcdbjcbfjnfoaaDoorW.PrintMore
theorem encT_len {s : ByteArray} (h : s.size ≤ 32) : (encT s).length ≤ 33 := by
  unfold encT
  have := enc_le 1 s.size (by omega) (by omega)
  rw [List.length_append, bytesOf_length]; omega
theorem enc_len10 {n : Nat} (h : n < 1180591620717411303424) : (enc n).length ≤ 10 := enc_le 10 n h (by omega)
theorem putNs (b : List Int) (ns : List Nat) (xs : List Int) (e : xs = ns.map fun n : Nat => (n : Int)) (hN : ns.length < 10) (hm : ∀ n ∈ ns, n < 1180591620717411303424) (hb : b.length ≤ 100000000) : Ev (fun k => packet_Number.f k b xs) (b ++ ns.flatMap enc) := by
  have : ∀ l : List Nat, (∀ n ∈ l, n < 1180591620717411303424) → (l.flatMap enc).length ≤ 10 * l.length := by
    intro l
    induction l with
    | nil => intro _; simp
    | cons x l ih =>
      intro h
      have h1 := enc_len10 (h x (by simp))
      have h2 := ih fun n hn => h n (by simp [hn])
      rw [List.flatMap_cons, List.length_append, List.length_cons]; omega
  have := this ns hm
  rw [e]
  exact putN b ns (by omega) (by omega)
theorem putTs (b : List Int) (ss : List ByteArray) (hN : ss.length ≤ 100) (hs : ∀ s ∈ ss, s.size ≤ 32) (hb : b.length ≤ 100000000) : Ev (fun k => packet_Text.f k b ss) (b ++ ss.flatMap encT) := by
  have : ∀ l : List ByteArray, (∀ s ∈ l, s.size ≤ 32) → (l.flatMap encT).length ≤ 33 * l.length := by
    intro l
    induction l with
    | nil => intro _; simp
    | cons x l ih =>
      intro h
      have h1 := encT_len (h x (by simp))
      have h2 := ih fun n hn => h n (by simp [hn])
      rw [List.flatMap_cons, List.length_append, List.length_cons]; omega
  have := this ss hs
  exact putT b ss (by omega) (fun s h => by have := hs s h; omega) (by omega)
theorem wrapN (x : Int) (n : Nat) (h : x = (n : Int)) (hn : n < 18446744073709551616) : IntKind.u64.wrap x = (n : Int) := by
  rw [h]; exact wrap_u (by omega) (by omega)
theorem rdT_size (most : Nat) (l : List Int) (bad : Bool) (hb : Byt l) : (rdT most l bad).1.size ≤ most := by
  by_cases h : (rdT most l bad).2.2 = false
  · exact (rdT_got most l bad hb h).2.1
  · unfold rdT at h ⊢
    by_cases c : (rdN most l bad).2.2 = true
    · rw [if_pos c]; exact Nat.zero_le _
    rw [if_neg c] at h ⊢
    by_cases c2 : ((rdN most l bad).2.1.length : Int) < (rdN most l bad).1
    · rw [if_pos c2]; exact Nat.zero_le _
    · rw [if_neg c2] at h; exact absurd rfl h
theorem new_R (l : List Int) (h : l.length < 140737488355328) : packet_New.f l = some (l, false) := by unfold packet_New.f; rw [if_pos h]
end Go.Proofs.YtmcdbjcbfjnfoaaDoor.Pure
