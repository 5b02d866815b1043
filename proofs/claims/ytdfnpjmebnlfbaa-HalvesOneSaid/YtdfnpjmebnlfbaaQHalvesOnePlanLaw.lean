
import Derived.Test.YtdfnpjmebnlfbaaQHalvesOnePlanTell
namespace Go.Proofs.YtdfnpjmebnlfbaaW.PrintMore
end Go.Proofs.YtdfnpjmebnlfbaaW.PrintMore
set_option linter.unusedVariables false
namespace Go.Proofs.Ytdfnpjmebnlfbaa.PAll
open Go Go.Proofs Go.RowKit Go.Proofs.YtdfnpjmebnlfbaaW.PrintWords Go.Proofs.YtdfnpjmebnlfbaaW.PrintLast Go.Proofs.YtdfnpjmebnlfbaaW.PrintMore
instance lawfulBA : LawfulBEq ByteArray where
  eq_of_beq := by
    intro a b h
    cases a with | mk x => cases b with | mk y =>
      have h2 : (x == y) = true := h
      rw [eq_of_beq h2]
  rfl := by
    intro a
    cases a with | mk x =>
      show (x == x) = true
      exact beq_self_eq_true x
theorem rows_le (q : List (List ByteArray)) (h : ∀ r ∈ q, 0 < r.length) : q.length ≤ q.flatten.length := by
  induction q with
  | nil => simp
  | cons r t ih =>
    have h1 := h r (List.mem_cons_self ..)
    have h2 := ih (fun x hx => h x (List.mem_cons_of_mem _ hx))
    simp only [List.flatten_cons, List.length_append, List.length_cons]
    omega
theorem next_le (rest : List (List ByteArray)) : (nextL rest).length ≤ rest.flatten.length := by
  rcases List.eq_nil_or_concat rest with e | ⟨q, l, e⟩
  · subst e; simp [nextL]
  · rw [e, List.concat_eq_append, nextL_snoc]; simp
end Go.Proofs.Ytdfnpjmebnlfbaa.PAll
