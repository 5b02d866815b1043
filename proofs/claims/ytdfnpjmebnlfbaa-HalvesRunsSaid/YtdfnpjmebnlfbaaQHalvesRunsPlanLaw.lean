
import Derived.Test.YtdfnpjmebnlfbaaQHalvesRunsPlanTell
namespace Go.Proofs.YtdfnpjmebnlfbaaW.PrintMore
end Go.Proofs.YtdfnpjmebnlfbaaW.PrintMore
set_option linter.unusedVariables false
namespace Go.Proofs.Ytdfnpjmebnlfbaa.PAll
open Go Go.Proofs Go.RowKit Go.Proofs.YtdfnpjmebnlfbaaW.PrintWords Go.Proofs.YtdfnpjmebnlfbaaW.PrintLast Go.Proofs.YtdfnpjmebnlfbaaW.PrintMore
structure Inv (names : List ByteArray) (p : Pl) : Prop where
  cnt : ∀ a, p.good.count a + p.bad.count a + p.rest.flatten.count a = names.count a
  len : p.good.length + p.bad.length + p.rest.flatten.length = names.length
  pos : ∀ r ∈ p.rest, 0 < r.length
theorem inv_first (l : List ByteArray) (t : Int) : Inv l ⟨firstL l, [], [], t⟩ := by
  unfold firstL
  by_cases h : l = []
  · subst h; exact ⟨fun a => rfl, rfl, fun r hr => by simp at hr⟩
  · rw [if_neg h]
    exact ⟨fun a => by simp, by simp, fun r hr => by simp at hr; subst hr; exact List.length_pos_iff.2 h⟩
theorem rows_le (q : List (List ByteArray)) (h : ∀ r ∈ q, 0 < r.length) : q.length ≤ q.flatten.length := by
  induction q with
  | nil => simp
  | cons r t ih =>
    have h1 := h r (List.mem_cons_self ..)
    have h2 := ih (fun x hx => h x (List.mem_cons_of_mem _ hx))
    simp only [List.flatten_cons, List.length_append, List.length_cons]
    omega
theorem Inv.next_pos {names : List ByteArray} {p : Pl} (h : Inv names p) (hp : p.rest ≠ []) : 0 < (nextL p.rest).length := by
  obtain ⟨q, l, e⟩ : ∃ q l, p.rest = q ++ [l] := by
    rcases List.eq_nil_or_concat p.rest with e | ⟨q, l, e⟩
    · exact absurd e hp
    · exact ⟨q, l, by rw [e, List.concat_eq_append]⟩
  rw [e, nextL_snoc]
  exact h.pos l (by rw [e]; simp)
theorem Inv.tell {names : List ByteArray} {p : Pl} (h : Inv names p) (b : Bool) : Inv names (p.tell b).1 := by
  obtain ⟨rest, good, bad, tries⟩ := p
  obtain ⟨h1, h2, h3⟩ := h
  unfold Pl.tell
  simp only at h1 h2 h3 ⊢
  by_cases h0 : (nextL rest).length = 0
  · rw [if_pos h0]; exact ⟨h1, h2, h3⟩
  rw [if_neg h0]
  obtain ⟨q, l, e⟩ : ∃ q l, rest = q ++ [l] := by
    rcases List.eq_nil_or_concat rest with e | ⟨q, l, e⟩
    · subst e; exact absurd rfl h0
    · exact ⟨q, l, by rw [e, List.concat_eq_append]⟩
  subst e
  simp only [nextL_snoc, List.dropLast_concat, List.flatten_append, List.flatten_cons, List.flatten_nil, List.append_nil, List.count_append, List.length_append] at h0 h1 h2 ⊢
  have hq : ∀ r ∈ q, 0 < r.length := fun r hr => h3 r (List.mem_append_left _ hr)
  cases b with
  | true =>
    rw [if_pos rfl]
    exact ⟨fun a => by have := h1 a; simp only [List.count_append]; omega, by simp only [List.length_append]; omega, hq⟩
  | false =>
    rw [if_neg (by decide)]
    by_cases c : l.length = 1
    · rw [if_pos c]
      exact ⟨fun a => by have := h1 a; simp only [List.count_append]; omega, by simp only [List.length_append]; omega, hq⟩
    · rw [if_neg c]
      have e1 : ∀ a, (l.take ((l.length + 1) / 2)).count a + (l.drop ((l.length + 1) / 2)).count a = l.count a := fun a => by rw [← List.count_append, List.take_append_drop]
      have e2 : (l.take ((l.length + 1) / 2)).length = (l.length + 1) / 2 := by rw [List.length_take]; omega
      have e3 : (l.drop ((l.length + 1) / 2)).length = l.length - (l.length + 1) / 2 := List.length_drop
      refine ⟨fun a => ?_, ?_, fun r hr => ?_⟩
      · have z := h1 a
        have y := e1 a
        simp only [List.flatten_append, List.flatten_cons, List.flatten_nil, List.append_nil, List.count_append]
        omega
      · simp only [List.flatten_append, List.flatten_cons, List.flatten_nil, List.append_nil, List.length_append]
        omega
      · rcases List.mem_append.1 hr with hr | hr
        · exact hq r hr
        · simp only [List.mem_cons, List.not_mem_nil, or_false] at hr
          rcases hr with rfl | rfl <;> omega
theorem next_le (rest : List (List ByteArray)) : (nextL rest).length ≤ rest.flatten.length := by
  rcases List.eq_nil_or_concat rest with e | ⟨q, l, e⟩
  · subst e; simp [nextL]
  · rw [e, List.concat_eq_append, nextL_snoc]; simp
theorem Inv.lim {names : List ByteArray} {p : Pl} (h : Inv names p) (hn : names.length ≤ 1000000) : (nextL p.rest).length ≤ 1000000 ∧ p.rest.length ≤ 1000000 ∧ p.good.length ≤ 1000000 ∧ p.bad.length ≤ 1000000 := by
  have a := h.len
  have b := rows_le p.rest h.pos
  have c := next_le p.rest
  omega
end Go.Proofs.Ytdfnpjmebnlfbaa.PAll
