
import Derived.Test.YtdfnpjmebnlfbaaQHalvesOnePlanLaw
namespace Go.Proofs.YtdfnpjmebnlfbaaW.PrintMore
end Go.Proofs.YtdfnpjmebnlfbaaW.PrintMore
set_option linter.unusedVariables false
namespace Go.Proofs.Ytdfnpjmebnlfbaa.PAll
open Go Go.Proofs Go.RowKit Go.Proofs.YtdfnpjmebnlfbaaW.PrintWords Go.Proofs.YtdfnpjmebnlfbaaW.PrintLast Go.Proofs.YtdfnpjmebnlfbaaW.PrintMore
def hf (l : List ByteArray) : Nat := (l.length + 1) / 2
theorem hf_lt {l : List ByteArray} (h : ¬ l.length ≤ 1) : hf l < l.length ∧ 0 < hf l := by unfold hf; omega
def cost (bd : ByteArray → Bool) (l : List ByteArray) : Nat :=
  if h : l.length ≤ 1 then 1 else if l.any bd = false then 1 else 1 + cost bd (l.take (hf l)) + cost bd (l.drop (hf l))
termination_by l.length
decreasing_by
  · rw [List.length_take]; have := hf_lt h; omega
  · rw [List.length_drop]; have := hf_lt h; omega
theorem cost_one {bd : ByteArray → Bool} {l : List ByteArray} (h : l.length ≤ 1) : cost bd l = 1 := by rw [cost, dif_pos h]
theorem cost_none {bd : ByteArray → Bool} {l : List ByteArray} (h : l.any bd = false) : cost bd l = 1 := by
  rw [cost]
  by_cases c : l.length ≤ 1
  · rw [dif_pos c]
  · rw [dif_neg c, if_pos h]
theorem cost_some {bd : ByteArray → Bool} {l : List ByteArray} (h1 : ¬ l.length ≤ 1) (h : l.any bd = true) : cost bd l = 1 + cost bd (l.take (hf l)) + cost bd (l.drop (hf l)) := by
  rw [cost, dif_neg h1, if_neg (by rw [h]; decide)]
theorem cost_pos (bd : ByteArray → Bool) (l : List ByteArray) : 0 < cost bd l := by
  by_cases c : l.length ≤ 1
  · rw [cost_one c]; omega
  · cases h : l.any bd
    · rw [cost_none h]; omega
    · rw [cost_some c h]; omega
theorem any_countP {bd : ByteArray → Bool} {l : List ByteArray} : l.any bd = false ↔ l.countP bd = 0 := by
  rw [List.countP_eq_zero]
  constructor
  · intro h a ha; have := List.any_eq_false.1 h a ha; exact this
  · intro h; exact List.any_eq_false.2 h
theorem cost_le (bd : ByteArray → Bool) (n : Nat) : ∀ (l : List ByteArray) (d : Nat), l.length ≤ n → l.length ≤ 2 ^ d → (l.countP bd = 0 → cost bd l = 1) ∧ (0 < l.countP bd → cost bd l + 1 ≤ 2 * l.countP bd * (d + 1)) := by
  induction n with
  | zero =>
    intro l d h1 h2
    rw [cost_one (by omega)]
    refine ⟨fun _ => rfl, fun h => ?_⟩
    have := List.countP_le_length (p := bd) (l := l)
    omega
  | succ n ih =>
    intro l d h1 h2
    refine ⟨fun h => cost_none (any_countP.2 h), fun h => ?_⟩
    by_cases c : l.length ≤ 1
    · rw [cost_one c]
      have : 2 * l.countP bd * 1 ≤ 2 * l.countP bd * (d + 1) := Nat.mul_le_mul_left _ (by omega)
      omega
    · cases d with
      | zero => omega
      | succ d =>
        have hh := hf_lt c
        have hany : l.any bd = true := by
          cases q : l.any bd
          · have := any_countP.1 q; omega
          · rfl
        rw [cost_some c hany]
        have e : l.countP bd = (l.take (hf l)).countP bd + (l.drop (hf l)).countP bd := by
          rw [← List.countP_append, List.take_append_drop]
        have l1 : (l.take (hf l)).length = hf l := by rw [List.length_take]; omega
        have l2 : (l.drop (hf l)).length = l.length - hf l := List.length_drop
        rw [Nat.pow_succ] at h2
        have hhf : hf l ≤ 2 ^ d := by unfold hf; omega
        have a := ih (l.take (hf l)) d (by omega) (by omega)
        have b := ih (l.drop (hf l)) d (by omega) (by unfold hf; unfold hf at l2; omega)
        generalize (l.take (hf l)).countP bd = x at *
        generalize (l.drop (hf l)).countP bd = y at *
        generalize cost bd (l.take (hf l)) = u at *
        generalize cost bd (l.drop (hf l)) = v at *
        rw [e]
        have m1 : 2 * (x + y) * (d + 1 + 1) = 2 * x * (d + 1) + 2 * y * (d + 1) + 2 * x + 2 * y := by
          simp only [Nat.mul_add, Nat.add_mul]; omega
        rw [m1]
        by_cases hx : x = 0
        · have h3 := a.1 hx
          have h4 := b.2 (by omega)
          subst hx
          simp only [Nat.mul_zero, Nat.zero_mul, Nat.zero_add]
          omega
        · by_cases hy : y = 0
          · have h3 := b.1 hy
            have h4 := a.2 (by omega)
            subst hy
            simp only [Nat.mul_zero, Nat.zero_mul, Nat.add_zero]
            omega
          · have h3 := a.2 (by omega)
            have h4 := b.2 (by omega)
            omega
theorem cost_le2 (bd : ByteArray → Bool) (n : Nat) : ∀ (l : List ByteArray), l.length ≤ n → 0 < l.length → cost bd l + 1 ≤ 2 * l.length := by
  induction n with
  | zero => intro l h1 h2; omega
  | succ n ih =>
    intro l h1 h2
    by_cases c : l.length ≤ 1
    · rw [cost_one c]; omega
    · cases h : l.any bd
      · rw [cost_none h]; omega
      · have hh := hf_lt c
        have l1 : (l.take (hf l)).length = hf l := by rw [List.length_take]; omega
        have l2 : (l.drop (hf l)).length = l.length - hf l := List.length_drop
        have a := ih (l.take (hf l)) (by omega) (by omega)
        have b := ih (l.drop (hf l)) (by omega) (by omega)
        rw [cost_some c h]
        omega
structure InvB (names : List ByteArray) (bd : ByteArray → Bool) (p : Pl) (left : Nat) : Prop where
  done : ∃ dn, names = dn ++ p.rest.reverse.flatten ∧ p.good = dn.filter (fun x => !bd x) ∧ p.bad = dn.filter bd
  pos : ∀ r ∈ p.rest, 0 < r.length
  rows : left = (p.rest.map (cost bd)).sum
  tries : p.tries + (left : Int) = (if names = [] then (0 : Int) else (cost bd names : Int)) ∧ 0 ≤ p.tries
theorem invB_first (l : List ByteArray) (bd : ByteArray → Bool) : InvB l bd ⟨firstL l, [], [], 0⟩ (if l = [] then 0 else cost bd l) := by
  unfold firstL
  by_cases h : l = []
  · subst h; exact ⟨⟨[], by simp, rfl, rfl⟩, fun r hr => by simp at hr, by simp, by simp⟩
  · rw [if_neg h, if_neg h]
    exact ⟨⟨[], by simp, rfl, rfl⟩, fun r hr => by simp at hr; subst hr; exact List.length_pos_iff.2 h, by simp, by rw [if_neg h]; simp⟩
theorem InvB.inv {names : List ByteArray} {bd : ByteArray → Bool} {p : Pl} {left : Nat} (h : InvB names bd p left) : p.good.length + p.bad.length + p.rest.flatten.length = names.length := by
  obtain ⟨dn, h1, h2, h3⟩ := h.done
  have e : ∀ q : List (List ByteArray), q.reverse.flatten.length = q.flatten.length := by
    intro q
    induction q with
    | nil => rfl
    | cons a t ih => simp only [List.reverse_cons, List.flatten_append, List.flatten_cons, List.flatten_nil, List.append_nil, List.length_append]; rw [ih]; omega
  have f : ∀ d : List ByteArray, (d.filter (fun x => !bd x)).length + (d.filter bd).length = d.length := by
    intro d
    induction d with
    | nil => rfl
    | cons a t ih =>
      cases c : bd a
      · rw [List.filter_cons_of_pos (by simp [c]), List.filter_cons_of_neg (by simp [c])]; simp only [List.length_cons]; omega
      · rw [List.filter_cons_of_neg (by simp [c]), List.filter_cons_of_pos (by simp [c])]; simp only [List.length_cons]; omega
  rw [h1, h2, h3, List.length_append, e, f]
theorem InvB.lim {names : List ByteArray} {bd : ByteArray → Bool} {p : Pl} {left : Nat} (h : InvB names bd p left) (hn : names.length ≤ 1000000) : (nextL p.rest).length ≤ 1000000 ∧ p.rest.length ≤ 1000000 ∧ p.good.length ≤ 1000000 ∧ p.bad.length ≤ 1000000 := by
  have a := h.inv
  have b := rows_le p.rest h.pos
  have c := next_le p.rest
  omega
def okRow (bd : ByteArray → Bool) (l : List ByteArray) : Bool := l.all (fun x => !bd x)
theorem okRow_any (bd : ByteArray → Bool) (l : List ByteArray) : okRow bd l = !l.any bd := by
  unfold okRow
  induction l with
  | nil => rfl
  | cons a t ih => simp only [List.all_cons, List.any_cons, ih, Bool.not_or]
theorem filter_none {bd : ByteArray → Bool} {l : List ByteArray} (h : l.any bd = false) : l.filter bd = [] ∧ l.filter (fun x => !bd x) = l := by
  have h1 := List.any_eq_false.1 h
  exact ⟨List.filter_eq_nil_iff.2 h1, List.filter_eq_self.2 (fun a ha => by simpa using h1 a ha)⟩
theorem InvB.tell {names : List ByteArray} {bd : ByteArray → Bool} {p : Pl} {left : Nat} {q : List (List ByteArray)} {l : List ByteArray} (h : InvB names bd p left) (e : p.rest = q ++ [l]) (hc : cost bd names ≤ 1000000) :
    ∃ p2 left2, p.tell (okRow bd l) = (p2, 0) ∧ InvB names bd p2 left2 ∧ left2 + 1 = left := by
  obtain ⟨rest, good, bad, tries⟩ := p
  simp only at e
  subst e
  obtain ⟨⟨dn, h1, h2, h3⟩, h4, h5, h6, h7⟩ := h
  simp only [List.reverse_append, List.reverse_cons, List.reverse_nil, List.nil_append, List.singleton_append, List.flatten_cons, List.map_append, List.map_cons, List.map_nil, List.sum_append, List.sum_cons, List.sum_nil, Nat.add_zero] at h1 h2 h3 h5 h6 h7
  have hl : 0 < l.length := h4 l (by simp)
  have hq : ∀ r ∈ q, 0 < r.length := fun r hr => h4 r (List.mem_append_left _ hr)
  have hcp := cost_pos bd l
  have hw : wrap64 (tries + 1) = tries + 1 := by
    by_cases c : names = []
    · rw [if_pos c] at h6; unfold wrap64; omega
    · rw [if_neg c] at h6; unfold wrap64; omega
  have ht : (tries + 1) + ((q.map (cost bd)).sum + (cost bd l - 1) : Nat) = (if names = [] then (0 : Int) else (cost bd names : Int)) := by
    rw [← h6, h5]; omega
  unfold Pl.tell
  simp only [nextL_snoc, List.dropLast_concat]
  rw [if_neg (by omega), hw]
  cases hb : l.any bd with
  | false =>
    rw [okRow_any, hb, if_pos (show (!false) = true from rfl)]
    obtain ⟨f1, f2⟩ := filter_none hb
    refine ⟨_, (q.map (cost bd)).sum, rfl, ⟨⟨dn ++ l, by rw [h1, List.append_assoc], ?_, ?_⟩, hq, rfl, ?_, by simp only; omega⟩, by rw [h5, cost_none hb]⟩
    · rw [List.filter_append, f2, h2]
    · rw [List.filter_append, f1, h3, List.append_nil]
    · rw [cost_none hb] at ht; simpa using ht
  | true =>
    rw [okRow_any, hb, if_neg (show ¬ (!true) = true by decide)]
    by_cases c : l.length = 1
    · rw [if_pos c]
      obtain ⟨x, rfl⟩ := List.length_eq_one_iff.1 c
      have hx : bd x = true := by simpa using hb
      refine ⟨_, (q.map (cost bd)).sum, rfl, ⟨⟨dn ++ [x], by rw [h1, List.append_assoc], ?_, ?_⟩, hq, rfl, ?_, by simp only; omega⟩, by rw [h5, cost_one (by simp)]⟩
      · rw [List.filter_append, h2, List.filter_cons_of_neg (by simp [hx])]; simp
      · rw [List.filter_append, h3, List.filter_cons_of_pos (by simp [hx])]; simp
      · rw [cost_one (by simp)] at ht; simpa using ht
    · rw [if_neg c]
      have hh := hf_lt (l := l) (by omega)
      have ec := cost_some (bd := bd) (l := l) (by omega) hb
      have l1 : (l.take (hf l)).length = hf l := by rw [List.length_take]; omega
      have l2 : (l.drop (hf l)).length = l.length - hf l := List.length_drop
      refine ⟨_, (q.map (cost bd)).sum + (cost bd l - 1), rfl, ⟨⟨dn, ?_, h2, h3⟩, ?_, ?_, by simpa using ht, by simp only; omega⟩, by rw [h5]; omega⟩
      · rw [h1]
        simp only [List.reverse_append, List.reverse_cons, List.reverse_nil, List.nil_append, List.cons_append, List.flatten_cons]
        rw [← List.append_assoc (l.take _), List.take_append_drop]
      · intro r hr
        rcases List.mem_append.1 hr with hr | hr
        · exact hq r hr
        · simp only [List.mem_cons, List.not_mem_nil, or_false] at hr
          rcases hr with rfl | rfl
          · show 0 < (l.drop (hf l)).length; omega
          · show 0 < (l.take (hf l)).length; omega
      · simp only [List.map_append, List.map_cons, List.map_nil, List.sum_append, List.sum_cons, List.sum_nil, Nat.add_zero]
        show _ = _ + (cost bd (l.drop (hf l)) + cost bd (l.take (hf l)))
        rw [ec]; omega
theorem InvB.ends {names : List ByteArray} {bd : ByteArray → Bool} {p : Pl} {left : Nat} (h : InvB names bd p left) (e : p.rest = []) : p.good = names.filter (fun x => !bd x) ∧ p.bad = names.filter bd ∧ p.tries = (if names = [] then (0 : Int) else (cost bd names : Int)) := by
  obtain ⟨⟨dn, h1, h2, h3⟩, h4, h5, h6, h7⟩ := h
  rw [e] at h1 h5
  simp only [List.reverse_nil, List.flatten_nil, List.append_nil, List.map_nil, List.sum_nil] at h1 h5
  subst h1; subst h5
  exact ⟨h2, h3, by simpa using h6⟩
end Go.Proofs.Ytdfnpjmebnlfbaa.PAll
