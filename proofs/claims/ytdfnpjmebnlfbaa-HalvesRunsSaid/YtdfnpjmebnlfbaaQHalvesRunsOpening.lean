
import Derived.Test.YtdfnpjmebnlfbaaQHalvesRunsWMore
import Derived.Deep.Slices
import Derived.ChangeArms
import Derived.SizedLaws
import Derived.OpenShut
import Derived.WideShapes
namespace Go.Proofs.Ytdfnpjmebnlfbaa.Opening
open Go.RowKit Go.Deep Go.Proofs.YtdfnpjmebnlfbaaW.PrintWords
def Opens {α : Type} (P : Program) (t : TypeId) (d : Kd α) (ok : α → Prop) : Prop :=
  P.cellsOf t = d.sz ∧ ∀ (H : Type) (enc : TypeId × Value → H) (W : World) (sp : Nat → Bool) (held : Bool) (fuel : Nat) (cs : List Value) (x : DataW H × List MemPlace),
    DataW.trod enc P W 0 sp held fuel t cs = some x → (∀ n ∈ x.1.weights P t, n ≤ reachBytes) → ∃ a, d.K W a cs ∧ ok a
theorem mem_weightsAll {H : Type} {P : Program} {e : TypeId} {d : DataW H} {n : Nat} (hn : n ∈ d.weights P e) : ∀ {l : List (DataW H)}, d ∈ l → n ∈ DataW.weightsAll P e l
  | [], h => by simp at h
  | c :: l, h => by
    rw [DataW.weightsAll]
    rcases List.mem_cons.1 h with rfl | h
    · exact List.mem_append_left _ hn
    · exact List.mem_append_right _ (mem_weightsAll hn h)
theorem opens_bool {P : Program} {t : TypeId} (h : P.underlying t = some .bool) (hc : P.cellsOf t = 1) : Opens P t Kd.bool (fun _ => True) := by
  refine ⟨hc, fun H enc W sp held fuel cs x hx hw => ?_⟩
  cases fuel with
  | zero => simp [DataW.trod] at hx
  | succ f =>
    unfold DataW.trod at hx
    rw [h] at hx
    rcases cs with _ | ⟨c, _ | ⟨c', cs⟩⟩
    · simp at hx
    · cases c <;> simp at hx
      rename_i b
      exact ⟨b, rfl, trivial⟩
    · simp at hx
theorem opens_string {P : Program} {t : TypeId} (h : P.underlying t = some .string) (hc : P.cellsOf t = 1) : Opens P t Kd.string (fun s => s.size ≤ 140737488351232) := by
  refine ⟨hc, fun H enc W sp held fuel cs x hx hw => ?_⟩
  cases fuel with
  | zero => simp [DataW.trod] at hx
  | succ f =>
    unfold DataW.trod at hx
    rw [h] at hx
    rcases cs with _ | ⟨c, _ | ⟨c', cs⟩⟩
    · simp at hx
    · cases c <;> simp at hx
      rename_i s
      have h1 := hx.2
      subst h1
      have h2 := hw s.data.toList.length (by simp [DataW.weights])
      rw [Array.length_toList] at h2
      exact ⟨s, rfl, h2⟩
    · simp at hx
theorem opens_slice {α : Type} {P : Program} {t e : TypeId} {d : Kd α} {ok : α → Prop} {B : Nat} (ht : P.underlying t = some (.slice e)) (hc : P.cellsOf t = 1) (hB : P.bytesOf e = B) (h : Opens P e d ok) :
    Opens P t (Kd.slice e d) (fun xs => xs.length * B ≤ 140737488351232 ∧ ∀ x ∈ xs, ok x) := by
  refine ⟨hc, fun H enc W sp held fuel cs x hx hw => ?_⟩
  rcases open_slice ht hx with ⟨rfl, _⟩ | ⟨ad, len, cap, m, n, D, Pl, rfl, _, hl, hm, hmm, rfl, hel⟩
  · exact ⟨[], ⟨none, 0, rfl, Nat.le_refl _, rfl, by simp, fun h0 => absurd h0 (by simp)⟩, by simp, by simp⟩
  · have hle : len ≤ m := by rw [hmm]; split <;> omega
    simp only [DataW.weights, ht, List.length_map, List.length_range] at hw
    have hlen0 : len * B ≤ 140737488351232 := by
      have h1 := hw _ (List.mem_cons_self ..)
      rw [hB] at h1
      exact Nat.le_trans (Nat.mul_le_mul_right _ (by omega)) h1
    have hex : ∀ i : Fin len, ∃ a, (∃ cs', W.cells? 0 (ad.add (i.val * P.cellsOf e)) (P.cellsOf e) = some cs' ∧ d.K W a cs') ∧ ok a := fun i => by
      obtain ⟨cs', h1, h2⟩ := hel i.val (by have := i.isLt; omega)
      obtain ⟨a, h3, h4⟩ := h.2 H enc W sp held n cs' _ h2 (fun q hq => hw q (List.mem_cons_of_mem _ (List.mem_append_left _ (mem_weightsAll hq (List.mem_map.2 ⟨i.val, List.mem_range.2 i.isLt, rfl⟩)))))
      exact ⟨a, ⟨cs', h1, h3⟩, h4⟩
    obtain ⟨f, hf⟩ := Classical.axiomOfChoice hex
    have hlen : (List.ofFn f).length = len := List.length_ofFn
    have hcap : cap ≤ 9223372036854775807 := by unfold maxLen at hm; omega
    refine ⟨List.ofFn f, ⟨some ad, cap, by rw [hlen], by rw [hlen]; exact hl, rfl, by rw [hlen]; omega, fun _ => ⟨ad, rfl, fun j p hj => ?_⟩⟩, by rw [hlen]; exact hlen0, fun x hx => ?_⟩
    · have hjl : j < len := by rw [← hlen]; exact (List.getElem?_eq_some_iff.1 hj).1
      obtain ⟨⟨cs', h1, h2⟩, _⟩ := hf ⟨j, hjl⟩
      rw [List.getElem?_ofFn] at hj
      simp only [hjl, dif_pos] at hj
      cases hj
      obtain ⟨_, hs, hcell⟩ := World.cells?_some h1
      refine ⟨cs', by rw [hs, h.1], h2, fun i u hu => ?_⟩
      have hi : i < P.cellsOf e := by rw [← hs]; exact (List.getElem?_eq_some_iff.1 hu).1
      rw [← h.1, ← Go.Deep.add_add, hcell i hi]
      exact hu
    · obtain ⟨i, rfl⟩ := (List.mem_ofFn).1 hx
      exact (hf i).2
theorem Opens.arg {α : Type} {P : Program} {t : TypeId} {d : Kd α} {ok : α → Prop} (h : Opens P t d ok) {H : Type} {enc : TypeId × Value → H} {W : World} {sp : Nat → Bool} {held : Bool} {v : Value} {x : DataW H} {p : List MemPlace} {ts : List TypeId} {ds : List (DataW H)} (j : Nat)
    (hsz : (DataW.weightsEach P ts ds).all (· ≤ reachBytes) = true) (hj : ts[j]? = some t) (hd : ds[j]? = some x) (hx : DataW.Trod enc P W 0 sp held t v x p) : ∃ a, d.K W a v.cells.toList ∧ ok a := by
  obtain ⟨fuel, hf⟩ := hx
  exact h.2 H enc W sp held fuel _ _ hf (fun n hn => by simpa using List.all_eq_true.1 hsz _ (DataW.weights_mem_each hj hd n hn))
end Go.Proofs.Ytdfnpjmebnlfbaa.Opening
