
import Derived.Test.YtfikgnneajlgbaaQBankApartWMore
import Derived.Deep.Slices
import Derived.ChangeArms
import Derived.SizedLaws
import Derived.OpenShut
import Derived.WideShapes
namespace Go.Proofs.Ytfikgnneajlgbaa.Opening
open Go.RowKit Go.Deep Go.Proofs.YtfikgnneajlgbaaW.PrintWords
def Opens {α : Type} (P : Program) (t : TypeId) (d : Kd α) (ok : α → Prop) : Prop :=
  P.cellsOf t = d.sz ∧ ∀ (H : Type) (enc : TypeId × Value → H) (W : World) (sp : Nat → Bool) (held : Bool) (fuel : Nat) (cs : List Value) (x : DataW H × List MemPlace),
    DataW.trod enc P W 0 sp held fuel t cs = some x → (∀ n ∈ x.1.weights P t, n ≤ reachBytes) → ∃ a, d.K W a cs ∧ ok a
theorem mem_weightsAll {H : Type} {P : Program} {e : TypeId} {d : DataW H} {n : Nat} (hn : n ∈ d.weights P e) : ∀ {l : List (DataW H)}, d ∈ l → n ∈ DataW.weightsAll P e l
  | [], h => by simp at h
  | c :: l, h => by
    rw [DataW.weightsAll]
    rcases List.mem_cons.1 h with rfl | h
    · exact List.mem_append_left _ hn
    · exact List.mem_append_right _ (mem_weightsAll hn h)
theorem opens_int {P : Program} {t : TypeId} {k : IntKind} (h : P.underlying t = some (.int k)) (hc : P.cellsOf t = 1) : Opens P t (Kd.int k) (fun n => (Lit.int k n).wf = true) := by
  refine ⟨hc, fun H enc W sp held fuel cs x hx hw => ?_⟩
  cases fuel with
  | zero => simp [DataW.trod] at hx
  | succ f =>
    unfold DataW.trod at hx
    rw [h] at hx
    rcases cs with _ | ⟨c, _ | ⟨c', cs⟩⟩
    · simp at hx
    · cases c <;> simp at hx
      rename_i k' n
      obtain ⟨⟨rfl, hwf⟩, _⟩ := hx
      exact ⟨n, rfl, hwf⟩
    · simp at hx
theorem opens_string {P : Program} {t : TypeId} (h : P.underlying t = some .string) (hc : P.cellsOf t = 1) : Opens P t Kd.string (fun s => s.size ≤ 140737488351232) := by
  refine ⟨hc, fun H enc W sp held fuel cs x hx hw => ?_⟩
  cases fuel with
  | zero => simp [DataW.trod] at hx
  | succ f =>
    unfold DataW.trod at hx
    rw [h] at hx
    rcases cs with _ | ⟨c, _ | ⟨c', cs⟩⟩
    · simp at hx
    · cases c <;> simp at hx
      rename_i s
      have h1 := hx.2
      subst h1
      have h2 := hw s.data.toList.length (by simp [DataW.weights])
      rw [Array.length_toList] at h2
      exact ⟨s, rfl, h2⟩
    · simp at hx
theorem opens_slice {α : Type} {P : Program} {t e : TypeId} {d : Kd α} {ok : α → Prop} {B : Nat} (ht : P.underlying t = some (.slice e)) (hc : P.cellsOf t = 1) (hB : P.bytesOf e = B) (h : Opens P e d ok) :
    Opens P t (Kd.slice e d) (fun xs => xs.length * B ≤ 140737488351232 ∧ ∀ x ∈ xs, ok x) := by
  refine ⟨hc, fun H enc W sp held fuel cs x hx hw => ?_⟩
  rcases open_slice ht hx with ⟨rfl, _⟩ | ⟨ad, len, cap, m, n, D, Pl, rfl, _, hl, hm, hmm, rfl, hel⟩
  · exact ⟨[], ⟨none, 0, rfl, Nat.le_refl _, rfl, by simp, fun h0 => absurd h0 (by simp)⟩, by simp, by simp⟩
  · have hle : len ≤ m := by rw [hmm]; split <;> omega
    simp only [DataW.weights, ht, List.length_map, List.length_range] at hw
    have hlen0 : len * B ≤ 140737488351232 := by
      have h1 := hw _ (List.mem_cons_self ..)
      rw [hB] at h1
      exact Nat.le_trans (Nat.mul_le_mul_right _ (by omega)) h1
    have hex : ∀ i : Fin len, ∃ a, (∃ cs', W.cells? 0 (ad.add (i.val * P.cellsOf e)) (P.cellsOf e) = some cs' ∧ d.K W a cs') ∧ ok a := fun i => by
      obtain ⟨cs', h1, h2⟩ := hel i.val (by have := i.isLt; omega)
      obtain ⟨a, h3, h4⟩ := h.2 H enc W sp held n cs' _ h2 (fun q hq => hw q (List.mem_cons_of_mem _ (List.mem_append_left _ (mem_weightsAll hq (List.mem_map.2 ⟨i.val, List.mem_range.2 i.isLt, rfl⟩)))))
      exact ⟨a, ⟨cs', h1, h3⟩, h4⟩
    obtain ⟨f, hf⟩ := Classical.axiomOfChoice hex
    have hlen : (List.ofFn f).length = len := List.length_ofFn
    have hcap : cap ≤ 9223372036854775807 := by unfold maxLen at hm; omega
    refine ⟨List.ofFn f, ⟨some ad, cap, by rw [hlen], by rw [hlen]; exact hl, rfl, by rw [hlen]; omega, fun _ => ⟨ad, rfl, fun j p hj => ?_⟩⟩, by rw [hlen]; exact hlen0, fun x hx => ?_⟩
    · have hjl : j < len := by rw [← hlen]; exact (List.getElem?_eq_some_iff.1 hj).1
      obtain ⟨⟨cs', h1, h2⟩, _⟩ := hf ⟨j, hjl⟩
      rw [List.getElem?_ofFn] at hj
      simp only [hjl, dif_pos] at hj
      cases hj
      obtain ⟨_, hs, hcell⟩ := World.cells?_some h1
      refine ⟨cs', by rw [hs, h.1], h2, fun i u hu => ?_⟩
      have hi : i < P.cellsOf e := by rw [← hs]; exact (List.getElem?_eq_some_iff.1 hu).1
      rw [← h.1, ← Go.Deep.add_add, hcell i hi]
      exact hu
    · obtain ⟨i, rfl⟩ := (List.mem_ofFn).1 hx
      exact (hf i).2
def OpensF {α : Type} (P : Program) (fs : List Field) (off : Nat) (d : Kd α) (ok : α → Prop) : Prop :=
  ∀ (H : Type) (enc : TypeId × Value → H) (W : World) (sp : Nat → Bool) (held : Bool) (n : Nat) (cs : List Value),
    (∀ f ∈ fs, ∃ y, DataW.trod enc P W 0 sp held n f.type ((cs.drop f.offset).take (P.cellsOf f.type)) = some y ∧ ∀ q ∈ y.1.weights P f.type, q ≤ reachBytes) → ∃ a, d.K W a ((cs.drop off).take d.sz) ∧ ok a
theorem opensF_one {α : Type} {P : Program} {f : Field} {off : Nat} {d : Kd α} {ok : α → Prop} (ho : f.offset = off) (h : Opens P f.type d ok) : OpensF P [f] off d ok := by
  intro H enc W sp held n cs hf
  obtain ⟨y, hy, hq⟩ := hf f (List.mem_singleton.2 rfl)
  rw [h.1, ho] at hy
  exact h.2 H enc W sp held n _ _ hy hq
theorem opensF_cons {α β : Type} {P : Program} {f : Field} {fs : List Field} {off : Nat} {d : Kd α} {e : Kd β} {ok : α → Prop} {ok' : β → Prop} (ho : f.offset = off) (h : Opens P f.type d ok) (hs : OpensF P fs (off + d.sz) e ok') :
    OpensF P (f :: fs) off (Kd.pair d e) (fun x => ok x.1 ∧ ok' x.2) := by
  intro H enc W sp held n cs hf
  obtain ⟨a, ha, oa⟩ := opensF_one ho h H enc W sp held n cs (fun g hg => hf g (by rw [List.mem_singleton.1 hg]; exact List.mem_cons_self ..))
  obtain ⟨b, hb, ob⟩ := hs H enc W sp held n cs (fun g hg => hf g (List.mem_cons_of_mem _ hg))
  refine ⟨(a, b), ⟨(cs.drop off).take d.sz, (cs.drop (off + d.sz)).take e.sz, ?_, ha, hb⟩, oa, ob⟩
  rw [← List.drop_drop]
  exact List.take_add
theorem opens_struct {α β : Type} {P : Program} {t : TypeId} {fs : Array Field} {d : Kd α} {f : β → α} {g : α → β} {ok : α → Prop} (ht : P.underlying t = some (.struct fs)) (hc : P.cellsOf t = d.sz) (hfg : ∀ a, f (g a) = a)
    (h : OpensF P fs.toList 0 d ok) : Opens P t (Kd.iso d f) (fun x => ok (f x)) := by
  refine ⟨hc, fun H enc W sp held fuel cs x hx hw => ?_⟩
  obtain ⟨xs, n, _, rfl, hl, hlen, hf⟩ := DataW.trod_struct ht hx
  simp only [DataW.weights, ht] at hw
  obtain ⟨a, ha, oa⟩ := h H enc W sp held n cs (fun fd hfd => by
    obtain ⟨j, hj, e⟩ := List.getElem_of_mem hfd
    have hj' : j < fs.size := by simpa using hj
    have e' : fs[j]? = some fd := by rw [Array.getElem?_eq_getElem hj']; congr 1
    refine ⟨xs[j]'(by omega), (hf j fd e').trans (List.getElem?_eq_getElem _), fun q hq => hw q (DataW.weights_mem_each (j := j) (t := fd.type) (d := (xs[j]'(by omega)).1) ?_ ?_ q hq)⟩
    · rw [List.getElem?_map, Array.getElem?_toList, e']; rfl
    · rw [List.getElem?_map, List.getElem?_eq_getElem (by omega)]; rfl)
  rw [List.drop_zero, List.take_of_length_le (by rw [hl, hc]; exact Nat.le_refl _)] at ha
  exact ⟨g a, by show d.K W (f (g a)) cs; rw [hfg]; exact ha, by show ok (f (g a)); rw [hfg]; exact oa⟩
theorem Opens.imp {α : Type} {P : Program} {t : TypeId} {d : Kd α} {ok ok' : α → Prop} (h : Opens P t d ok) (hi : ∀ a, ok a → ok' a) : Opens P t d ok' :=
  ⟨h.1, fun H enc W sp held fuel cs x hx hw => let ⟨a, ha, oa⟩ := h.2 H enc W sp held fuel cs x hx hw; ⟨a, ha, hi a oa⟩⟩
theorem Opens.arg {α : Type} {P : Program} {t : TypeId} {d : Kd α} {ok : α → Prop} (h : Opens P t d ok) {H : Type} {enc : TypeId × Value → H} {W : World} {sp : Nat → Bool} {held : Bool} {v : Value} {x : DataW H} {p : List MemPlace} {ts : List TypeId} {ds : List (DataW H)} (j : Nat)
    (hsz : (DataW.weightsEach P ts ds).all (· ≤ reachBytes) = true) (hj : ts[j]? = some t) (hd : ds[j]? = some x) (hx : DataW.Trod enc P W 0 sp held t v x p) : ∃ a, d.K W a v.cells.toList ∧ ok a := by
  obtain ⟨fuel, hf⟩ := hx
  exact h.2 H enc W sp held fuel _ _ hf (fun n hn => by simpa using List.all_eq_true.1 hsz _ (DataW.weights_mem_each hj hd n hn))
end Go.Proofs.Ytfikgnneajlgbaa.Opening
