
import Derived.Test.YtalcopjlofbfaaaDoorQLinesNamesMrgStep
set_option linter.unusedVariables false
namespace Go.Proofs.YtalcopjlofbfaaaDoor.Pure
open Go.RowKit Go.Proofs.YtalcopjlofbfaaaDoor Go.Proofs.YtalcopjlofbfaaaDoor.PAll Go.Proofs.YtalcopjlofbfaaaDoorW.PrintWords Go.Proofs.YtalcopjlofbfaaaDoorW.PrintLast Go.Proofs.YtalcopjlofbfaaaDoorW.PrintMore Go.Lib
def Fits (o : List S37) : Prop := o.length ≤ 8 ∧ ∀ z ∈ o, z.f1 ≤ 1000
def AllB (l : List S37) : Prop := ∀ x ∈ l, lineB x = true
def Good (l : List S37) : Prop := l ≠ [] ∧ AllB l ∧ ∃ o, Mrg l o ∧ Fits o
def Out (l : List S37) (r : List S37 × Int) : Prop := (r = ([], 41) ∧ ¬ Good l) ∨ (∃ o, r = (o, 0) ∧ Mrg l o ∧ Fits o ∧ l ≠ [] ∧ AllB l)
theorem line_rng {x : S37} (h : lineB x = true) : lab x.f0 = true ∧ (1 ≤ x.f1 ∧ x.f1 ≤ 1000) ∧ (0 ≤ x.f2 ∧ x.f2 ≤ 100000) := by
  simp only [lineB, Bool.and_eq_true, decide_eq_true_eq] at h
  exact ⟨h.1, ⟨h.2.1, h.2.2.1⟩, ⟨h.2.2.2.1, h.2.2.2.2⟩⟩
theorem all_nn {l : List S37} (h : AllB l) : ∀ x ∈ l, 0 ≤ x.f1 := fun x hx => by have := (line_rng (h x hx)).2.1; omega
theorem rise_of (o : List S37) (hu : Up o) (hb : AllB o) : ∀ (d i : Nat), i + d = o.length → rise o d i = true := by
  intro d
  induction d with
  | zero => intro i _; rfl
  | succ d ih =>
    intro i h
    have h1 : i < o.length := by omega
    rw [rise, dif_pos h1, hb _ (List.getElem_mem h1), ih (i + 1) (by omega), Bool.true_and, Bool.and_true]
    by_cases c : 0 < i
    · rw [dif_pos c]
      exact decide_eq_true (List.pairwise_iff_getElem.1 hu (i - 1) i (by omega) h1 (by omega))
    · rw [dif_neg c]
theorem mrg_lines {l o : List S37} (h : Mrg l o) (hf : Fits o) (hb : AllB l) (hn : l ≠ []) : linesB o = true := by
  have ho : AllB o := by
    intro z hz
    obtain ⟨⟨x, hx, e⟩, q⟩ := h.2.1 z hz
    obtain ⟨w, hw, w1, w2⟩ := h.2.2 x hx
    have ew := up_key h.1 hz hw (by rw [w1, e])
    obtain ⟨r1, r2, r3⟩ := line_rng (hb x hx)
    have g := qs_ge l x hx (all_nn hb)
    have z1 := hf.2 z hz
    rw [e, ← q] at g
    rw [← ew] at w2
    simp only [lineB, Bool.and_eq_true, decide_eq_true_eq]
    exact ⟨by rw [← e]; exact r1, by omega, by omega, by omega, by omega⟩
  have h1 : 1 ≤ o.length := by
    cases l with
    | nil => exact absurd rfl hn
    | cons x t =>
      obtain ⟨w, hw, _⟩ := h.2.2 x (by simp)
      exact List.length_pos_of_mem hw
  unfold linesB
  rw [rise_of o h.1 ho o.length 0 (by omega), decide_eq_true ⟨h1, hf.1⟩]; rfl
theorem bad_wt {l p o : List S37} (h : Mrg p o) (hp : ∀ y ∈ p, y ∈ l) {z x : S37} (hz : z ∈ o) (hx : x ∈ l) (e : z.f0 = x.f0) (w : z.f2 ≠ x.f2) : ¬ Good l := by
  rintro ⟨_, _, o2, h2, _⟩
  obtain ⟨⟨y, hy, ey⟩, _⟩ := h.2.1 z hz
  obtain ⟨v, hv, v1, v2⟩ := h.2.2 y hy
  have := up_key h.1 hz hv (by rw [v1, ey])
  subst this
  exact w (by rw [v2]; exact mrg_wt h2 (hp y hy) hx (by rw [ey, e]))
theorem bad_qty {l : List S37} {x : S37} (hx : x ∈ l) (h : 1000 < qs l x.f0) : ¬ Good l := by
  rintro ⟨_, _, o2, h2, f2⟩
  obtain ⟨w, hw, w1, _⟩ := h2.2.2 x hx
  have := (h2.2.1 w hw).2
  have := f2.2 w hw
  rw [w1] at *
  omega
theorem bad_len {l p o : List S37} (h : Mrg p o) (hp : ∀ y ∈ p, y ∈ l) (hl : 8 < o.length) : ¬ Good l := by
  rintro ⟨_, _, o2, h2, f2⟩
  have := mrg_len hp h h2
  have := f2.1
  omega
theorem idx_l (l : List S37) (hb : l.length ≤ 9223372036854775806) (hs : ∀ x ∈ l, x.f0.size ≤ 140737488351232) (d : Nat) : ∀ i : Nat, i + d = l.length →
    ∃ v : Int, Ev (fun k => api_Line_33.l0 k l (l.length : Int) (i : Int)) v ∧ (v ≥ 0 ↔ ∃ x ∈ l.drop i, lineB x = false) := by
  induction d with
  | zero =>
    intro i h
    refine ⟨-1, Ev.step (f := fun _ => some (-1)) (fun k => by rw [api_Line_33.l0, if_neg (by omega)]) (Ev.now _), ?_⟩
    rw [List.drop_of_length_le (by omega)]
    simp
  | succ d ih =>
    intro i h
    have h1 : i < l.length := by omega
    obtain ⟨v, hv, iff⟩ := ih (i + 1) (by omega)
    have one := one_eq l[i] (hs _ (List.getElem_mem h1))
    have st : ∀ r, Ev (fun k => (some (!lineB l[i])).bind fun t123 => (if t123 = true then (some (i : Int)) else (api_Line_33.l0 k l (l.length : Int) (wrap64 ((i : Int) + 1))))) r → Ev (fun k => api_Line_33.l0 k l (l.length : Int) (i : Int)) r := fun r hr => by
      refine Ev.step (fun k => ?_) hr
      rw [api_Line_33.l0, if_pos (by omega), if_pos (by omega), if_pos (by omega), rd_37 l i h1]
      unfold lines_Merge_1.f
      rw [one]; rfl
    rw [List.drop_eq_getElem_cons h1]
    cases c : lineB l[i]
    · refine ⟨i, st _ (Ev.bindc rfl (Ev.ifp (by rw [c]; rfl) (Ev.now _))), ⟨fun _ => ⟨l[i], List.mem_cons_self .., c⟩, fun _ => by omega⟩⟩
    · refine ⟨v, st _ (Ev.bindc rfl (Ev.ifn (by rw [c]; decide) (by rw [w64 (x := (i : Int) + 1) (by omega) (by omega)]; exact hv))), ?_⟩
      rw [iff]
      constructor
      · rintro ⟨x, hx, q⟩; exact ⟨x, List.mem_cons_of_mem _ hx, q⟩
      · rintro ⟨x, hx, q⟩
        rcases List.mem_cons.1 hx with e | e
        · rw [e, c] at q; exact absurd q (by decide)
        · exact ⟨x, e, q⟩
theorem has_bad (l : List S37) (hb : l.length ≤ 9223372036854775806) (hs : ∀ x ∈ l, x.f0.size ≤ 140737488351232) : (AllB l ∧ Ev (fun k => api_Line_22.f k l 23) false) ∨ (¬ AllB l ∧ Ev (fun k => api_Line_22.f k l 23) true) := by
  obtain ⟨v, hv, iff⟩ := idx_l l hb hs l.length 0 (by omega)
  rw [List.drop_zero] at iff
  have run : Ev (fun k => api_Line_22.f k l 23) (decide (v ≥ 0)) := by
    unfold api_Line_22.f api_Line_33.f
    exact Ev.bind hv (Ev.now _)
  by_cases c : v ≥ 0
  · rw [decide_eq_true c] at run
    obtain ⟨x, hx, q⟩ := iff.1 c
    exact .inr ⟨fun h => by rw [h x hx] at q; exact absurd q (by decide), run⟩
  · rw [decide_eq_false c] at run
    refine .inl ⟨fun x hx => ?_, run⟩
    cases q : lineB x
    · exact absurd (iff.2 ⟨x, hx, q⟩) c
    · rfl
section
variable (l : List S37) (hb : l.length ≤ 1000) (hs : ∀ x ∈ l, x.f0.size ≤ 140737488351232) (ha : AllB l)
include hb hs ha
theorem mrg_l (d : Nat) : ∀ (i : Nat) (o : List S37), i + d = l.length → Mrg (l.take i) o → Fits o → ∃ r, Ev (fun k => lines_Merge.l0 k o l (l.length : Int) (i : Int)) r ∧ Out l r := by
  induction d with
  | zero =>
    intro i o h hm hf
    rw [List.take_of_length_le (by omega)] at hm
    have R : Ev (fun k => lines_Right.f k o) (linesB o) := lines_eq o (by have := hf.1; omega) (fun z hz => by
      obtain ⟨⟨x, hx, e⟩, _⟩ := hm.2.1 z hz
      rw [← e]; exact hs x hx)
    have st : ∀ r, Ev (fun k => (lines_Right.f k o).bind fun t146 => (if t146 = true then (some (o, (0 : Int))) else (some (([] : List S37), 41)))) r → Ev (fun k => lines_Merge.l0 k o l (l.length : Int) (i : Int)) r := fun r hr => by
      refine Ev.step (fun k => ?_) hr
      rw [lines_Merge.l0, if_neg (by omega)]
    by_cases hn : l = []
    · have ho : o = [] := by
        cases o with
        | nil => rfl
        | cons z t =>
          obtain ⟨⟨x, hx, _⟩, _⟩ := hm.2.1 z (by simp)
          rw [hn] at hx; exact absurd hx (by simp)
      subst ho
      have e0 : linesB [] = false := by decide
      rw [e0] at R
      exact ⟨_, st _ (Ev.bind R (Ev.ifn (by decide) (Ev.now _))), .inl ⟨rfl, fun g => g.1 hn⟩⟩
    · rw [mrg_lines hm hf ha hn] at R
      exact ⟨_, st _ (Ev.bind R (Ev.ifp rfl (Ev.now _))), .inr ⟨o, rfl, hm, hf, hn, ha⟩⟩
  | succ d ih =>
    intro i o h hm hf
    have h1 : i < l.length := by omega
    have hx := List.getElem_mem h1
    have htk : l.take (i + 1) = l.take i ++ [l[i]] := by rw [List.take_succ_eq_append_getElem h1]
    have hsub : ∀ y ∈ l.take i, y ∈ l := fun y hy => List.mem_of_mem_take hy
    have hsub1 : ∀ y ∈ l.take i ++ [l[i]], y ∈ l := fun y hy => by rw [← htk] at hy; exact List.mem_of_mem_take hy
    have w1 : wrap64 ((i : Int) + 1) = ((i + 1 : Nat) : Int) := by rw [w64 (by omega) (by omega)]; omega
    have rx := line_rng (ha _ hx)
    have hol := hf.1
    obtain ⟨A, B, hoAB, hAl, hA, hB⟩ := cutL l[i].f0 o hm.1
    have P := place_eq o l[i] hm.1 (by omega)
    have fail : ∀ (X : Prop), ¬ Good l → ∃ r, Ev (fun _ => some (([] : List S37), (41 : Int))) r ∧ Out l r := fun _ g => ⟨_, Ev.now _, .inl ⟨rfl, g⟩⟩
    have st : ∀ r, Ev (fun k => lines_Merge.j1 k o (pl o l[i].f0 : Int) (hitL o l[i].f0) l (l.length : Int) (i : Int) (if hitL o l[i].f0 = true then false else ((o.length : Int) == 8)) l[i].f0 l[i].f1 l[i].f2) r → Ev (fun k => lines_Merge.l0 k o l (l.length : Int) (i : Int)) r := fun r hr => by
      refine Ev.step (fun k => by rw [lines_Merge.l0, if_pos (by omega), if_pos (by omega), if_pos (by omega), rd_37 l i h1]) (Ev.bind P ?_)
      cases q : hitL o l[i].f0
      · rw [q] at hr; rw [if_neg (by decide)] at hr; exact Ev.ifn (by simp) hr
      · rw [q] at hr; rw [if_pos rfl] at hr; exact Ev.ifp (by simp) hr
    rcases hB with ⟨ht, z, B', hBz, ez⟩ | ⟨hn, hB⟩
    · rw [ht, if_pos rfl] at st
      subst hBz
      have hz : z ∈ o := by rw [hoAB]; simp
      have hzr : rd_T37 o (pl o l[i].f0 : Int) = z := by
        have hlt : A.length < o.length := by rw [hoAB]; simp
        rw [← hAl, rd_37 o A.length hlt]
        have : ∀ (E : List S37) (h : A.length < E.length), E = A ++ z :: B' → E[A.length] = z := by intro E h q; subst q; simp
        exact this o hlt hoAB
      have hpl : pl o l[i].f0 < o.length := by rw [← hAl, hoAB]; simp
      have qz : z.f1 = qs (l.take i) z.f0 := (hm.2.1 z hz).2
      have z0 : 0 ≤ z.f1 := by rw [qz]; exact qs_nonneg _ _ (fun y hy => all_nn ha y (hsub y hy))
      have z1 := hf.2 z hz
      have st2 : ∀ r, Ev (fun k => if z.f2 = l[i].f2 then (if wrap64 (z.f1 + l[i].f1) > 1000 then (some (([] : List S37), (41 : Int))) else (lines_Merge.l0 k (o.set (pl o l[i].f0 : Int).toNat (⟨z.f0, wrap64 (z.f1 + l[i].f1), z.f2⟩ : S37)) l (l.length : Int) (wrap64 ((i : Int) + 1)))) else (some (([] : List S37), 41))) r → Ev (fun k => lines_Merge.l0 k o l (l.length : Int) (i : Int)) r := fun r hr => by
        refine st r (Ev.step (fun k => ?_) hr)
        rw [lines_Merge.j1, if_neg (by decide), if_pos rfl, if_pos (by omega), if_pos (by omega), hzr]
      have ww : wrap64 (z.f1 + l[i].f1) = z.f1 + l[i].f1 := w64 (by omega) (by omega)
      rw [ww, w1] at st2
      by_cases cw : z.f2 = l[i].f2
      rotate_left
      · obtain ⟨r, hr, ho⟩ := fail True (bad_wt hm hsub hz hx ez cw)
        exact ⟨r, st2 r (Ev.ifn cw hr), ho⟩
      by_cases cq : z.f1 + l[i].f1 > 1000
      · have big : 1000 < qs l l[i].f0 := by
          have := qs_nonneg (l.drop (i + 1)) l[i].f0 (fun y hy => all_nn ha y (List.mem_of_mem_drop hy))
          have e2 : ∀ k, qs l k = qs (l.take i) k + ((if l[i].f0 = k then l[i].f1 else 0) + qs (l.drop (i + 1)) k) := fun k => by
            rw [← qs_cons, ← List.drop_eq_getElem_cons h1, ← qs_append, List.take_append_drop]
          rw [e2, if_pos rfl]
          rw [ez] at qz
          rw [← qz]
          omega
        obtain ⟨r, hr, ho⟩ := fail True (bad_qty hx big)
        exact ⟨r, st2 r (Ev.ifp cw (Ev.ifp cq hr)), ho⟩
      have hm2 := mrg_more (A := A) (B := B') (z := z) (x := l[i]) (by rw [← hoAB]; exact hm) ez cw
      rw [← htk] at hm2
      have hset : o.set (pl o l[i].f0 : Int).toNat (⟨z.f0, z.f1 + l[i].f1, z.f2⟩ : S37) = A ++ (⟨z.f0, z.f1 + l[i].f1, z.f2⟩ : S37) :: B' := by
        rw [Int.toNat_natCast, ← hAl]
        have : ∀ (E : List S37) (u : S37), E = A ++ z :: B' → E.set A.length u = A ++ u :: B' := by intro E u q; subst q; simp
        exact this o _ hoAB
      obtain ⟨r, hr, ho⟩ := ih (i + 1) _ (by omega) hm2 ⟨by rw [List.length_append, List.length_cons]; rw [hoAB, List.length_append, List.length_cons] at hol; exact hol, fun y hy => by
        rcases List.mem_append.1 hy with q | q
        · exact hf.2 y (by rw [hoAB]; exact List.mem_append_left _ q)
        · rcases List.mem_cons.1 q with q | q
          · rw [q]; simp only; omega
          · exact hf.2 y (by rw [hoAB]; exact List.mem_append_right _ (List.mem_cons_of_mem _ q))⟩
      rw [← hset] at hr
      exact ⟨r, st2 r (Ev.ifp cw (Ev.ifn cq hr)), ho⟩
    · rw [hn, if_neg (by decide)] at st
      have hm2 := mrg_new (x := l[i]) (by rw [← hoAB]; exact hm) hA hB
      have hlen : (A ++ l[i] :: B).length = o.length + 1 := by rw [hoAB]; simp; omega
      by_cases c8 : o.length = 8
      · obtain ⟨r, hr, ho⟩ := fail True (bad_len hm2 hsub1 (by omega))
        refine ⟨r, st r (Ev.step (f := fun _ => some (([] : List S37), (41 : Int))) (fun k => ?_) hr), ho⟩
        rw [lines_Merge.j1, if_pos (by simp [c8])]
      · have hins : ins o (pl o l[i].f0 : Int) l[i] = A ++ l[i] :: B := by
          unfold ins
          rw [Int.toNat_natCast, ← hAl]
          have : ∀ (E : List S37), E = A ++ B → E.take A.length ++ l[i] :: E.drop A.length = A ++ l[i] :: B := by intro E q; subst q; simp
          exact this o hoAB
        rw [← htk] at hm2
        obtain ⟨r, hr, ho⟩ := ih (i + 1) _ (by omega) hm2 ⟨by omega, fun y hy => by
          rcases List.mem_append.1 hy with q | q
          · exact hf.2 y (by rw [hoAB]; exact List.mem_append_left _ q)
          · rcases List.mem_cons.1 q with q | q
            · rw [q]; omega
            · exact hf.2 y (by rw [hoAB]; exact List.mem_append_right _ q)⟩
        rw [← hins] at hr
        have hpl := pl_le l[i].f0 o
        refine ⟨r, st r (Ev.step (fun k => ?_) hr), ho⟩
        rw [lines_Merge.j1, if_neg (by simpa using fun q : (o.length : Int) = 8 => c8 (by omega)), if_neg (by decide), if_pos ⟨by omega, by omega, by omega⟩, w1]
end
theorem mrg_go (l : List S37) (hb : l.length ≤ 1000) (hs : ∀ x ∈ l, x.f0.size ≤ 140737488351232) : ∃ r, Ev (fun k => lines_Merge.f k l) r ∧ Out l r := by
  unfold lines_Merge.f
  rcases has_bad l (by omega) hs with ⟨ha, hv⟩ | ⟨ha, hv⟩
  · obtain ⟨r, hr, ho⟩ := mrg_l l hb hs ha l.length 0 [] (by omega) (by rw [List.take_zero]; exact mrg_nil) ⟨by simp, fun z hz => absurd hz (by simp)⟩
    exact ⟨r, Ev.bind hv (Ev.ifn (by decide) hr), ho⟩
  · exact ⟨_, Ev.bind hv (Ev.ifp rfl (Ev.now _)), .inl ⟨rfl, fun g => ha g.2.1⟩⟩
end Go.Proofs.YtalcopjlofbfaaaDoor.Pure
