
import Derived.Test.YtalcopjlofbfaaaDoorQLinesNamesTakLaw
set_option linter.unusedVariables false
namespace Go.Proofs.YtalcopjlofbfaaaDoor.Pure
open Go.RowKit Go.Proofs.YtalcopjlofbfaaaDoor Go.Proofs.YtalcopjlofbfaaaDoor.PAll Go.Proofs.YtalcopjlofbfaaaDoorW.PrintWords Go.Proofs.YtalcopjlofbfaaaDoorW.PrintLast Go.Proofs.YtalcopjlofbfaaaDoorW.PrintMore Go.Lib
theorem alive : Ev (fun k => packhorselaw04_linesAlive.f k) true := Ev.of (packhorselaw04_linesAlive.mono ·) (k := 60) (by decide +kernel)
theorem out_uniq {l : List S37} {r r' : List S37 × Int} (h : Out l r) (h' : Out l r') : r = r' := by
  rcases h with ⟨e, g⟩ | ⟨o, e, hm, hf, hn, ha⟩ <;> rcases h' with ⟨e', g'⟩ | ⟨o', e', hm', hf', hn', ha'⟩
  · rw [e, e']
  · exact absurd ⟨hn', ha', o', hm', hf'⟩ g
  · exact absurd ⟨hn, ha, o, hm, hf⟩ g'
  · rw [e, e', mrg_uniq hm hm']
theorem qs_rev (l : List S37) (k : ByteArray) : qs l.reverse k = qs l k := by
  induction l with
  | nil => rfl
  | cons x t ih => rw [List.reverse_cons, qs_append, qs_one, qs_cons, ih]; omega
theorem mrg_rev {l o : List S37} (h : Mrg l.reverse o) : Mrg l o := by
  refine ⟨h.1, fun z hz => ?_, fun x hx => h.2.2 x (List.mem_reverse.2 hx)⟩
  obtain ⟨⟨x, hx, e⟩, q⟩ := h.2.1 z hz
  exact ⟨⟨x, List.mem_reverse.1 hx, e⟩, by rw [q, qs_rev]⟩
theorem out_rev {l : List S37} {r : List S37 × Int} (h : Out l.reverse r) : Out l r := by
  rcases h with ⟨e, g⟩ | ⟨o, e, hm, hf, hn, ha⟩
  · refine .inl ⟨e, fun ⟨hn, ha, o, hm, hf⟩ => g ⟨by simpa using hn, fun x hx => ha x (List.mem_reverse.1 hx), o, mrg_rev (by rw [List.reverse_reverse]; exact hm), hf⟩⟩
  · exact .inr ⟨o, e, mrg_rev hm, hf, by simpa using hn, fun x hx => ha x (List.mem_reverse.2 hx)⟩
theorem qs_up {o : List S37} (hu : Up o) {z : S37} (hz : z ∈ o) : qs o z.f0 = z.f1 := by
  induction o with
  | nil => exact absurd hz (by simp)
  | cons x t ih =>
    have hp := List.pairwise_cons.1 hu
    rw [qs_cons]
    rcases List.mem_cons.1 hz with q | q
    · rw [q, if_pos rfl, qs_none t x.f0 (fun y hy e => by have := hp.1 y hy; rw [e] at this; exact lt_irr _ this)]; omega
    · rw [if_neg (fun e => by have := hp.1 z q; rw [e] at this; exact lt_irr _ this), ih hp.2 q]; omega
theorem left_mem {A B : List S37} {x : S37} {q : Int} {y : S37} (hy : y ∈ left A x B q) : ∃ z ∈ A ++ x :: B, z.f0 = y.f0 ∧ z.f2 = y.f2 := by
  unfold left at hy
  split at hy
  · rcases List.mem_append.1 hy with g | g
    · exact ⟨y, by simp [g], rfl, rfl⟩
    · exact ⟨y, by simp [g], rfl, rfl⟩
  · rcases List.mem_append.1 hy with g | g
    · exact ⟨y, by simp [g], rfl, rfl⟩
    · rcases List.mem_cons.1 g with g | g
      · exact ⟨x, by simp, by rw [g], by rw [g]⟩
      · exact ⟨y, by simp [g], rfl, rfl⟩
theorem left_qs (A B : List S37) (x : S37) (q : Int) (k : ByteArray) : qs (left A x B q) k = qs (A ++ x :: B) k - (if x.f0 = k then q else 0) := by
  unfold left
  by_cases c : x.f1 - q = 0
  · rw [if_pos c, qs_append, qs_append, qs_cons]
    by_cases e : x.f0 = k
    · rw [if_pos e, if_pos e]; omega
    · rw [if_neg e, if_neg e]; omega
  · rw [if_neg c, qs_append, qs_append, qs_cons, qs_cons]
    by_cases e : x.f0 = k
    · rw [if_pos e, if_pos e, if_pos e]; simp only; omega
    · rw [if_neg e, if_neg e, if_neg e]; omega
theorem mrg_back {A B : List S37} {x : S37} {q : Int} (hu : Up (A ++ x :: B)) : Mrg (left A x B q ++ [(⟨x.f0, q, x.f2⟩ : S37)]) (A ++ x :: B) := by
  refine ⟨hu, fun z hz => ?_, fun y hy => ?_⟩
  · refine ⟨?_, ?_⟩
    · by_cases e : z.f0 = x.f0
      · exact ⟨_, List.mem_append_right _ (List.mem_singleton.2 rfl), e.symm⟩
      · have hne : z ≠ x := fun g => e (by rw [g])
        have : z ∈ left A x B q := by
          unfold left
          rcases List.mem_append.1 hz with g | g
          · split
            · exact List.mem_append_left _ g
            · exact List.mem_append_left _ g
          · rcases List.mem_cons.1 g with g | g
            · exact absurd g hne
            · split
              · exact List.mem_append_right _ g
              · exact List.mem_append_right _ (List.mem_cons_of_mem _ g)
        exact ⟨z, List.mem_append_left _ this, rfl⟩
    · rw [qs_append, qs_one, left_qs, qs_up hu hz]; simp only; omega
  · rcases List.mem_append.1 hy with g | g
    · obtain ⟨z, hz, z1, z2⟩ := left_mem g
      exact ⟨z, hz, z1, z2⟩
    · rw [List.mem_singleton.1 g]
      exact ⟨x, by simp, rfl, rfl⟩
theorem back_j (o : List S37) (at_ q : Int) (hq : (Lit.int .i64 q).wf = true) (hu : Up o) (ha : AllB o) (hf : Fits o) (h0 : o ≠ []) (hs : ∀ x ∈ o, x.f0.size ≤ 140737488351232) : Ev (fun k => packhorselaw04_LinesBack.j1 k at_ q o 0 false) true := by
  have h8 := hf.1
  have h1 := List.length_pos_iff.2 h0
  have hl : linesB o = true := linesB_of hu ha h1 h8
  obtain ⟨j, hj, hjl⟩ : ∃ j : Nat, mx 0 (mn at_ (wrap64 ((o.length : Int) - 1))) = (j : Int) ∧ j < o.length := by
    rw [w64 (x := (o.length : Int) - 1) (by omega) (by omega)]
    have : 0 ≤ mx 0 (mn at_ ((o.length : Int) - 1)) ∧ mx 0 (mn at_ ((o.length : Int) - 1)) < (o.length : Int) := by unfold mx mn; split <;> split <;> omega
    exact ⟨(mx 0 (mn at_ ((o.length : Int) - 1))).toNat, by omega, by omega⟩
  refine Ev.step (fun k => by rw [packhorselaw04_LinesBack.j1, if_neg (by decide), if_pos rfl, hj, if_pos (by omega), if_pos (by omega), rd_37 o j hjl]) ?_
  have hx := List.getElem_mem hjl
  generalize hxe : o[j] = y at *
  have ry := line_rngs (ha y hx)
  have ly := line_rng (ha y hx)
  obtain ⟨A, B, e, hA, hB⟩ := up_cut hu hx
  rcases take_eq o y.f0 q (by omega) hs with ⟨A', x, B', e', ex, _, g1, g2, hne, hlb2, hr⟩ | ⟨hno, hr⟩
  rotate_left
  · refine Ev.bind hr (Ev.ifn (by decide) (Ev.ifp (by simp) ?_))
    by_cases c1 : q < 1
    · exact Ev.ifp c1 (Ev.now _)
    refine Ev.ifn c1 ?_
    by_cases c2 : q > y.f1
    · exact Ev.ifp c2 (Ev.now _)
    refine Ev.ifn c2 ?_
    have hle := hno A y B e rfl hl (by omega) (by omega)
    unfold left at hle
    by_cases c3 : y.f1 - q = 0
    · rw [if_pos c3] at hle
      have hlen : o.length = 1 := by
        have := congrArg List.length hle
        rw [List.length_append, List.length_nil] at this
        rw [e, List.length_append, List.length_cons]; omega
      refine Ev.ifp (by omega) ?_
      rw [show (q == y.f1) = true from by simp; omega]
      exact Ev.now _
    · rw [if_neg c3] at hle; exact absurd hle (by simp)
  have hxy : x = y := up_key hu (by rw [e']; simp) hx ex
  subst hxy
  have hos : ∀ z ∈ left A' x B' q, z.f0.size ≤ 140737488351232 := fun z hz => by
    obtain ⟨w, hw, w1, _⟩ := left_mem hz
    rw [← w1]; exact hs w (by rw [e']; exact hw)
  obtain ⟨lone, ll1, ll8⟩ := linesB_one hlb2
  have hm : Mrg (left A' x B' q ++ [(⟨x.f0, q, x.f2⟩ : S37)]) o := by rw [e']; exact mrg_back (by rw [← e']; exact hu)
  have hall : AllB (left A' x B' q ++ [(⟨x.f0, q, x.f2⟩ : S37)]) := by
    intro z hz
    rcases List.mem_append.1 hz with g | g
    · exact lone z g
    · rw [List.mem_singleton.1 g]
      simp only [lineB, Bool.and_eq_true, decide_eq_true_eq]
      exact ⟨ly.1, by omega, by omega, by omega, by omega⟩
  obtain ⟨r, hr2, ho⟩ := mrg_go (left A' x B' q ++ [(⟨x.f0, q, x.f2⟩ : S37)]) (by rw [List.length_append, List.length_singleton]; omega) (fun z hz => by
    rcases List.mem_append.1 hz with g | g
    · exact hos z g
    · rw [List.mem_singleton.1 g]; exact hs x hx)
  have er : r = (o, 0) := out_uniq ho (.inr ⟨o, rfl, hm, hf, by simp, hall⟩)
  rw [er] at hr2
  have P := pieces_eq hl hs
  have W := weight_eq hl hs
  have P2 := pieces_eq hlb2 hos
  have W2 := weight_eq hlb2 hos
  rw [left_pcs, ← e'] at P2
  rw [left_wgt, ← e'] at W2
  have pl := pcs_rng o ha
  have wl := wgt_rng o ha
  have q2 : q * x.f2 ≤ 1000 * 100000 := Int.mul_le_mul (by omega) ry.2.1.2 ry.2.1.1 (by omega)
  have q3 : 0 ≤ q * x.f2 := Int.mul_nonneg (by omega) ry.2.1.1
  have S := ref_equal_eq o o (by omega)
  rw [decide_eq_true rfl] at S
  refine Ev.bind hr (Ev.ifp rfl (Ev.bindc (a := []) rfl (Ev.ifp (by simp; omega) (Ev.bindc (a := left A' x B' q) (by rw [List.nil_append]) (Ev.bindc (a := [(⟨x.f0, q, x.f2⟩ : S37)]) rfl (Ev.ifp (by simp; omega) ?_))))))
  refine Ev.bind hr2 (Ev.ifp rfl (Ev.bind S (Ev.ifp rfl (Ev.bind P2 (Ev.bind P (Ev.ifp ?_ (Ev.bind W2 (Ev.bind W ?_))))))))
  · rw [w64 (by omega) (by omega)]; omega
  · rw [w64 (x := q * x.f2) (by omega) (by omega), w64 (by omega) (by omega), show (wgt o - q * x.f2 + q * x.f2 == wgt o) = true from by simp]
    exact Ev.now _
theorem back_l (l : List S37) (at_ q : Int) (hq : (Lit.int .i64 q).wf = true) (hb : l.length ≤ 50) (hs : ∀ x ∈ l, x.f0.size ≤ 140737488351232) (n : Nat) : n ≤ l.length → Ev (fun k => packhorselaw04_LinesBack.l0 k l at_ q ((l.drop n).reverse) ((n : Int) - 1)) true := by
  induction n with
  | zero =>
    intro _
    refine Ev.step (fun k => by rw [packhorselaw04_LinesBack.l0, if_neg (by omega)]) ?_
    rw [List.drop_zero]
    obtain ⟨r, hr, ho⟩ := mrg_go l (by omega) hs
    obtain ⟨r', hr', ho'⟩ := mrg_go l.reverse (by simp; omega) (fun x hx => hs x (List.mem_reverse.1 hx))
    have e := out_uniq (out_rev ho') ho
    rw [e] at hr'
    have L : r.1.length ≤ 8 := by
      rcases ho with ⟨e, _⟩ | ⟨o, e, _, hf, _⟩
      · rw [e]; simp
      · rw [e]; exact hf.1
    have S := ref_equal_eq r.1 r.1 (by omega)
    rw [decide_eq_true rfl] at S
    refine Ev.bind hr (Ev.bind hr' (Ev.ifp rfl (Ev.bind S ?_)))
    rcases ho with ⟨e, _⟩ | ⟨o, e, hm, hf, hn, ha⟩
    · rw [e]
      exact Ev.step (f := fun _ => some true) (fun k => by rw [packhorselaw04_LinesBack.j1, if_neg (by decide), if_neg (by decide)]; rfl) (Ev.now _)
    · rw [e]
      have ho1 : o ≠ [] := by
        rintro rfl
        cases l with
        | nil => exact hn rfl
        | cons x t => obtain ⟨w, hw, _⟩ := hm.2.2 x (by simp); exact absurd hw (by simp)
      have hao : AllB o := by
        have := mrg_lines hm hf ha hn
        exact (linesB_one this).1
      exact back_j o at_ q hq hm.1 hao hf ho1 (fun z hz => by
        obtain ⟨⟨x, hx, e⟩, _⟩ := hm.2.1 z hz
        rw [← e]; exact hs x hx)
  | succ n ih =>
    intro hn
    have h1 : n < l.length := by omega
    have e0 : ((n + 1 : Nat) : Int) - 1 = (n : Int) := by omega
    rw [e0]
    refine Ev.step (fun k => by rw [packhorselaw04_LinesBack.l0, if_pos (by omega), if_pos (by omega), if_pos (by omega), rd_37 l n h1]) ?_
    refine Ev.bindc (a := [l[n]]) rfl (Ev.ifp (by simp; omega) ?_)
    rw [w64 (x := (n : Int) - 1) (by omega) (by omega)]
    have := ih (by omega)
    rw [List.drop_eq_getElem_cons h1, List.reverse_cons] at this
    exact this
theorem LinesBack : packhorselaw04_LinesBack.PureQ := by
  intro l at_ q hl _ hq
  have hs : ∀ x ∈ l, x.f0.size ≤ 140737488351232 := fun x hx => (hl.2 x hx).1
  refine Ev.rounds (g := fun k => packhorselaw04_LinesBack.f k l at_ q) ?_
  unfold packhorselaw04_LinesBack.f
  refine Ev.bind alive (Ev.ifp rfl ?_)
  by_cases c : (l.length : Int) > 50
  · exact Ev.ifp c (Ev.now _)
  refine Ev.ifn c ?_
  rw [w64 (x := (l.length : Int) - 1) (by omega) (by omega)]
  have := back_l l at_ q hq (by omega) hs l.length (by omega)
  rw [List.drop_length] at this
  exact this
end Go.Proofs.YtalcopjlofbfaaaDoor.Pure
