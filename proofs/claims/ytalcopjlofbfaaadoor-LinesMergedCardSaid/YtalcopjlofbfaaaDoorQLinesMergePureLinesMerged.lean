
import Derived.Test.YtalcopjlofbfaaaDoorQLinesMergeMrgRef
namespace Go.Proofs.YtalcopjlofbfaaaDoor.Pure
open Go.RowKit Go.Proofs.YtalcopjlofbfaaaDoor Go.Proofs.YtalcopjlofbfaaaDoor.PAll Go.Proofs.YtalcopjlofbfaaaDoorW.PrintWords Go.Proofs.YtalcopjlofbfaaaDoorW.PrintLast Go.Proofs.YtalcopjlofbfaaaDoorW.PrintMore Go.Lib
theorem alive : Ev (fun k => packhorselaw04_linesAlive.f k) true := Ev.of (packhorselaw04_linesAlive.mono ·) (k := 60) (by decide +kernel)
theorem mrg_allB {l o : List S37} (h : Mrg l o) (hf : Fits o) (ha : AllB l) : AllB o := by
  intro z hz
  obtain ⟨⟨x, hx, e⟩, q⟩ := h.2.1 z hz
  obtain ⟨w, hw, w1, w2⟩ := h.2.2 x hx
  have ew := up_key h.1 hz hw (by rw [w1, e])
  obtain ⟨r1, r2, r3⟩ := line_rng (ha x hx)
  have g := qs_ge l x hx (all_nn ha)
  have z1 := hf.2 z hz
  rw [e, ← q] at g
  rw [← ew] at w2
  simp only [lineB, Bool.and_eq_true, decide_eq_true_eq]
  exact ⟨by rw [← e]; exact r1, by omega, by omega, by omega, by omega⟩
theorem qs_up {o : List S37} (hu : Up o) {z : S37} (hz : z ∈ o) : qs o z.f0 = z.f1 := by
  induction o with
  | nil => exact absurd hz (by simp)
  | cons x t ih =>
    have hp := List.pairwise_cons.1 hu
    rw [qs_cons]
    rcases List.mem_cons.1 hz with q | q
    · rw [q, if_pos rfl, qs_none t x.f0 (fun y hy e => by have := hp.1 y hy; rw [e] at this; exact lt_irr _ this)]; omega
    · rw [if_neg (fun e => by have := hp.1 z q; rw [e] at this; exact lt_irr _ this), ih hp.2 q]; omega
theorem mrg_self {o : List S37} (hu : Up o) : Mrg o o := ⟨hu, fun z hz => ⟨⟨z, hz, rfl⟩, (qs_up hu hz).symm⟩, fun x hx => ⟨x, hx, rfl, rfl⟩⟩
theorem mrg_key {l o : List S37} (h : Mrg l o) (k : ByteArray) : qs o k = qs l k := by
  by_cases c : ∃ z ∈ o, z.f0 = k
  · obtain ⟨z, hz, e⟩ := c
    rw [← e, qs_up h.1 hz, (h.2.1 z hz).2]
  · rw [qs_none o k (fun z hz e => c ⟨z, hz, e⟩), qs_none l k (fun x hx e => by
      obtain ⟨z, hz, z1, _⟩ := h.2.2 x hx
      exact c ⟨z, hz, by rw [z1, e]⟩)]
theorem mrg_two {p q a b o : List S37} (hp : Mrg p a) (hq : Mrg q b) (h : Mrg (p ++ q) o) : Mrg (a ++ b) o := by
  have wt : ∀ x y, x ∈ p ++ q → y ∈ p ++ q → x.f0 = y.f0 → x.f2 = y.f2 := fun x y hx hy e => mrg_wt h hx hy e
  have back : ∀ z ∈ a ++ b, ∃ x ∈ p ++ q, x.f0 = z.f0 ∧ x.f2 = z.f2 := by
    intro z hz
    rcases List.mem_append.1 hz with g | g
    · obtain ⟨⟨x, hx, e⟩, _⟩ := hp.2.1 z g
      obtain ⟨w, hw, w1, w2⟩ := hp.2.2 x hx
      have := up_key hp.1 g hw (by rw [w1, e])
      exact ⟨x, List.mem_append_left _ hx, e, by rw [this, w2]⟩
    · obtain ⟨⟨x, hx, e⟩, _⟩ := hq.2.1 z g
      obtain ⟨w, hw, w1, w2⟩ := hq.2.2 x hx
      have := up_key hq.1 g hw (by rw [w1, e])
      exact ⟨x, List.mem_append_right _ hx, e, by rw [this, w2]⟩
  refine ⟨h.1, fun z hz => ?_, fun z hz => ?_⟩
  · obtain ⟨⟨x, hx, e⟩, r⟩ := h.2.1 z hz
    refine ⟨?_, by rw [r, qs_append, qs_append, mrg_key hp, mrg_key hq]⟩
    rcases List.mem_append.1 hx with g | g
    · obtain ⟨w, hw, w1, _⟩ := hp.2.2 x g; exact ⟨w, List.mem_append_left _ hw, by rw [w1, e]⟩
    · obtain ⟨w, hw, w1, _⟩ := hq.2.2 x g; exact ⟨w, List.mem_append_right _ hw, by rw [w1, e]⟩
  · obtain ⟨x, hx, x1, x2⟩ := back z hz
    obtain ⟨w, hw, w1, w2⟩ := h.2.2 x hx
    exact ⟨w, hw, by rw [w1, x1], by rw [w2, x2]⟩
theorem part_good {p l : List S37} (hg : Good l) (hp : ∀ x ∈ p, x ∈ l) (hq : ∀ k, qs p k ≤ qs l k) (hb : p.length ≤ 1000) (hs : ∀ x ∈ p, x.f0.size ≤ 140737488351232) : ∃ r, Ev (fun k => lines_Merge.f k p) r ∧ ((p = [] ∧ r = ([], 41)) ∨ (p ≠ [] ∧ ∃ a, r = (a, 0) ∧ Mrg p a ∧ Fits a ∧ AllB p)) := by
  obtain ⟨r, hr, ho⟩ := mrg_go p hb hs
  refine ⟨r, hr, ?_⟩
  rcases ho with ⟨e, g⟩ | ⟨o, e, hm, hf, hn, ha⟩
  rotate_left
  · exact .inr ⟨hn, o, e, hm, hf, ha⟩
  by_cases hn : p = []
  · exact .inl ⟨hn, e⟩
  exfalso
  obtain ⟨_, ha, o2, h2, f2⟩ := hg
  have hap : AllB p := fun x hx => ha x (hp x hx)
  have hmp : Mrg p ((o2.filter fun z => decide (∃ x ∈ p, x.f0 = z.f0)).map fun z => (⟨z.f0, qs p z.f0, z.f2⟩ : S37)) := by
    refine ⟨?_, fun z hz => ?_, fun x hx => ?_⟩
    · refine List.pairwise_map.2 (List.Pairwise.imp (fun h => h) (List.Pairwise.filter _ h2.1))
    · obtain ⟨w, hw, e⟩ := List.mem_map.1 hz
      obtain ⟨_, w2⟩ := List.mem_filter.1 hw
      rw [← e]
      exact ⟨by simpa using w2, rfl⟩
    · obtain ⟨w, hw, w1, w2⟩ := h2.2.2 x (hp x hx)
      exact ⟨_, List.mem_map.2 ⟨w, List.mem_filter.2 ⟨hw, by simpa using ⟨x, hx, w1.symm⟩⟩, rfl⟩, w1, w2⟩
  refine g ⟨hn, hap, _, hmp, ?_, fun z hz => ?_⟩
  · rw [List.length_map]; exact Nat.le_trans (List.length_filter_le _ _) f2.1
  · obtain ⟨w, hw, e⟩ := List.mem_map.1 hz
    obtain ⟨hw1, _⟩ := List.mem_filter.1 hw
    rw [← e]
    have h1 := (h2.2.1 w hw1).2
    have h3 := f2.2 w hw1
    have h4 := hq w.f0
    simp only
    omega
theorem LinesMerged : packhorselaw04_LinesMerged.PureQ := by
  intro l a hl _
  have hs : ∀ x ∈ l, x.f0.size ≤ 140737488351232 := fun x hx => (hl.2 x hx).1
  refine Ev.rounds (g := fun k => packhorselaw04_LinesMerged.f k l a) ?_
  unfold packhorselaw04_LinesMerged.f
  refine Ev.bind alive (Ev.ifp rfl ?_)
  by_cases c : (l.length : Int) > 50
  · exact Ev.ifp c (Ev.now _)
  refine Ev.ifn c ?_
  obtain ⟨r, hr, ho⟩ := mrg_go l (by omega) hs
  refine Ev.bind hr ?_
  rcases ho with ⟨e, _⟩ | ⟨o, e, hm, hf, hn, ha⟩
  · rw [e]; exact Ev.ifn (by decide) (Ev.now _)
  rw [e]
  refine Ev.ifp rfl ?_
  have hg : Good l := ⟨hn, ha, o, hm, hf⟩
  have hos : ∀ z ∈ o, z.f0.size ≤ 140737488351232 := fun z hz => by
    obtain ⟨⟨x, hx, e⟩, _⟩ := hm.2.1 z hz
    rw [← e]; exact hs x hx
  have hao := mrg_allB hm hf ha
  have hl1 := List.length_pos_iff.2 hn
  have ho1 : o ≠ [] := by
    rintro rfl
    cases l with
    | nil => exact hn rfl
    | cons x t => obtain ⟨w, hw, _⟩ := hm.2.2 x (by simp); exact absurd hw (by simp)
  have hol := hf.1
  obtain ⟨r2, hr2, ho2⟩ := mrg_go o (by omega) hos
  have e2 : r2 = (o, 0) := by
    rcases ho2 with ⟨_, g⟩ | ⟨o', e', hm', _⟩
    · exact absurd ⟨ho1, hao, o, mrg_self hm.1, hf⟩ g
    · rw [e', mrg_uniq hm' (mrg_self hm.1)]
  rw [e2] at hr2
  refine Ev.bind hr2 ?_
  obtain ⟨j, hj, hjl⟩ : ∃ j : Nat, mx 0 (mn a (l.length : Int)) = (j : Int) ∧ j ≤ l.length := by
    have : 0 ≤ mx 0 (mn a (l.length : Int)) ∧ mx 0 (mn a (l.length : Int)) ≤ (l.length : Int) := by unfold mx mn; split <;> split <;> omega
    exact ⟨(mx 0 (mn a (l.length : Int))).toNat, by omega, by omega⟩
  rw [hj]
  refine Ev.ifp (by omega) (Ev.ifp (by omega) ?_)
  rw [Int.toNat_natCast]
  have split : l.take j ++ l.drop j = l := List.take_append_drop j l
  have nnT := fun k => qs_nonneg (l.take j) k (fun y hy => all_nn ha y (List.mem_of_mem_take hy))
  have nnD := fun k => qs_nonneg (l.drop j) k (fun y hy => all_nn ha y (List.mem_of_mem_drop hy))
  have qsum : ∀ k, qs l k = qs (l.take j) k + qs (l.drop j) k := fun k => by rw [← qs_append, split]
  obtain ⟨ra, hra, ca⟩ := part_good (p := l.take j) hg (fun x hx => List.mem_of_mem_take hx) (fun k => by rw [qsum k]; have := nnD k; omega) (by rw [List.length_take]; omega) (fun x hx => hs x (List.mem_of_mem_take hx))
  obtain ⟨rb, hrb, cb⟩ := part_good (p := l.drop j) hg (fun x hx => List.mem_of_mem_drop hx) (fun k => by rw [qsum k]; have := nnT k; omega) (by rw [List.length_drop]; omega) (fun x hx => hs x (List.mem_of_mem_drop hx))
  have S := ref_equal_eq o o (by omega)
  rw [decide_eq_true rfl] at S
  refine Ev.bind hra (Ev.bind hrb (Ev.ifp rfl (Ev.bind S (Ev.ifp rfl ?_))))
  have ea : (ra.2 != 0) = ((j : Int) == 0) := by
    rcases ca with ⟨h0, e⟩ | ⟨h0, x, e, _⟩
    · have : j = 0 := by have := congrArg List.length h0; rw [List.length_take, List.length_nil] at this; omega
      rw [e, this]; rfl
    · have : j ≠ 0 := by rintro rfl; exact h0 (by simp)
      rw [e, show ((j : Int) == 0) = false from by simpa using this]; rfl
  have eb : (rb.2 != 0) = ((j : Int) == (l.length : Int)) := by
    rcases cb with ⟨h0, e⟩ | ⟨h0, x, e, _⟩
    · have : j = l.length := by have := congrArg List.length h0; rw [List.length_drop, List.length_nil] at this; omega
      rw [e, this]; simp
    · have : j ≠ l.length := by rintro rfl; exact h0 (by simp)
      rw [e, show ((j : Int) == (l.length : Int)) = false from by simpa using fun q : (j : Int) = l.length => this (by omega)]; rfl
  rw [ea, eb, bne_self_eq_false, bne_self_eq_false]
  refine Ev.ifn (by decide) ?_
  have parts : ∃ A B, ra.1 = A ∧ rb.1 = B ∧ Mrg (l.take j) A ∧ Mrg (l.drop j) B ∧ AllB A ∧ AllB B ∧ A.length ≤ 8 ∧ B.length ≤ 8 := by
    have one : ∀ {p : List S37} {q : List S37 × Int}, ((p = [] ∧ q = ([], 41)) ∨ (p ≠ [] ∧ ∃ a, q = (a, 0) ∧ Mrg p a ∧ Fits a ∧ AllB p)) → Mrg p q.1 ∧ AllB q.1 ∧ q.1.length ≤ 8 := by
      intro p q h
      rcases h with ⟨h0, e⟩ | ⟨_, x, e, m, f, g⟩
      · rw [e, h0]; exact ⟨mrg_nil, fun x hx => absurd hx (by simp), by simp⟩
      · rw [e]; exact ⟨m, mrg_allB m f g, f.1⟩
    obtain ⟨m1, m2, m3⟩ := one ca
    obtain ⟨n1, n2, n3⟩ := one cb
    exact ⟨_, _, rfl, rfl, m1, n1, m2, n2, m3, n3⟩
  obtain ⟨A, B, eA, eB, mA, mB, bA, bB, lA, lB⟩ := parts
  have hAB : Mrg (A ++ B) o := mrg_two mA mB (by rw [split]; exact hm)
  have hABs : ∀ z ∈ A ++ B, z.f0.size ≤ 140737488351232 := fun z hz => by
    obtain ⟨w, hw, w1, _⟩ := hAB.2.2 z hz
    rw [← w1]; exact hos w hw
  have hABn : A ++ B ≠ [] := by
    intro h0
    rw [h0] at hAB
    cases o with
    | nil => exact ho1 rfl
    | cons z t => obtain ⟨⟨x, hx, _⟩, _⟩ := hAB.2.1 z (by simp); exact absurd hx (by simp)
  obtain ⟨r3, hr3, ho3⟩ := mrg_go (A ++ B) (by rw [List.length_append]; omega) hABs
  have e3 : r3 = (o, 0) := by
    rcases ho3 with ⟨_, g⟩ | ⟨o', e', hm', _⟩
    · exact absurd ⟨hABn, fun x hx => (List.mem_append.1 hx).elim (bA x) (bB x), o, hAB, hf⟩ g
    · rw [e', mrg_uniq hm' hAB]
  rw [e3] at hr3
  refine Ev.step (fun k => by rw [packhorselaw04_LinesMerged.j0, if_neg (by decide)]) ?_
  rw [eA, eB]
  refine Ev.bindc (a := []) rfl (Ev.ifp (by simp; omega) (Ev.bindc (a := A) (by rw [List.nil_append]) (Ev.ifp (by omega) ?_)))
  exact Ev.bind hr3 (Ev.ifp rfl (Ev.bind S (Ev.now _)))
end Go.Proofs.YtalcopjlofbfaaaDoor.Pure
