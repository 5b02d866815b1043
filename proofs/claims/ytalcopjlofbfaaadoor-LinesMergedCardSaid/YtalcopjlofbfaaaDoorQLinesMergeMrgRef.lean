
import Derived.Test.YtalcopjlofbfaaaDoorQLinesMergeMrgGo
set_option linter.unusedVariables false
namespace Go.Proofs.YtalcopjlofbfaaaDoor.Pure
open Go.RowKit Go.Proofs.YtalcopjlofbfaaaDoor Go.Proofs.YtalcopjlofbfaaaDoor.PAll Go.Proofs.YtalcopjlofbfaaaDoorW.PrintWords Go.Proofs.YtalcopjlofbfaaaDoorW.PrintLast Go.Proofs.YtalcopjlofbfaaaDoorW.PrintMore Go.Lib
def E0 : ByteArray := ⟨#[]⟩
theorem e0_list : E0.toList = [] := by rw [E0, Lib.toList_data]
theorem isE0 {a : ByteArray} : a.toList = ([] : List UInt8) ↔ a = E0 := by
  rw [← e0_list]; exact toList_iff
theorem lt_e0 {a : ByteArray} (h : a ≠ E0) : Lt E0 a := by
  rcases lt_tri E0 a with q | q | q
  · exact q
  · exact absurd q.symm h
  · exfalso
    unfold Lt at q
    have e : E0.data.toList = [] := rfl
    rw [e] at q
    cases h2 : a.data.toList with
    | nil => rw [h2] at q; exact absurd q (by decide)
    | cons c t => rw [h2] at q; exact absurd q (by unfold compareBytes; decide)
theorem lab_ne {s : ByteArray} (h : lab s = true) : s ≠ E0 := by
  rintro rfl
  have : lab E0 = false := by decide
  rw [this] at h; exact absurd h (by decide)
theorem lines_one {x : S37} : linesB [x] = lineB x := by
  unfold linesB
  simp [rise]
def upto (l : List S37) (t : ByteArray) : List S37 := l.filter fun x => decide (¬ Lt t x.f0)
theorem mem_upto {l : List S37} {t : ByteArray} {x : S37} : x ∈ upto l t ↔ x ∈ l ∧ ¬ Lt t x.f0 := by simp [upto]
theorem qs_upto {l : List S37} {t k : ByteArray} (h : ¬ Lt t k) : qs (upto l t) k = qs l k := by
  unfold upto
  induction l with
  | nil => rfl
  | cons x r ih =>
    by_cases c : Lt t x.f0
    · have hne : x.f0 ≠ k := fun e => h (by rw [← e]; exact c)
      rw [List.filter_cons_of_neg (by simpa using c), ih, qs_cons, if_neg hne]; omega
    · rw [List.filter_cons_of_pos (by simpa using c), qs_cons, qs_cons, ih]
theorem mrg_next (l : List S37) {o : List S37} {last least : ByteArray} {w : Int} (hm : Mrg (upto l last) o) (hl : Lt last least) (hex : ∃ y ∈ l, y.f0 = least) (hmin : ∀ x ∈ l, Lt last x.f0 → ¬ Lt x.f0 least) (hw : ∀ x ∈ l, x.f0 = least → x.f2 = w) :
    Mrg (upto l least) (o ++ [(⟨least, qs l least, w⟩ : S37)]) := by
  have hlo : ∀ z ∈ o, ¬ Lt last z.f0 := fun z hz => by
    obtain ⟨⟨x, hx, e⟩, _⟩ := hm.2.1 z hz
    rw [← e]; exact (mem_upto.1 hx).2
  have hlt : ∀ z ∈ o, Lt z.f0 least := fun z hz => by
    rcases lt_tri z.f0 last with q | q | q
    · exact lt_tr q hl
    · rw [q]; exact hl
    · exact absurd q (hlo z hz)
  refine ⟨List.pairwise_append.2 ⟨hm.1, List.pairwise_singleton .., fun a haa b hbb => ?_⟩, fun z hz => ?_, fun x hx => ?_⟩
  · rw [List.mem_singleton.1 hbb]; exact hlt a haa
  · rcases List.mem_append.1 hz with q | q
    · obtain ⟨⟨x, hx, e⟩, r⟩ := hm.2.1 z q
      have h1 : ¬ Lt least z.f0 := lt_asym (hlt z q)
      refine ⟨⟨x, mem_upto.2 ⟨(mem_upto.1 hx).1, by rw [e]; exact h1⟩, e⟩, ?_⟩
      rw [r, qs_upto (hlo z q), qs_upto h1]
    · rw [List.mem_singleton.1 q]
      obtain ⟨y, hy, e⟩ := hex
      refine ⟨⟨y, mem_upto.2 ⟨hy, by rw [e]; exact lt_irr _⟩, e⟩, ?_⟩
      exact (qs_upto (lt_irr least)).symm
  · obtain ⟨h1, h2⟩ := mem_upto.1 hx
    by_cases c : Lt last x.f0
    · have e : x.f0 = least := by
        rcases lt_tri x.f0 least with q | q | q
        · exact absurd q (hmin x h1 c)
        · exact q
        · exact absurd q h2
      exact ⟨_, List.mem_append_right _ (List.mem_singleton.2 rfl), e.symm, (hw x h1 e).symm⟩
    · obtain ⟨z, hz, z1, z2⟩ := hm.2.2 x (mem_upto.2 ⟨h1, c⟩)
      exact ⟨z, List.mem_append_left _ hz, z1, z2⟩
def Least (l : List S37) (last least : ByteArray) (i : Nat) : Prop :=
  (least = E0 ∧ ∀ x ∈ l.take i, ¬ Lt last x.f0) ∨ (least ≠ E0 ∧ Lt last least ∧ (∃ y ∈ l.take i, y.f0 = least) ∧ ∀ x ∈ l.take i, Lt last x.f0 → ¬ Lt x.f0 least)
section
variable (l : List S37) (hb : l.length ≤ 1000) (hs : ∀ x ∈ l, x.f0.size ≤ 140737488351232) (ha : AllB l)
include hb hs ha
theorem least_l (o : List S37) (last : ByteArray) (hlast : last.size ≤ 140737488351232) (d : Nat) : ∀ (i : Nat) (least : ByteArray), i + d = l.length → Least l last least i → least.size ≤ 140737488351232 →
    ∃ least', Least l last least' l.length ∧ least'.size ≤ 140737488351232 ∧ ∀ R, Ev (fun k => packhorseref04_Merge.l2 k l o last least' l (l.length : Int) (l.length : Int)) R → Ev (fun k => packhorseref04_Merge.l2 k l o last least l (l.length : Int) (i : Int)) R := by
  induction d with
  | zero =>
    intro i least h hi hz
    obtain rfl : i = l.length := by omega
    exact ⟨least, hi, hz, fun R h => h⟩
  | succ d ih =>
    intro i least h hi hz
    have h1 : i < l.length := by omega
    have hx := List.getElem_mem h1
    have hxs := hs _ hx
    have hxn := lab_ne (line_rng (ha _ hx)).1
    have htk : l.take (i + 1) = l.take i ++ [l[i]] := by rw [List.take_succ_eq_append_getElem h1]
    have w1 : wrap64 ((i : Int) + 1) = ((i + 1 : Nat) : Int) := by rw [w64 (by omega) (by omega)]; omega
    have keep : (¬ Lt last l[i].f0 ∨ (least ≠ E0 ∧ ¬ Lt l[i].f0 least)) → Least l last least (i + 1) := by
      intro hk
      rcases hi with ⟨e, hn⟩ | ⟨hne, hll, ⟨y, hy, ey⟩, hmin⟩
      · refine .inl ⟨e, fun x hx2 => ?_⟩
        rw [htk] at hx2
        rcases List.mem_append.1 hx2 with q | q
        · exact hn x q
        · rw [List.mem_singleton.1 q]
          rcases hk with r | r
          · exact r
          · exact absurd e r.1
      · refine .inr ⟨hne, hll, ⟨y, by rw [htk]; exact List.mem_append_left _ hy, ey⟩, fun x hx2 hlx => ?_⟩
        rw [htk] at hx2
        rcases List.mem_append.1 hx2 with q | q
        · exact hmin x q hlx
        · rw [List.mem_singleton.1 q] at hlx ⊢
          rcases hk with r | r
          · exact absurd hlx r
          · exact r.2
    have take : Lt last l[i].f0 → (least = E0 ∨ Lt l[i].f0 least) → Least l last l[i].f0 (i + 1) := by
      intro hl hk
      refine .inr ⟨hxn, hl, ⟨l[i], by rw [htk]; exact List.mem_append_right _ (List.mem_singleton.2 rfl), rfl⟩, fun x hx2 hlx => ?_⟩
      rw [htk] at hx2
      rcases List.mem_append.1 hx2 with q | q
      · rcases hi with ⟨_, hn⟩ | ⟨hne, _, _, hmin⟩
        · exact absurd hlx (hn x q)
        · rcases hk with r | r
          · exact absurd r hne
          · exact fun g => hmin x q hlx (lt_tr g r)
      · rw [List.mem_singleton.1 q]; exact lt_irr _
    have st : ∀ R, Ev (fun k => if compareBytes l[i].f0.data.toList last.data.toList > 0 then (if least.toList = ([] : List UInt8) then (packhorseref04_Merge.l2 k l o last l[i].f0 l (l.length : Int) ((i + 1 : Nat) : Int)) else ((packhorseref01_Compare.f k l[i].f0 least).bind fun t229 => (if t229 < 0 then (packhorseref04_Merge.l2 k l o last l[i].f0 l (l.length : Int) ((i + 1 : Nat) : Int)) else (packhorseref04_Merge.l2 k l o last least l (l.length : Int) ((i + 1 : Nat) : Int))))) else (packhorseref04_Merge.l2 k l o last least l (l.length : Int) ((i + 1 : Nat) : Int))) R → Ev (fun k => packhorseref04_Merge.l2 k l o last least l (l.length : Int) (i : Int)) R := fun R hR => by
      refine Ev.step (fun k => by rw [packhorseref04_Merge.l2, if_pos (by omega), if_pos (by omega), if_pos (by omega), rd_37 l i h1, w1]) ?_
      exact Ev.bind (compare_f _ _ hxs hlast) hR
    by_cases c : Lt last l[i].f0
    · by_cases ce : least = E0
      · obtain ⟨e, e1, e2, e3⟩ := ih (i + 1) _ (by omega) (take c (.inl ce)) hxs
        exact ⟨e, e1, e2, fun R hR => st R (Ev.ifp (lt_gt c) (Ev.ifp (isE0.2 ce) (e3 R hR)))⟩
      · by_cases c2 : Lt l[i].f0 least
        · obtain ⟨e, e1, e2, e3⟩ := ih (i + 1) _ (by omega) (take c (.inr c2)) hxs
          exact ⟨e, e1, e2, fun R hR => st R (Ev.ifp (lt_gt c) (Ev.ifn (fun q => ce (isE0.1 q)) (Ev.bind (compare_f _ _ hxs hz) (Ev.ifp c2 (e3 R hR)))))⟩
        · obtain ⟨e, e1, e2, e3⟩ := ih (i + 1) _ (by omega) (keep (.inr ⟨ce, c2⟩)) hz
          exact ⟨e, e1, e2, fun R hR => st R (Ev.ifp (lt_gt c) (Ev.ifn (fun q => ce (isE0.1 q)) (Ev.bind (compare_f _ _ hxs hz) (Ev.ifn c2 (e3 R hR)))))⟩
    · obtain ⟨e, e1, e2, e3⟩ := ih (i + 1) _ (by omega) (keep (.inl c)) hz
      exact ⟨e, e1, e2, fun R hR => st R (Ev.ifn (fun q => c (gt_lt q)) (e3 R hR))⟩
omit hs in
theorem sum_l (o : List S37) (least : ByteArray) (hol : o.length ≤ 100) (d : Nat) : ∀ (i : Nat) (w : Int), i + d = l.length → ((w = -1 ∧ ∀ x ∈ l.take i, x.f0 ≠ least) ∨ (0 ≤ w ∧ (∃ y ∈ l.take i, y.f0 = least ∧ y.f2 = w) ∧ ∀ x ∈ l.take i, x.f0 = least → x.f2 = w)) → (∃ y ∈ l, y.f0 = least) →
    (∃ r, Ev (fun k => packhorseref04_Merge.l3 k l o least l (l.length : Int) (i : Int) least (qs (l.take i) least) w) r ∧ r = (([] : List S37), (41 : Int)) ∧ ¬ Good l) ∨
    (∃ w', (∀ x ∈ l, x.f0 = least → x.f2 = w') ∧ ∀ r, Ev (fun k => packhorseref04_Merge.l1 k l (o ++ [(⟨least, qs l least, w'⟩ : S37)]) least) r → Ev (fun k => packhorseref04_Merge.l3 k l o least l (l.length : Int) (i : Int) least (qs (l.take i) least) w) r) := by
  induction d with
  | zero =>
    intro i w h hi hex
    have et : l.take i = l := List.take_of_length_le (by omega)
    rw [et] at hi
    right
    rcases hi with ⟨_, hn⟩ | ⟨h0, _, hall⟩
    · obtain ⟨y, hy, e⟩ := hex; exact absurd e (hn y hy)
    · refine ⟨w, hall, fun r hr => ?_⟩
      rw [et]
      refine Ev.step (fun k => ?_) hr
      rw [packhorseref04_Merge.l3, if_neg (by omega), if_pos (by omega)]
  | succ d ih =>
    intro i w h hi hex
    have h1 : i < l.length := by omega
    have hx := List.getElem_mem h1
    have rx := line_rng (ha _ hx)
    have htk : l.take (i + 1) = l.take i ++ [l[i]] := by rw [List.take_succ_eq_append_getElem h1]
    have hsub : ∀ y ∈ l.take i, y ∈ l := fun y hy => List.mem_of_mem_take hy
    have w1 : wrap64 ((i : Int) + 1) = ((i + 1 : Nat) : Int) := by rw [w64 (by omega) (by omega)]; omega
    have q0 := qs_nonneg (l.take i) least (fun y hy => all_nn ha y (hsub y hy))
    have q1 := qs_le (l.take i) least (fun y hy => by have := (line_rng (ha y (hsub y hy))).2.1; omega)
    have q2 : (l.take i).length ≤ 1000 := by rw [List.length_take]; omega
    have hq : qs (l.take (i + 1)) least = qs (l.take i) least + (if l[i].f0 = least then l[i].f1 else 0) := by rw [htk, qs_append, qs_one]
    by_cases c : l[i].f0 = least
    · rw [if_pos c] at hq
      have ww : wrap64 (qs (l.take i) least + l[i].f1) = qs (l.take (i + 1)) least := by rw [hq, w64 (by omega) (by omega)]
      have st : ∀ r, Ev (fun k => if w ≥ 0 then (if w = l[i].f2 then (packhorseref04_Merge.l3 k l o least l (l.length : Int) ((i + 1 : Nat) : Int) least (qs (l.take (i + 1)) least) l[i].f2) else (some (([] : List S37), (41 : Int)))) else (packhorseref04_Merge.l3 k l o least l (l.length : Int) ((i + 1 : Nat) : Int) least (qs (l.take (i + 1)) least) l[i].f2)) r → Ev (fun k => packhorseref04_Merge.l3 k l o least l (l.length : Int) (i : Int) least (qs (l.take i) least) w) r := fun r hr => by
        refine Ev.step (fun k => ?_) hr
        rw [packhorseref04_Merge.l3, if_pos (by omega), if_pos (by omega), if_pos (by omega), rd_37 l i h1, if_pos (toList_iff.2 c), ww, w1]
      have nxt : (w ≥ 0 → w = l[i].f2) → ((l[i].f2 = -1 ∧ ∀ x ∈ l.take (i + 1), x.f0 ≠ least) ∨ (0 ≤ l[i].f2 ∧ (∃ y ∈ l.take (i + 1), y.f0 = least ∧ y.f2 = l[i].f2) ∧ ∀ x ∈ l.take (i + 1), x.f0 = least → x.f2 = l[i].f2)) := by
        intro hw
        refine .inr ⟨rx.2.2.1, ⟨l[i], by rw [htk]; exact List.mem_append_right _ (List.mem_singleton.2 rfl), c, rfl⟩, fun x hx2 e => ?_⟩
        rw [htk] at hx2
        rcases List.mem_append.1 hx2 with q | q
        · rcases hi with ⟨_, hn⟩ | ⟨h0, _, hall⟩
          · exact absurd e (hn x q)
          · rw [hall x q e]; exact hw h0
        · rw [List.mem_singleton.1 q]
      by_cases cw : w ≥ 0
      · by_cases ce : w = l[i].f2
        · rcases ih (i + 1) l[i].f2 (by omega) (nxt fun _ => ce) hex with ⟨r, hr, q⟩ | ⟨w', hw', q⟩
          · exact .inl ⟨r, st r (Ev.ifp cw (Ev.ifp ce hr)), q⟩
          · exact .inr ⟨w', hw', fun r hr => st r (Ev.ifp cw (Ev.ifp ce (q r hr)))⟩
        · refine .inl ⟨_, st _ (Ev.ifp cw (Ev.ifn ce (Ev.now _))), rfl, ?_⟩
          rintro ⟨_, _, o2, h2, _⟩
          rcases hi with ⟨e, _⟩ | ⟨_, ⟨y, hy, y1, y2⟩, _⟩
          · omega
          · exact ce (by rw [← y2]; exact mrg_wt h2 (hsub y hy) hx (by rw [y1, c]))
      · rcases ih (i + 1) l[i].f2 (by omega) (nxt fun q => absurd q cw) hex with ⟨r, hr, q⟩ | ⟨w', hw', q⟩
        · exact .inl ⟨r, st r (Ev.ifn cw hr), q⟩
        · exact .inr ⟨w', hw', fun r hr => st r (Ev.ifn cw (q r hr))⟩
    · rw [if_neg c, Int.add_zero] at hq
      have st : ∀ r, Ev (fun k => packhorseref04_Merge.l3 k l o least l (l.length : Int) ((i + 1 : Nat) : Int) least (qs (l.take (i + 1)) least) w) r → Ev (fun k => packhorseref04_Merge.l3 k l o least l (l.length : Int) (i : Int) least (qs (l.take i) least) w) r := fun r hr => by
        refine Ev.step (fun k => ?_) hr
        rw [packhorseref04_Merge.l3, if_pos (by omega), if_pos (by omega), if_pos (by omega), rd_37 l i h1, if_neg (fun q => c (toList_inj q)), hq, w1]
      have nxt : (w = -1 ∧ ∀ x ∈ l.take (i + 1), x.f0 ≠ least) ∨ (0 ≤ w ∧ (∃ y ∈ l.take (i + 1), y.f0 = least ∧ y.f2 = w) ∧ ∀ x ∈ l.take (i + 1), x.f0 = least → x.f2 = w) := by
        rcases hi with ⟨e, hn⟩ | ⟨h0, ⟨y, hy, yy⟩, hall⟩
        · refine .inl ⟨e, fun x hx2 => ?_⟩
          rw [htk] at hx2
          rcases List.mem_append.1 hx2 with q | q
          · exact hn x q
          · rw [List.mem_singleton.1 q]; exact c
        · refine .inr ⟨h0, ⟨y, by rw [htk]; exact List.mem_append_left _ hy, yy⟩, fun x hx2 e => ?_⟩
          rw [htk] at hx2
          rcases List.mem_append.1 hx2 with q | q
          · exact hall x q e
          · rw [List.mem_singleton.1 q] at e; exact absurd e c
      rcases ih (i + 1) w (by omega) nxt hex with ⟨r, hr, q⟩ | ⟨w', hw', q⟩
      · exact .inl ⟨r, st r hr, q⟩
      · exact .inr ⟨w', hw', fun r hr => st r (q r hr)⟩
theorem keys_l (d : Nat) : ∀ (o : List S37) (last : ByteArray), o.length + d = 9 → last.size ≤ 140737488351232 → Mrg (upto l last) o → ∃ r, Ev (fun k => packhorseref04_Merge.l1 k l o last) r ∧ Out l r := by
  have osz : ∀ (o : List S37) (last : ByteArray), Mrg (upto l last) o → ∀ z ∈ o, z.f0.size ≤ 140737488351232 := fun o last hm z hz => by
    obtain ⟨⟨x, hx, e⟩, _⟩ := hm.2.1 z hz
    rw [← e]; exact hs x (mem_upto.1 hx).1
  induction d with
  | zero =>
    intro o last hd hlast hm
    have R := ref_lines_eq o (by omega) (osz o last hm)
    have e : linesB o = false := by unfold linesB; rw [decide_eq_false (show ¬ (1 ≤ o.length ∧ o.length ≤ 8) by omega), Bool.and_false]
    rw [e] at R
    refine ⟨_, Ev.step (fun k => by rw [packhorseref04_Merge.l1, if_neg (by omega)]) (Ev.bind R (Ev.ifn (show ¬ (false = true) by decide) (Ev.now _))), .inl ⟨rfl, ?_⟩⟩
    exact bad_len hm (fun y hy => (mem_upto.1 hy).1) (by omega)
  | succ d ih =>
    intro o last hd hlast hm
    obtain ⟨least, hL, hz, hrun⟩ := least_l l hb hs ha o last hlast l.length 0 E0 (by omega) (.inl ⟨rfl, fun x hx => absurd hx (by simp)⟩) (by decide)
    have st : ∀ R, Ev (fun k => packhorseref04_Merge.l2 k l o last least l (l.length : Int) (l.length : Int)) R → Ev (fun k => packhorseref04_Merge.l1 k l o last) R := fun R hR => by
      refine Ev.step (fun k => ?_) (hrun R hR)
      rw [packhorseref04_Merge.l1, if_pos (by omega)]; rfl
    rw [show (fun k => packhorseref04_Merge.l2 k l o last least l (l.length : Int) (l.length : Int)) = (fun k => packhorseref04_Merge.l2 k l o last least l (l.length : Int) (l.length : Int)) from rfl] at st
    rcases hL with ⟨hle, hno⟩ | ⟨hne, hll, hex, hmin⟩
    · rw [List.take_length] at hno
      have hall : upto l last = l := List.filter_eq_self.2 fun x hx => by simpa using hno x hx
      rw [hall] at hm
      have R := ref_lines_eq o (by omega) (osz o last (by rw [hall]; exact hm))
      have st2 : ∀ r, Ev (fun k => (packhorseref04_Right.f k o).bind fun t230 => (if t230 = true then (some (o, (0 : Int))) else (some (([] : List S37), 41)))) r → Ev (fun k => packhorseref04_Merge.l1 k l o last) r := fun r hr => by
        refine st r (Ev.step (fun k => ?_) hr)
        rw [packhorseref04_Merge.l2, if_neg (by omega), if_pos (isE0.2 hle)]
      cases e : linesB o
      · rw [e] at R
        refine ⟨_, st2 _ (Ev.bind R (Ev.ifn (show ¬ (false = true) by decide) (Ev.now _))), .inl ⟨rfl, ?_⟩⟩
        rintro ⟨hn, _, o2, h2, f2⟩
        have := mrg_uniq hm h2
        subst this
        rw [mrg_lines hm f2 ha hn] at e
        exact absurd e (by decide)
      · rw [e] at R
        have hf : Fits o ∧ l ≠ [] := by
          unfold linesB at e
          simp only [Bool.and_eq_true, decide_eq_true_eq] at e
          have hone : ∀ (d i : Nat), i + d = o.length → rise o d i = true → ∀ x ∈ o.drop i, lineB x = true := by
            intro d
            induction d with
            | zero => intro i h _ x hx; rw [List.drop_of_length_le (by omega)] at hx; exact absurd hx (by simp)
            | succ d ih2 =>
              intro i h hr x hx
              have h1 : i < o.length := by omega
              rw [rise, dif_pos h1] at hr
              simp only [Bool.and_eq_true] at hr
              rw [List.drop_eq_getElem_cons h1] at hx
              rcases List.mem_cons.1 hx with q | q
              · rw [q]; exact hr.1
              · exact ih2 (i + 1) (by omega) hr.2.2 x q
          refine ⟨⟨e.2.2, fun z hz2 => (line_rng (hone o.length 0 (by omega) e.1 z (by simpa using hz2))).2.1.2⟩, ?_⟩
          rintro rfl
          cases o with
          | nil => exact absurd e.2.1 (by simp)
          | cons z t =>
            obtain ⟨⟨x, hx, _⟩, _⟩ := hm.2.1 z (by simp)
            exact absurd hx (by simp)
        exact ⟨_, st2 _ (Ev.bind R (Ev.ifp rfl (Ev.now _))), .inr ⟨o, rfl, hm, hf.1, hf.2, ha⟩⟩
    · rw [List.take_length] at hex hmin
      have st2 : ∀ r, Ev (fun k => packhorseref04_Merge.l3 k l o least l (l.length : Int) ((0 : Nat) : Int) least (qs (l.take 0) least) (-1)) r → Ev (fun k => packhorseref04_Merge.l1 k l o last) r := fun r hr => by
        refine st r (Ev.step (fun k => ?_) hr)
        rw [packhorseref04_Merge.l2, if_neg (by omega), if_neg (fun q => hne (isE0.1 q))]; rfl
      rcases sum_l l hb ha o least (by omega) l.length 0 (-1) (by omega) (.inl ⟨rfl, fun x hx => absurd hx (by simp)⟩) hex with ⟨r, hr, e, g⟩ | ⟨w, hw, q⟩
      · exact ⟨r, st2 r hr, .inl ⟨e, g⟩⟩
      · obtain ⟨r, hr, ho⟩ := ih (o ++ [(⟨least, qs l least, w⟩ : S37)]) least (by rw [List.length_append, List.length_singleton]; omega) hz (mrg_next l hm hll hex hmin hw)
        exact ⟨r, st2 r (q r hr), ho⟩
end
theorem one_l (l : List S37) (hb : l.length ≤ 1000) (hs : ∀ x ∈ l, x.f0.size ≤ 140737488351232) (d : Nat) : ∀ i : Nat, i + d = l.length → (∀ x ∈ l.take i, lineB x = true) →
    (AllB l ∧ ∀ R, Ev (fun k => packhorseref04_Merge.l1 k l ([] : List S37) E0) R → Ev (fun k => packhorseref04_Merge.l0 k l l (l.length : Int) (i : Int)) R) ∨ (¬ AllB l ∧ Ev (fun k => packhorseref04_Merge.l0 k l l (l.length : Int) (i : Int)) (([] : List S37), (41 : Int))) := by
  induction d with
  | zero =>
    intro i h hi
    rw [List.take_of_length_le (by omega)] at hi
    refine .inl ⟨hi, fun R hR => Ev.step (fun k => ?_) hR⟩
    rw [packhorseref04_Merge.l0, if_neg (by omega)]; rfl
  | succ d ih =>
    intro i h hi
    have h1 : i < l.length := by omega
    have hx := List.getElem_mem h1
    have htk : l.take (i + 1) = l.take i ++ [l[i]] := by rw [List.take_succ_eq_append_getElem h1]
    have w1 : wrap64 ((i : Int) + 1) = ((i + 1 : Nat) : Int) := by rw [w64 (by omega) (by omega)]; omega
    have R1 := ref_lines_eq [l[i]] (by simp) (fun z hz => by rw [List.mem_singleton.1 hz]; exact hs _ hx)
    rw [lines_one] at R1
    have st : ∀ R, Ev (fun k => if lineB l[i] = true then (packhorseref04_Merge.l0 k l l (l.length : Int) ((i + 1 : Nat) : Int)) else (some (([] : List S37), (41 : Int)))) R → Ev (fun k => packhorseref04_Merge.l0 k l l (l.length : Int) (i : Int)) R := fun R hR => by
      refine Ev.step (fun k => by rw [packhorseref04_Merge.l0, if_pos (by omega), if_pos (by omega), if_pos (by omega), rd_37 l i h1, w1]) ?_
      exact Ev.bind R1 hR
    cases c : lineB l[i]
    · exact .inr ⟨fun g => by rw [g _ hx] at c; exact absurd c (by decide), st _ (Ev.ifn (by rw [c]; decide) (Ev.now _))⟩
    · rcases ih (i + 1) (by omega) (fun x hx2 => by
        rw [htk] at hx2
        rcases List.mem_append.1 hx2 with q | q
        · exact hi x q
        · rw [List.mem_singleton.1 q]; exact c) with ⟨g, q⟩ | ⟨g, q⟩
      · exact .inl ⟨g, fun R hR => st R (Ev.ifp c (q R hR))⟩
      · exact .inr ⟨g, st _ (Ev.ifp c q)⟩
theorem mrg_ref (l : List S37) (hb : l.length ≤ 1000) (hs : ∀ x ∈ l, x.f0.size ≤ 140737488351232) : ∃ r, Ev (fun k => packhorseref04_Merge.f k l) r ∧ Out l r := by
  unfold packhorseref04_Merge.f
  rcases one_l l hb hs l.length 0 (by omega) (fun x hx => absurd hx (by simp)) with ⟨ha, q⟩ | ⟨ha, q⟩
  · have h0 : upto l E0 = [] := List.filter_eq_nil_iff.2 fun x hx => by simpa using lt_e0 (lab_ne (line_rng (ha x hx)).1)
    obtain ⟨r, hr, ho⟩ := keys_l l hb hs ha 9 [] E0 rfl (by decide) (by rw [h0]; exact mrg_nil)
    exact ⟨r, q r hr, ho⟩
  · exact ⟨_, q, .inl ⟨rfl, fun g => ha g.2.1⟩⟩
end Go.Proofs.YtalcopjlofbfaaaDoor.Pure
