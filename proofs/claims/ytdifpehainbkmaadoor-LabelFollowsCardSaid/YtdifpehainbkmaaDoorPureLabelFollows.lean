/- Layer 01 (label), LabelFollows: the one that follows is another label, longer or as long, with the same beginning; cut anywhere a label is one. The one condition is 'laid' (the two tables of unicode/utf8, tied). -/
import Derived.Test.YtdifpehainbkmaaDoorLabCut
namespace Go.Proofs.YtdifpehainbkmaaDoor.Pure
open Go.RowKit Go.Proofs.YtdifpehainbkmaaDoor Go.Proofs.YtdifpehainbkmaaDoor.PAll Go.Proofs.YtdifpehainbkmaaDoorW.PrintWords Go.Proofs.YtdifpehainbkmaaDoorW.PrintLast Go.Proofs.YtdifpehainbkmaaDoorW.PrintMore

theorem wf64 {x : Int} (h : (Lit.int .i64 x).wf = true) : -9223372036854775808 ≤ x ∧ x ≤ 9223372036854775807 := by
  simp [Lit.wf, IntKind.min, IntKind.max, IntKind.signed, IntKind.bits] at h
  omega
theorem alive_ : packhorselaw01_labelAlive.f = some true := by decide +kernel
theorem signs_some (s : ByteArray) (h : s.size ≤ 1000) : label_Signs.f s = some (Lab.signs s) := by
  unfold label_Signs.f; exact O.p (by omega) rfl

/-! digits behind a text -/
def mkd (x : UInt8) : ByteArray := mk [x]
theorem rlist_digs (l : List UInt8) : ∀ (g pos : Nat) (out : List ByteArray) (ds : List UInt8), l.length ≤ pos + g → l.drop pos = ds → (∀ x ∈ ds, dig x = true) → out ≠ [] → out.length ≤ 16 →
    Lab.rlist (mk l) g pos out = if out.length + ds.length ≤ 16 then out ++ ds.map mkd else [] := by
  intro g
  induction g with
  | zero =>
    intro pos out ds h hd hds hne hle
    have : ds = [] := by rw [← hd, List.drop_eq_nil_iff]; omega
    subst this
    rw [Lab.rlist_end _ 0 pos out (by rw [mk_size]; omega), if_pos (by simpa using hle)]; simp
  | succ g ih =>
    intro pos out ds h hd hds hne hle
    by_cases hp : pos < (mk l).size
    · have hp2 : pos < l.length := by rw [mk_size] at hp; exact hp
      obtain ⟨d, ds', rfl⟩ : ∃ d ds', ds = d :: ds' := by
        cases ds with
        | nil => rw [List.drop_eq_nil_iff] at hd; omega
        | cons d ds' => exact ⟨d, ds', rfl⟩
      have hg : l.getD pos 0 = d := by
        have h1 : (l.drop pos)[0]? = some d := by rw [hd]; rfl
        rw [List.getElem?_drop, Nat.add_zero] at h1
        rw [List.getD_eq_getElem?_getD, h1]; rfl
      have hs := sign_dig l pos (by rw [hg]; exact hds d List.mem_cons_self)
      have hol := List.length_pos_iff.2 hne
      rw [rlist_step (mk l) g pos out hp, hs]
      have hx : (mk l).extract pos (pos + 1) = mkd d := by
        rw [← mk_list ((mk l).extract pos (pos + 1)), ext_list]
        show mk ((l.drop pos).take 1) = _
        rw [hd]; rfl
      by_cases c16 : out.length = 16
      · rw [if_pos (.inr (.inr c16)), if_neg (by simp only [List.length_cons]; omega)]
      · rw [if_neg (by rintro (q | q | q) <;> first | exact absurd q (by decide) | omega)]
        simp only
        rw [hx, ih (pos + 1) (out ++ [mkd d]) ds' (by omega) (by rw [← List.drop_drop, hd]; rfl) (fun x hx => hds x (List.mem_cons_of_mem _ hx)) (by simp) (by rw [List.length_append]; simp only [List.length_cons, List.length_nil]; omega)]
        simp only [List.length_append, List.length_cons, List.length_nil, List.map_cons, List.append_assoc, List.cons_append, List.nil_append]
        by_cases q : out.length + (ds'.length + 1) ≤ 16
        · rw [if_pos q, if_pos (by omega)]
        · rw [if_neg q, if_neg (by omega)]
    · have hp2 : l.length ≤ pos := by rw [mk_size] at hp; omega
      have : ds = [] := by rw [← hd, List.drop_eq_nil_iff]; omega
      subst this
      rw [Lab.rlist_end _ _ pos out hp, if_pos (by simpa using hle)]; simp
theorem rlist_app (h ds : List UInt8) (hds : ∀ x ∈ ds, dig x = true) : ∀ (g pos : Nat) (out : List ByteArray), h.length ≤ pos + g → pos ≤ h.length → out.length ≤ 16 → (pos = 0 ∨ out ≠ []) → (h ≠ []) →
    Lab.rlist (mk (h ++ ds)) (g + ds.length) pos out = if Lab.rlist (mk h) g pos out = [] then [] else if (Lab.rlist (mk h) g pos out).length + ds.length ≤ 16 then Lab.rlist (mk h) g pos out ++ ds.map mkd else [] := by
  intro g
  induction g with
  | zero =>
    intro pos out hg hp hle hpo hne
    have hh := List.length_pos_iff.2 hne
    have ho : out ≠ [] := by rcases hpo with q | q; · omega
                             · exact q
    rw [Lab.rlist_end (mk h) 0 pos out (by rw [mk_size]; omega), if_neg ho]
    exact rlist_digs (h ++ ds) _ pos out ds (by rw [List.length_append]; omega) (by rw [show pos = h.length by omega, List.drop_left' rfl]) hds ho hle
  | succ g ih =>
    intro pos out hg hp hle hpo hne
    have hh := List.length_pos_iff.2 hne
    by_cases hpl : pos < h.length
    · rw [show g + 1 + ds.length = (g + ds.length) + 1 by omega, rlist_step (mk (h ++ ds)) _ pos out (by rw [mk_size, List.length_append]; omega), rlist_step (mk h) g pos out (by rw [mk_size]; exact hpl), sign_app h ds hds pos hpl]
      by_cases hc : (Lab.sign (mk h) pos).1 = 0 ∨ (out.length = 0 ∧ (Lab.sign (mk h) pos).2 = false) ∨ out.length = 16
      · rw [if_pos hc, if_pos hc, if_pos rfl]
      · rw [if_neg hc, if_neg hc]
        have hfit := sign_fits (mk h) pos (by rw [mk_size]; exact hpl)
        rw [mk_size] at hfit
        have hx : (mk (h ++ ds)).extract pos (pos + (Lab.sign (mk h) pos).1) = (mk h).extract pos (pos + (Lab.sign (mk h) pos).1) := by
          rw [← mk_list ((mk (h ++ ds)).extract pos (pos + (Lab.sign (mk h) pos).1)), ← mk_list ((mk h).extract pos (pos + (Lab.sign (mk h) pos).1)), ext_list, ext_list]
          show mk (((h ++ ds).drop pos).take _) = mk ((h.drop pos).take _)
          rw [List.drop_append_of_le_length (by omega), List.take_append_of_le_length (by rw [List.length_drop]; omega)]
        rw [hx]
        exact ih _ _ (by omega) hfit (by rw [List.length_append]; simp only [List.length_cons, List.length_nil]; omega) (.inr (by simp)) hne
    · have ho : out ≠ [] := by rcases hpo with q | q; · omega
                               · exact q
      rw [Lab.rlist_end (mk h) _ pos out (by rw [mk_size]; omega), if_neg ho]
      exact rlist_digs (h ++ ds) _ pos out ds (by rw [List.length_append]; omega) (by rw [show pos = h.length by omega, List.drop_left' rfl]) hds ho hle
theorem rl_nil : rl (mk []) = [] := rfl
theorem rl_digs_none (ds : List UInt8) (hds : ∀ x ∈ ds, dig x = true) : rl (mk ds) = [] := by
  cases ds with
  | nil => rfl
  | cons d ds =>
    unfold rl
    rw [mk_size, List.length_cons, rlist_step _ _ 0 [] (by rw [mk_size]; simp), sign_dig (d :: ds) 0 (hds d List.mem_cons_self), if_pos (.inr (.inl ⟨rfl, rfl⟩))]
/-- The signs of a text with digits behind it. -/
theorem rl_app (h ds : List UInt8) (hds : ∀ x ∈ ds, dig x = true) : rl (mk (h ++ ds)) = if rl (mk h) = [] then [] else if (rl (mk h)).length + ds.length ≤ 16 then rl (mk h) ++ ds.map mkd else [] := by
  by_cases hn : h = []
  · subst hn
    rw [List.nil_append, rl_nil, if_pos rfl]
    exact rl_digs_none ds hds
  · have q := rlist_app h ds hds h.length 0 [] (by omega) (by omega) (by simp) (.inl rfl) hn
    unfold rl
    rw [mk_size, mk_size, List.length_append]
    exact q

/-! the one that follows -/
/-- The digits that stand behind the same beginning. -/
def ntl (l : List UInt8) : List UInt8 :=
  if tl l = [] then [48] else
  match (tl l).drop (n9 l) with
  | [] => 49 :: List.replicate (tl l).length 48
  | x :: xs => xs.reverse ++ (x + 1) :: List.replicate (n9 l) 48
theorem nextL_ntl (l : List UInt8) : nextL l = hd l ++ ntl l := by
  unfold nextL ntl
  by_cases c : tl l = []
  · rw [if_pos c, if_pos c]
    have hw : l = hd l := by conv => lhs; rw [whole l, c]; simp
    conv => lhs; rw [hw]
  · rw [if_neg c, if_neg c]
    cases (tl l).drop (n9 l) <;> rfl
theorem succ_dig (x : UInt8) (h : dig x = true) (h2 : x ≠ 57) : dig (x + 1) = true :=
  byte_all (p := fun x => dig x = true → x ≠ 57 → dig (x + 1) = true) (by decide +kernel) x h h2
theorem ntl_dig (l : List UInt8) : ∀ x ∈ ntl l, dig x = true := by
  unfold ntl
  by_cases c : tl l = []
  · rw [if_pos c]; intro x hx; rw [List.mem_singleton] at hx; subst hx; decide
  · rw [if_neg c]
    cases hx : (tl l).drop (n9 l) with
    | nil =>
      intro x h
      rcases List.mem_cons.1 h with q | q
      · subst q; decide
      · rw [(List.mem_replicate.1 q).2]; decide
    | cons y ys =>
      intro x h
      have hy : ∀ z ∈ y :: ys, dig z = true := fun z hz => tl_dig l z (List.mem_of_mem_drop (by rw [hx]; exact hz))
      rcases List.mem_append.1 h with q | q
      · exact hy x (List.mem_cons_of_mem _ (List.mem_reverse.1 q))
      · rcases List.mem_cons.1 q with q | q
        · subst q; exact succ_dig y (hy y List.mem_cons_self) (tl_head l y ys hx)
        · rw [(List.mem_replicate.1 q).2]; decide
theorem ntl_len (l : List UInt8) : (ntl l).length = (tl l).length ∨ (ntl l).length = (tl l).length + 1 := by
  unfold ntl
  by_cases c : tl l = []
  · rw [if_pos c, c]; right; rfl
  · rw [if_neg c]
    cases hx : (tl l).drop (n9 l) with
    | nil => right; simp
    | cons y ys =>
      left
      have := congrArg List.length hx
      rw [List.length_drop, List.length_cons] at this
      have := n9_le l
      simp only [List.length_append, List.length_reverse, List.length_cons, List.length_replicate]; omega
/-- The last byte. -/
def lst (l : List UInt8) : Nat := (l.getLastD 0).toNat
theorem same_len (l : List UInt8) (h : (ntl l).length = (tl l).length) : ∃ y ys, tl l = y :: ys ∧ ∃ zs, ntl l = zs ++ [if y = 57 then 48 else y + 1] := by
  unfold ntl at *
  by_cases c : tl l = []
  · rw [if_pos c, c] at h; simp at h
  · rw [if_neg c] at *
    have hsp := tl_split l
    cases hx : (tl l).drop (n9 l) with
    | nil => rw [hx] at h; simp at h
    | cons x xs =>
      rw [hx] at hsp
      cases hn : n9 l with
      | zero =>
        rw [hn] at hsp
        refine ⟨x, xs, hsp, xs.reverse, ?_⟩
        rw [if_neg (tl_head l x xs hx)]; rfl
      | succ n =>
        rw [hn, List.replicate_succ] at hsp
        refine ⟨57, _, hsp, xs.reverse ++ (x + 1) :: List.replicate n 48, ?_⟩
        rw [if_pos rfl, List.replicate_succ', List.append_assoc]; rfl
theorem lst_tl (l : List UInt8) (y : UInt8) (ys : List UInt8) (h : tl l = y :: ys) : ∃ zs, l = zs ++ [y] := by
  refine ⟨hd l ++ ys.reverse, ?_⟩
  conv => lhs; rw [whole l, h]
  simp
theorem step_last (l : List UInt8) (h : (nextL l).length = l.length) : ∃ y zs ws, l = zs ++ [y] ∧ dig y = true ∧ nextL l = ws ++ [if y = 57 then 48 else y + 1] := by
  have h1 := tl_len l
  rw [nextL_ntl, List.length_append] at h
  obtain ⟨y, ys, h2, zs, h3⟩ := same_len l (by omega)
  obtain ⟨z, hz⟩ := lst_tl l y ys h2
  exact ⟨y, z, hd l ++ zs, hz, tl_dig l y (by rw [h2]; exact List.mem_cons_self), by rw [nextL_ntl, h3, List.append_assoc]⟩
theorem snoc_inj {a b : List UInt8} {x y : UInt8} (h : a ++ [x] = b ++ [y]) : x = y := by
  have := congrArg List.getLast? h
  simpa using this
theorem len_le (l : List UInt8) : l.length ≤ (nextL l).length := by
  have h1 := tl_len l
  rw [nextL_ntl, List.length_append]
  have := ntl_len l
  omega
theorem next_ne (l : List UInt8) : nextL l ≠ l := by
  intro h
  obtain ⟨y, zs, ws, h1, h2, h3⟩ := step_last l (by rw [h])
  rw [h] at h3
  have := snoc_inj (h1.symm.trans h3)
  revert this h2
  exact byte_all (p := fun y => dig y = true → y = (if y = 57 then 48 else y + 1) → False) (by decide +kernel) y
theorem next2_ne (l : List UInt8) : nextL (nextL l) ≠ l := by
  intro h
  have a := len_le l
  have b := len_le (nextL l)
  rw [h] at b
  obtain ⟨y, zs, ws, h1, h2, h3⟩ := step_last l (by omega)
  obtain ⟨y', zs', ws', h1', h2', h3'⟩ := step_last (nextL l) (by rw [h]; omega)
  have e1 := snoc_inj (h3.symm.trans h1')
  rw [h] at h3'
  have e2 := snoc_inj (h1.symm.trans h3')
  rw [← e1] at e2
  revert e2 h2
  exact byte_all (p := fun y => dig y = true → y = (if (if y = 57 then (48 : UInt8) else y + 1) = 57 then 48 else (if y = 57 then (48 : UInt8) else y + 1) + 1) → False) (by decide +kernel) y

theorem rl_whole (s : ByteArray) (h : rl s ≠ []) : rl (mk (hd s.data.toList)) ≠ [] ∧ (rl s).length = (rl (mk (hd s.data.toList))).length + (tl s.data.toList).length ∧ rl s = rl (mk (hd s.data.toList)) ++ (tl s.data.toList).reverse.map mkd := by
  have hds : ∀ x ∈ (tl s.data.toList).reverse, dig x = true := fun x hx => tl_dig _ x (List.mem_reverse.1 hx)
  have e := rl_app (hd s.data.toList) (tl s.data.toList).reverse hds
  rw [← whole, mk_list] at e
  by_cases c : rl (mk (hd s.data.toList)) = []
  · rw [if_pos c] at e; exact absurd e h
  · rw [if_neg c] at e
    by_cases c2 : (rl (mk (hd s.data.toList))).length + (tl s.data.toList).reverse.length ≤ 16
    · rw [if_pos c2] at e
      refine ⟨c, ?_, e⟩
      rw [e]; simp
    · rw [if_neg c2] at e; exact absurd e h
theorem rl_next (s : ByteArray) (h : rl s ≠ []) : rl (mk (nextL s.data.toList)) = if (rl (mk (hd s.data.toList))).length + (ntl s.data.toList).length ≤ 16 then rl (mk (hd s.data.toList)) ++ (ntl s.data.toList).map mkd else [] := by
  have e := rl_app (hd s.data.toList) (ntl s.data.toList) (ntl_dig _)
  rw [if_neg (rl_whole s h).1] at e
  rw [nextL_ntl]; exact e
theorem cat_len2 (l : List ByteArray) (h : ∀ x ∈ l, x.size ≤ 2) : (cat l).length ≤ 2 * l.length := by
  induction l with
  | nil => simp [cat]
  | cons x l ih =>
    have h1 := h x List.mem_cons_self
    have h2 := ih (fun y hy => h y (List.mem_cons_of_mem _ hy))
    unfold cat at *
    rw [List.flatMap_cons, List.length_append, len_size, List.length_cons]; omega
theorem rlist_two (s : ByteArray) : ∀ (g pos : Nat) (out : List ByteArray), (∀ x ∈ out, x.size ≤ 2) → ∀ x ∈ Lab.rlist s g pos out, x.size ≤ 2 := by
  intro g
  induction g with
  | zero => intro pos out h; exact h
  | succ g ih =>
    intro pos out h
    by_cases hp : pos < s.size
    · rw [rlist_step s g pos out hp]
      split
      · intro x hx; cases hx
      · refine ih _ _ ?_
        intro x hx
        rcases List.mem_append.1 hx with q | q
        · exact h x q
        · rw [List.mem_singleton] at q
          subst q
          rw [← len_size, ext_list, List.length_take]
          rcases Lab.sign_cases s pos with q | q | q | q <;> rw [q] <;> simp only <;> omega
    · rw [Lab.rlist_end s _ pos out hp]; exact h
theorem lab_size (s : ByteArray) (h : rl s ≠ []) : s.size ≤ 32 := by
  have h1 := rl_cat s h
  have h2 := cat_len2 (rl s) (rlist_two s s.size 0 [] (by intro x hx; cases hx))
  have h3 := rl_len16 s
  rw [h1, len_size] at h2
  omega

theorem cut_lab (s : ByteArray) (n : Int) (h : rl s ≠ []) (h1 : 1 ≤ n) : rl (mk (cat ((rl s).take n.toNat))) = (rl s).take n.toNat ∧ (rl s).take n.toNat ≠ [] := by
  obtain ⟨a, b⟩ := cut_rl s n h
  rw [b] at a
  refine ⟨a, ?_⟩
  have := List.length_pos_iff.2 h
  rw [← List.length_pos_iff, List.length_take]
  omega
theorem cut_size (s : ByteArray) (n : Nat) (h : rl s ≠ []) : (mk (cat ((rl s).take n))).size ≤ 1000 := by
  have h1 := cat_len (rl s) n
  rw [rl_cat s h, len_size] at h1
  have := lab_size s h
  rw [mk_size]; omega
theorem head_take {α : Type} (a b : List α) (h : a ≠ []) : (a ++ b).take 1 = a.take 1 := by
  cases a with
  | nil => exact absurd rfl h
  | cons x a => rfl
theorem fin_lab (t : ByteArray) (h : rl t ≠ []) : fin t = (t, 0) := if_pos ((lab_iff t).2 h)
theorem fin_no (t : ByteArray) (h : rl t = []) : fin t = (⟨#[]⟩, 11) := if_neg (fun q => (lab_iff t).1 q h)

theorem follows_j (s : ByteArray) (h : rl s ≠ []) : Ev (fun k => packhorselaw01_LabelFollows.j0 k s false) true := by
  have hsz := lab_size s h
  obtain ⟨w1, w2, w3⟩ := rl_whole s h
  have hne := rl_next s h
  have hlen := ntl_len s.data.toList
  have h16 := rl_len16 s
  have hsg : Lab.signs s = ((rl s).length : Int) := by rw [signs_rl, if_neg (by have := List.length_pos_iff.2 h; omega)]
  have hnx : nxt s = fin (mk (nextL s.data.toList)) := if_pos ((lab_iff s).2 h)
  refine Ev.step (fun k => rfl) (Ev.bindc (next_eq s (by omega)) ?_)
  rw [hnx]
  by_cases c : (rl (mk (hd s.data.toList))).length + (ntl s.data.toList).length ≤ 16
  · rw [if_pos c] at hne
    have hnn : rl (mk (nextL s.data.toList)) ≠ [] := by rw [hne]; intro q; exact w1 (List.append_eq_nil_iff.1 q).1
    generalize hT : mk (nextL s.data.toList) = T at *
    have hTl : T.data.toList = nextL s.data.toList := by rw [← hT]; rfl
    rw [fin_lab T hnn]
    have hTs := lab_size T hnn
    have hTsg : Lab.signs T = ((rl T).length : Int) := by rw [signs_rl, if_neg (by have := List.length_pos_iff.2 hnn; omega)]
    have hTx : nxt T = fin (mk (nextL T.data.toList)) := if_pos ((lab_iff T).2 hnn)
    refine Ev.ifp rfl (Ev.bindc (next_eq T (by omega)) ?_)
    refine Ev.bindc (signs_some T (by omega)) (Ev.bindc (signs_some s (by omega)) ?_)
    have hTne : T.toList ≠ s.toList := by
      rw [Lib.toList_data, Lib.toList_data, hTl]; exact next_ne _
    have hlT : (rl T).length = (rl (mk (hd s.data.toList))).length + (ntl s.data.toList).length := by rw [hne, List.length_append, List.length_map]
    have hd_ : Lab.signs T - Lab.signs s = 0 ∨ Lab.signs T - Lab.signs s = 1 := by rw [hTsg, hsg]; omega
    have hw : wrap64 (Lab.signs T - Lab.signs s) = Lab.signs T - Lab.signs s := w64 (by omega) (by omega)
    have hc1 : cat ((rl T).take (1 : Int).toNat) = cat ((rl s).take (1 : Int).toNat) := by
      rw [hne, w3]
      show cat (List.take 1 _) = cat (List.take 1 _)
      rw [head_take _ _ w1, head_take _ _ w1]
    have hfin : Ev (fun _ : Nat => if (nxt T).2 = 0 then (if (nxt T).1.toList = s.toList then (some false) else (some ((nxt T).1.toList != T.toList))) else (some true)) true := by
      rw [hTx]
      by_cases q : rl (mk (nextL T.data.toList)) = []
      · rw [fin_no _ q]; exact Ev.ifn (by decide) (Ev.now _)
      · rw [fin_lab _ q]
        refine Ev.ifp rfl (Ev.ifn ?_ (Ev.konst ?_))
        · rw [Lib.toList_data, Lib.toList_data, hTl]; exact next2_ne _
        · have : (mk (nextL T.data.toList)).toList ≠ T.toList := by
            rw [Lib.toList_data, Lib.toList_data]; exact next_ne _
          simp only
          rw [bne_iff_ne.2 this]
    rw [hw]
    rcases hd_ with e | e
    · refine Ev.ifp e (Ev.bindc (right_eq T (by omega)) (Ev.ifp ((lab_iff T).2 hnn) (Ev.ifn hTne ?_)))
      refine Ev.bindc (cut_eq T 1 (by omega) (by omega)) (Ev.bindc (cut_eq s 1 (by omega) (by omega)) (Ev.ifp (by rw [hc1]) ?_))
      exact hfin
    · refine Ev.ifn (by omega) (Ev.bindc (right_eq T (by omega)) (Ev.ifp ((lab_iff T).2 hnn) (Ev.ifn hTne (Ev.ifp e ?_))))
      refine Ev.bindc (cut_eq T 1 (by omega) (by omega)) (Ev.bindc (cut_eq s 1 (by omega) (by omega)) (Ev.ifp (by rw [hc1]) ?_))
      exact hfin
  · rw [if_neg c] at hne
    rw [fin_no _ hne]
    refine Ev.ifn (by decide) (Ev.ifp (by rw [Lib.toList_data]) (Ev.bindc (signs_some s (by omega)) (Ev.konst ?_)))
    have : Lab.signs s = 16 := by rw [hsg]; omega
    rw [this]; rfl

theorem LabelFollows : packhorselaw01_LabelFollows.PureQ := by
  intro s n hs hn
  have hn2 := (wf64 hn).2
  refine Ev.rounds ?_
  refine Ev.bindc alive_ (Ev.ifp rfl ?_)
  refine Ev.bindc (right_eq s hs) ?_
  by_cases c : lab s = true
  · have h := (lab_iff s).1 c
    have hsz := lab_size s h
    refine Ev.ifp c ?_
    by_cases c1 : n ≥ 1
    · refine Ev.ifp c1 ?_
      obtain ⟨q1, q2⟩ := cut_lab s n h c1
      have q3 := cut_size s n.toNat h
      refine Ev.bindc (cut_eq s n (by omega) hn2) ?_
      refine Ev.bindc (right_eq _ (by omega)) (Ev.ifp ((lab_iff _).2 (by rw [q1]; exact q2)) ?_)
      refine Ev.bindc (signs_some _ q3) (Ev.bindc (signs_some s (by omega)) ?_)
      have hsg : Lab.signs s = ((rl s).length : Int) := by rw [signs_rl, if_neg (by have := List.length_pos_iff.2 h; omega)]
      have e : Lab.signs (mk (cat ((rl s).take n.toNat))) = mn n (Lab.signs s) := by
        rw [signs_rl, q1, hsg, if_neg (by have := List.length_pos_iff.2 q2; omega), List.length_take]
        unfold mn
        split <;> omega
      rw [e, bne_self_eq_false]
      exact follows_j s h
    · exact Ev.ifn c1 (follows_j s h)
  · exact Ev.ifn c (Ev.now true)
end Go.Proofs.YtdifpehainbkmaaDoor.Pure
