/- Layer 01 (label): the signs of a label, of its first ones, and with digits behind it: plain. -/
import Derived.Test.YtdifpehainbkmaaDoorLabNext
set_option linter.unusedVariables false
namespace Go.Proofs.YtdifpehainbkmaaDoor.Pure
open Go.RowKit Go.Proofs.YtdifpehainbkmaaDoor Go.Proofs.YtdifpehainbkmaaDoor.PAll Go.Proofs.YtdifpehainbkmaaDoorW.PrintWords Go.Proofs.YtdifpehainbkmaaDoorW.PrintLast Go.Proofs.YtdifpehainbkmaaDoorW.PrintMore

/-- The signs of a text; none: it is no label. -/
def rl (s : ByteArray) : List ByteArray := Lab.rlist s s.size 0 []
theorem signs_rl (s : ByteArray) : Lab.signs s = if (rl s).length = 0 then -1 else ((rl s).length : Int) := Lab.rlist_signs s
theorem lab_iff (s : ByteArray) : lab s = true ↔ rl s ≠ [] := by
  unfold lab
  rw [signs_rl, decide_eq_true_eq, ← List.length_pos_iff]
  split <;> omega
theorem get_mk (l : List UInt8) (i : Nat) : (mk l).get! i = l.getD i 0 := by
  show l.toArray[i]! = _
  simp [List.getD_eq_getElem?_getD]
  rfl
theorem rlist_step (s : ByteArray) (g pos : Nat) (out : List ByteArray) (h : pos < s.size) : Lab.rlist s (g + 1) pos out = if (Lab.sign s pos).1 = 0 ∨ (out.length = 0 ∧ (Lab.sign s pos).2 = false) ∨ out.length = 16 then [] else Lab.rlist s g (pos + (Lab.sign s pos).1) (out ++ [s.extract pos (pos + (Lab.sign s pos).1)]) := by
  rw [Lab.rlist, if_pos h]
theorem rlist_fuel (s : ByteArray) : ∀ (g g' pos : Nat) (out : List ByteArray), s.size ≤ pos + g → s.size ≤ pos + g' → Lab.rlist s g pos out = Lab.rlist s g' pos out := by
  intro g
  induction g with
  | zero => intro g' pos out h h'; rw [Lab.rlist_end s 0 pos out (by omega), Lab.rlist_end s g' pos out (by omega)]
  | succ g ih =>
    intro g' pos out h h'
    by_cases hp : pos < s.size
    · obtain ⟨m, rfl⟩ : ∃ m, g' = m + 1 := ⟨g' - 1, by omega⟩
      rw [rlist_step s g pos out hp, rlist_step s m pos out hp]
      split
      · rfl
      · next hc => exact ih m _ _ (by omega) (by omega)
    · rw [Lab.rlist_end s _ pos out hp, Lab.rlist_end s _ pos out hp]
/-- How far a sign reaches. -/
theorem sign_fits (s : ByteArray) (p : Nat) (h : p < s.size) : p + (Lab.sign s p).1 ≤ s.size := by
  unfold Lab.sign
  repeat (first | split | (simp only; omega))
theorem rlist_pre (s : ByteArray) : ∀ (g pos : Nat) (out : List ByteArray), s.size ≤ pos + g → Lab.rlist s g pos out ≠ [] → ∃ z, Lab.rlist s g pos out = out ++ z := by
  intro g
  induction g with
  | zero => intro pos out h _; exact ⟨[], by rw [Lab.rlist_end s 0 pos out (by omega), List.append_nil]⟩
  | succ g ih =>
    intro pos out h hne
    by_cases hp : pos < s.size
    · rw [rlist_step s g pos out hp] at hne ⊢
      by_cases hc : (Lab.sign s pos).1 = 0 ∨ (out.length = 0 ∧ (Lab.sign s pos).2 = false) ∨ out.length = 16
      · rw [if_pos hc] at hne; exact absurd rfl hne
      · rw [if_neg hc] at hne ⊢
        obtain ⟨z, hz⟩ := ih _ _ (by omega) hne
        exact ⟨_, by rw [hz, List.append_assoc]⟩
    · exact ⟨[], by rw [Lab.rlist_end s _ pos out hp, List.append_nil]⟩

/-- The bytes of signs. -/
def cat (l : List ByteArray) : List UInt8 := l.flatMap (fun x => x.data.toList)
theorem cat_snoc (l : List ByteArray) (x : ByteArray) : cat (l ++ [x]) = cat l ++ x.data.toList := by
  unfold cat; simp
theorem ext_list (s : ByteArray) (a w : Nat) : (s.extract a (a + w)).data.toList = (s.data.toList.drop a).take w := by
  simp [List.take_drop]
theorem rlist_cat (s : ByteArray) : ∀ (g pos : Nat) (out : List ByteArray), s.size ≤ pos + g → pos ≤ s.size → cat out = s.data.toList.take pos → Lab.rlist s g pos out ≠ [] → cat (Lab.rlist s g pos out) = s.data.toList := by
  intro g
  induction g with
  | zero =>
    intro pos out h hp hc _
    rw [Lab.rlist_end s 0 pos out (by omega), hc, List.take_of_length_le (by rw [len_size]; omega)]
  | succ g ih =>
    intro pos out h hps hcat hne
    by_cases hp : pos < s.size
    · rw [rlist_step s g pos out hp] at hne ⊢
      by_cases hc : (Lab.sign s pos).1 = 0 ∨ (out.length = 0 ∧ (Lab.sign s pos).2 = false) ∨ out.length = 16
      · rw [if_pos hc] at hne; exact absurd rfl hne
      · rw [if_neg hc] at hne ⊢
        refine ih _ _ (by omega) (sign_fits s pos hp) ?_ hne
        rw [cat_snoc, hcat, ext_list, ← List.take_add]
    · rw [Lab.rlist_end s _ pos out hp, hcat, List.take_of_length_le (by rw [len_size]; omega)]
theorem rl_cat (s : ByteArray) (h : rl s ≠ []) : cat (rl s) = s.data.toList := rlist_cat s s.size 0 [] (by omega) (by omega) rfl h

/-- Where label.Cut's loop ends. -/
def bnd (s : ByteArray) : Nat → Nat → Int → Nat
  | 0, _, _ => s.size
  | g + 1, pos, n => if pos < s.size then (if n ≤ 0 then pos else bnd s g (pos + (Utf8.decode s pos).2) (n - 1)) else s.size
theorem cutS_bnd (s : ByteArray) : ∀ (g pos : Nat) (n : Int), Lab.cutS s g pos n = s.extract 0 (bnd s g pos n) := by
  have full : s.extract 0 s.size = s := by
    have u_ := mk_extract s.data.toList s.size
    rw [mk_list, List.take_of_length_le (by rw [len_size]; omega), mk_list] at u_
    exact u_
  intro g
  induction g with
  | zero => intro pos n; rw [Lab.cutS, bnd, full]
  | succ g ih =>
    intro pos n
    rw [Lab.cutS, bnd]
    split
    · split
      · rfl
      · exact ih _ _
    · exact full.symm
theorem sign_take (l : List UInt8) (p e : Nat) (hp : 0 < (Lab.sign (mk l) p).1) (he : p + (Lab.sign (mk l) p).1 ≤ e) (hel : e ≤ l.length) : Lab.sign (mk (l.take e)) p = Lab.sign (mk l) p := by
  have g0 : (l.take e).getD p 0 = l.getD p 0 := by
    simp only [List.getD_eq_getElem?_getD, List.getElem?_take]; rw [if_pos (by omega)]
  have hlen : (l.take e).length = e := by rw [List.length_take]; omega
  unfold Lab.sign at *
  simp only [get_mk, mk_size, hlen, g0] at *
  by_cases c1 : 97 ≤ (l.getD p 0).toNat ∧ (l.getD p 0).toNat ≤ 122
  · rw [if_pos c1, if_pos c1]
  · rw [if_neg c1] at *
    rw [if_neg c1]
    by_cases c2 : (48 ≤ (l.getD p 0).toNat ∧ (l.getD p 0).toNat ≤ 57) ∨ (l.getD p 0).toNat = 45
    · rw [if_pos c2, if_pos c2]
    · rw [if_neg c2] at *
      rw [if_neg c2]
      by_cases c3 : l.length ≤ p + 1
      · rw [if_pos c3] at hp; exact absurd hp (by decide)
      · rw [if_neg c3] at hp he
        rw [if_neg c3]
        by_cases c4 : ((l.getD p 0).toNat = 206 ∧ 177 ≤ (l.getD (p + 1) 0).toNat ∧ (l.getD (p + 1) 0).toNat ≤ 191) ∨ ((l.getD p 0).toNat = 207 ∧ 128 ≤ (l.getD (p + 1) 0).toNat ∧ (l.getD (p + 1) 0).toNat ≤ 137)
        · rw [if_pos c4] at he
          have g1 : (l.take e).getD (p + 1) 0 = l.getD (p + 1) 0 := by
            simp only [List.getD_eq_getElem?_getD, List.getElem?_take]; rw [if_pos (by omega)]
          rw [g1, if_pos c4, if_neg (show ¬ e ≤ p + 1 by simp only at he; omega)]
        · rw [if_neg c4] at hp; exact absurd hp (by decide)
theorem sign_app (h ds : List UInt8) (hds : ∀ x ∈ ds, dig x = true) (p : Nat) (hp : p < h.length) : Lab.sign (mk (h ++ ds)) p = Lab.sign (mk h) p := by
  have g0 : (h ++ ds).getD p 0 = h.getD p 0 := by
    simp only [List.getD_eq_getElem?_getD, List.getElem?_append_left hp]
  have hlen : (h ++ ds).length = h.length + ds.length := List.length_append
  unfold Lab.sign
  simp only [get_mk, mk_size, hlen, g0]
  by_cases c1 : 97 ≤ (h.getD p 0).toNat ∧ (h.getD p 0).toNat ≤ 122
  · rw [if_pos c1, if_pos c1]
  · rw [if_neg c1, if_neg c1]
    by_cases c2 : (48 ≤ (h.getD p 0).toNat ∧ (h.getD p 0).toNat ≤ 57) ∨ (h.getD p 0).toNat = 45
    · rw [if_pos c2, if_pos c2]
    · rw [if_neg c2, if_neg c2]
      by_cases q : p + 1 < h.length
      · have g1 : (h ++ ds).getD (p + 1) 0 = h.getD (p + 1) 0 := by
          simp only [List.getD_eq_getElem?_getD, List.getElem?_append_left q]
        rw [g1, if_neg (show ¬ h.length + ds.length ≤ p + 1 by omega), if_neg (show ¬ h.length ≤ p + 1 by omega)]
      · rw [if_pos (show h.length ≤ p + 1 by omega)]
        cases ds with
        | nil => rw [if_pos (show h.length + ([] : List UInt8).length ≤ p + 1 by simp only [List.length_nil]; omega)]
        | cons d ds =>
          have g1 : (h ++ d :: ds).getD (p + 1) 0 = d := by
            simp only [List.getD_eq_getElem?_getD, List.getElem?_append_right (show h.length ≤ p + 1 by omega), show p + 1 - h.length = 0 by omega]; rfl
          have hd_ := hds d List.mem_cons_self
          unfold dig at hd_
          rw [Bool.and_eq_true, decide_eq_true_eq, decide_eq_true_eq] at hd_
          rw [g1, if_neg (show ¬ h.length + (d :: ds).length ≤ p + 1 by simp only [List.length_cons]; omega), if_neg (by omega)]
theorem sign_dig (l : List UInt8) (p : Nat) (h : dig (l.getD p 0) = true) : Lab.sign (mk l) p = (1, false) := by
  unfold dig at h
  rw [Bool.and_eq_true, decide_eq_true_eq, decide_eq_true_eq] at h
  unfold Lab.sign
  simp only [get_mk]
  rw [if_neg (by omega), if_pos (.inl h)]

theorem pre (l : List UInt8) : ∀ (g pos : Nat) (out : List ByteArray) (n : Int), l.length ≤ pos + g → pos ≤ l.length → Lab.rlist (mk l) g pos out ≠ [] →
    pos ≤ bnd (mk l) g pos n ∧ bnd (mk l) g pos n ≤ l.length ∧ Lab.rlist (mk (l.take (bnd (mk l) g pos n))) g pos out = (Lab.rlist (mk l) g pos out).take (out.length + n.toNat) := by
  intro g
  induction g with
  | zero =>
    intro pos out n h hpl hne
    rw [bnd, mk_size, List.take_of_length_le (Nat.le_refl _), Lab.rlist_end (mk l) 0 pos out (by rw [mk_size]; omega), List.take_of_length_le (by omega)]
    exact ⟨hpl, Nat.le_refl _, rfl⟩
  | succ g ih =>
    intro pos out n h hpl hne
    by_cases hp : pos < (mk l).size
    · have hp2 : pos < l.length := by rw [mk_size] at hp; exact hp
      by_cases n0 : n ≤ 0
      · obtain ⟨z, hz⟩ := rlist_pre (mk l) (g + 1) pos out (by rw [mk_size]; omega) hne
        rw [bnd, if_pos hp, if_pos n0, Lab.rlist_end (mk (l.take pos)) _ pos out (by rw [mk_size, List.length_take]; omega), hz, show out.length + n.toNat = out.length by omega, List.take_left' rfl]
        exact ⟨Nat.le_refl _, hpl, rfl⟩
      · rw [rlist_step (mk l) g pos out hp] at hne ⊢
        by_cases hc : (Lab.sign (mk l) pos).1 = 0 ∨ (out.length = 0 ∧ (Lab.sign (mk l) pos).2 = false) ∨ out.length = 16
        · rw [if_pos hc] at hne; exact absurd rfl hne
        · rw [if_neg hc] at hne
          have hw : 0 < (Lab.sign (mk l) pos).1 := by omega
          have hd := (Lab.decode_sign (mk l) pos hp).2.2 hw
          have hfit := sign_fits (mk l) pos hp
          rw [mk_size] at hfit
          rw [bnd, if_pos hp, if_neg n0, hd.1]
          obtain ⟨i1, i2, i3⟩ := ih (pos + (Lab.sign (mk l) pos).1) (out ++ [(mk l).extract pos (pos + (Lab.sign (mk l) pos).1)]) (n - 1) (by omega) (by omega) hne
          generalize hE : bnd (mk l) g (pos + (Lab.sign (mk l) pos).1) (n - 1) = e at *
          have hst := sign_take l pos e hw i1 i2
          have hex : (mk (l.take e)).extract pos (pos + (Lab.sign (mk l) pos).1) = (mk l).extract pos (pos + (Lab.sign (mk l) pos).1) := by
            rw [← mk_list ((mk (l.take e)).extract pos (pos + (Lab.sign (mk l) pos).1)), ← mk_list ((mk l).extract pos (pos + (Lab.sign (mk l) pos).1)), ext_list, ext_list]
            have q1 : (mk (l.take e)).data.toList = l.take e := rfl
            have q2 : (mk l).data.toList = l := rfl
            rw [q1, q2, List.drop_take, List.take_take]
            congr 2
            omega
          rw [rlist_step (mk (l.take e)) g pos out (by rw [mk_size, List.length_take]; omega), hst, if_neg hc, if_neg hc, hex, i3]
          refine ⟨by omega, i2, ?_⟩
          congr 1
          rw [List.length_append, List.length_cons, List.length_nil]
          omega
    · have hp2 : pos = l.length := by rw [mk_size] at hp; omega
      rw [bnd, if_neg hp, mk_size, List.take_of_length_le (Nat.le_refl _), Lab.rlist_end (mk l) _ pos out hp, List.take_of_length_le (by omega)]
      exact ⟨hpl, Nat.le_refl _, rfl⟩

/-- The first n signs. -/
theorem cut_rl (s : ByteArray) (n : Int) (h : rl s ≠ []) : rl (Lab.cutS s s.size 0 n) = (rl s).take n.toNat ∧ Lab.cutS s s.size 0 n = mk (cat ((rl s).take n.toNat)) := by
  have hl := len_size s
  obtain ⟨i1, i2, i3⟩ := pre s.data.toList s.size 0 [] n (by omega) (by omega) (by rw [mk_list]; exact h)
  rw [mk_list] at i1 i2 i3
  have he : Lab.cutS s s.size 0 n = mk (s.data.toList.take (bnd s s.size 0 n)) := by
    rw [cutS_bnd]
    have u_ := mk_extract s.data.toList (bnd s s.size 0 n)
    rw [mk_list] at u_
    exact u_
  have e1 : rl (Lab.cutS s s.size 0 n) = (rl s).take n.toNat := by
    rw [he]
    unfold rl
    rw [rlist_fuel _ _ s.size 0 [] (by omega) (by rw [mk_size, List.length_take]; omega), i3]
    simp
  refine ⟨e1, ?_⟩
  by_cases c : (rl s).take n.toNat = []
  · rw [c]
    have hs0 : 0 < s.size := by
      by_cases q : 0 < s.size
      · exact q
      · exact absurd (Lab.rlist_end s s.size 0 [] q) h
    have hn : n ≤ 0 := by
      have := congrArg List.length c
      rw [List.length_take, List.length_nil] at this
      have := List.length_pos_iff.2 h
      omega
    obtain ⟨g, hg⟩ : ∃ g, s.size = g + 1 := ⟨s.size - 1, by omega⟩
    have hb : bnd s s.size 0 n = 0 := by rw [hg, bnd, if_pos hs0, if_pos hn]
    rw [he, hb]; rfl
  · rw [← e1] at c
    have q := rl_cat _ c
    rw [e1] at q
    rw [q, mk_list]

theorem cat_len : ∀ (l : List ByteArray) (n : Nat), (cat (l.take n)).length ≤ (cat l).length := by
  intro l n
  conv => rhs; rw [← List.take_append_drop n l]
  unfold cat
  rw [List.flatMap_append, List.length_append]
  omega
theorem cut_l (l : List ByteArray) (n : Int) (hb : (cat l).length ≤ 1000) (hl : l.length ≤ 1000) : ∀ (g i : Nat), l.length = i + g → Ev (fun k => packhorseref01_Cut.l0 k n (mk (cat (l.take (min i n.toNat)))) l (l.length : Int) (i : Int)) (mk (cat (l.take n.toNat))) := by
  intro g
  induction g with
  | zero =>
    intro i h
    refine Ev.step (fun k => rfl) (Ev.ifn (by omega) (Ev.konst ?_))
    by_cases c : i ≤ n.toNat
    · rw [show min i n.toNat = i by omega, List.take_of_length_le (i := i) (by omega), List.take_of_length_le (by omega)]
    · rw [show min i n.toNat = n.toNat by omega]
  | succ g ih =>
    intro i h
    have e : wrap64 ((i : Int) + 1) = ((i + 1 : Nat) : Int) := by rw [w64 (by omega) (by omega)]; omega
    refine Ev.step (fun k => rfl) (Ev.ifp (by omega) (Ev.ifp (by omega) (Ev.ifp (by omega) ?_)))
    rw [e]
    have hi := ih (i + 1) (by omega)
    by_cases c : (i : Int) < n
    · refine Ev.ifp c ?_
      have hil : i < l.length := by omega
      have hr : rdOf ByteArray.empty l (i : Int) = l[i] := by
        unfold rdOf; simp [hil]
      have hc2 : cat (l.take (i + 1)) = cat (l.take i) ++ l[i].data.toList := by
        rw [List.take_succ_eq_append_getElem hil, cat_snoc]
      have hle := cat_len l (i + 1)
      rw [hc2, List.length_append, len_size] at hle
      rw [hr, show min i n.toNat = i by omega, mk_size]
      refine Ev.ifp (by omega) ?_
      rw [show min (i + 1) n.toNat = i + 1 by omega, hc2, ← mk_append, mk_list] at hi
      exact hi
    · refine Ev.ifn c ?_
      rw [show min i n.toNat = n.toNat by omega]
      rw [show min (i + 1) n.toNat = n.toNat by omega] at hi
      exact hi
theorem rl_len16 (s : ByteArray) : (rl s).length ≤ 16 := by
  have h := Lab.rlist_scan s s.size 0 [] (by omega) (by simp)
  unfold rl
  split at h <;> omega
theorem cut_ref (s : ByteArray) (n : Int) (hs : s.size ≤ 1000) : Ev (fun k => packhorseref01_Cut.f k s n) (mk (cat ((rl s).take n.toNat))) := by
  refine Ev.bind (signs_ref s (by omega)) ?_
  have hl : (cat (rl s)).length ≤ 1000 := by
    by_cases c : rl s = []
    · rw [c]; simp [cat]
    · rw [rl_cat s c, len_size]; exact hs
  exact cut_l (rl s) n hl (by have := rl_len16 s; omega) (rl s).length 0 (by omega)
theorem cut_eq (s : ByteArray) (n : Int) (hs : s.size ≤ 1000) (hn : n ≤ 9223372036854775807) : label_Cut.f s n = some (mk (cat ((rl s).take n.toNat))) := by
  unfold label_Cut.f
  refine O.p ⟨by omega, hn⟩ (O.b (right_eq s (by omega)) ?_)
  by_cases c : lab s = true
  · refine O.p c ?_
    rw [(cut_rl s n ((lab_iff s).1 c)).2]
  · refine O.n c ?_
    have : rl s = [] := by
      by_cases q : rl s = []
      · exact q
      · exact absurd ((lab_iff s).2 q) c
    rw [this]; simp [cat]; rfl
end Go.Proofs.YtdifpehainbkmaaDoor.Pure
