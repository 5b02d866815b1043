
import Derived.Test.YtmcdbjcbfjnfoaaDoorQOrderTakesLabGo
namespace Go.Proofs.YtmcdbjcbfjnfoaaDoor.Pure
open Go.RowKit Go.Proofs.YtmcdbjcbfjnfoaaDoor Go.Proofs.YtmcdbjcbfjnfoaaDoor.PAll Go.Proofs.YtmcdbjcbfjnfoaaDoorW.PrintWords Go.Proofs.YtmcdbjcbfjnfoaaDoorW.PrintLast Go.Proofs.YtmcdbjcbfjnfoaaDoorW.PrintMore
theorem bt_eq (s : ByteArray) (i : Nat) (h : i < s.size) : bt s (i : Int) = ((s.get! i).toNat : Int) := by
  unfold bt
  rw [dif_pos (show (i : Int).toNat < s.size from h)]
  have : s.get! i = s[i]'h := get_at s i h
  rw [this]; rfl
theorem sign_eq (s : ByteArray) (i : Nat) (h : i < s.size) (hs : s.size ≤ 140737488351232) : Ev (fun k => packhorseref01_sign.f k s (i : Int)) (((Lab.sign s i).1 : Int), (Lab.sign s i).2) := by
  have hb := bt_eq s i h
  have g0 : (s.get! i).toNat < 256 := UInt8.toNat_lt _
  have g1 : (s.get! (i + 1)).toNat < 256 := UInt8.toNat_lt _
  have wi : wrap64 ((i : Int) + 1) = ((i + 1 : Nat) : Int) := w64 (by omega) (by omega)
  have tail1 : ¬ (97 ≤ (s.get! i).toNat ∧ (s.get! i).toNat ≤ 122) → ¬ ((48 ≤ (s.get! i).toNat ∧ (s.get! i).toNat ≤ 57) ∨ (s.get! i).toNat = 45) →
      Ev (fun k => packhorseref01_sign.j1 k s (i : Int) ((s.get! i).toNat : Int) false) (((Lab.sign s i).1 : Int), (Lab.sign s i).2) := by
    intro n1 n2
    refine Ev.of (packhorseref01_sign.mono_l · |>.2 _ _ _ _) (k := 1) ?_
    rw [packhorseref01_sign.j1, if_neg (by decide), wi]
    unfold Lab.sign
    rw [if_neg n1, if_neg n2]
    by_cases c : s.size ≤ i + 1
    · rw [if_pos (by omega), if_pos c]; rfl
    · have hb1 := bt_eq s (i + 1) (by omega)
      rw [if_neg (by omega), if_neg c, if_pos (by omega), if_pos (by omega), hb1]
      generalize (s.get! i).toNat = b0 at *
      generalize (s.get! (i + 1)).toNat = b1 at *
      by_cases d : (b0 = 206 ∧ 177 ≤ b1 ∧ b1 ≤ 191) ∨ (b0 = 207 ∧ 128 ≤ b1 ∧ b1 ≤ 137)
      · rw [if_pos d]
        rcases d with ⟨e0, e1, e2⟩ | ⟨e0, e1, e2⟩
        · rw [if_pos (by omega), if_pos (by omega), if_pos (by omega)]; rfl
        · rw [if_neg (by omega), if_pos (by omega), if_pos (by omega), if_pos (by omega)]; rfl
      · rw [if_neg d]
        repeat' split
        all_goals first | rfl | (exfalso; omega)
  have tail0 : ¬ (97 ≤ (s.get! i).toNat ∧ (s.get! i).toNat ≤ 122) →
      Ev (fun k => packhorseref01_sign.j0 k s (i : Int) ((s.get! i).toNat : Int) false) (((Lab.sign s i).1 : Int), (Lab.sign s i).2) := by
    intro n1
    have yes : (48 ≤ (s.get! i).toNat ∧ (s.get! i).toNat ≤ 57) ∨ (s.get! i).toNat = 45 → Ev (fun k => packhorseref01_sign.j1 k s (i : Int) ((s.get! i).toNat : Int) true) (((Lab.sign s i).1 : Int), (Lab.sign s i).2) := by
      intro c
      refine Ev.of (packhorseref01_sign.mono_l · |>.2 _ _ _ _) (k := 1) ?_
      rw [packhorseref01_sign.j1, if_pos rfl]
      unfold Lab.sign
      rw [if_neg n1, if_pos c]; rfl
    refine Ev.step (fun k => by rw [packhorseref01_sign.j0, if_neg (by decide)]) ?_
    by_cases c1 : 48 ≤ (s.get! i).toNat
    · refine Ev.ifp (by omega) ?_
      by_cases c2 : (s.get! i).toNat ≤ 57
      · refine Ev.ifp (by omega) (yes (.inl ⟨c1, c2⟩))
      · refine Ev.ifn (by omega) ?_
        rw [show (((s.get! i).toNat : Int) == 45) = false from by rw [beq_eq_false_iff_ne]; omega]
        exact tail1 n1 (by omega)
    · refine Ev.ifn (by omega) ?_
      by_cases c3 : (s.get! i).toNat = 45
      · rw [show (((s.get! i).toNat : Int) == 45) = true from by rw [beq_iff_eq]; omega]
        exact yes (.inr c3)
      · rw [show (((s.get! i).toNat : Int) == 45) = false from by rw [beq_eq_false_iff_ne]; omega]
        exact tail1 n1 (by omega)
  unfold packhorseref01_sign.f
  refine Ev.ifp (by omega) (Ev.ifp (by omega) ?_)
  rw [hb]
  by_cases c1 : 97 ≤ (s.get! i).toNat
  · refine Ev.ifp (by omega) ?_
    by_cases c2 : (s.get! i).toNat ≤ 122
    · rw [decide_eq_true (by omega)]
      refine Ev.of (packhorseref01_sign.mono_l · |>.1 _ _ _ _) (k := 1) ?_
      rw [packhorseref01_sign.j0, if_pos rfl]
      unfold Lab.sign
      rw [if_pos ⟨c1, c2⟩]; rfl
    · rw [decide_eq_false (by omega)]
      exact tail0 (by omega)
  · exact Ev.ifn (by omega) (tail0 (by omega))
theorem signs_l (s : ByteArray) (hs : s.size ≤ 140737488351232) : ∀ (g pos : Nat) (out : List ByteArray), s.size ≤ pos + g → pos ≤ s.size → out.length ≤ 16 →
    Ev (fun k => packhorseref01_Signs.l0 k s out (pos : Int)) (Lab.rlist s g pos out) := by
  intro g
  induction g with
  | zero =>
    intro pos out h hp ho
    refine Ev.step (f := fun _ => some out) (fun k => ?_) (Ev.now _)
    rw [packhorseref01_Signs.l0, if_neg (by omega)]
  | succ g ih =>
    intro pos out h hp ho
    by_cases c : pos < s.size
    · have hsz := (Lab.decode_sign s pos c).2.2
      rw [Lab.rlist, if_pos c]
      refine Ev.step (fun k => by rw [packhorseref01_Signs.l0, if_pos (by omega)]) ?_
      refine Ev.bind (sign_eq s pos c hs) ?_
      simp only
      by_cases z : (Lab.sign s pos).1 = 0
      · refine Ev.ifp (by omega) ?_
        rw [if_pos (.inl z)]
        exact Ev.now _
      · refine Ev.ifn (by omega) ?_
        have hz := (hsz (by omega)).2.1
        have go : out.length ≠ 16 → Ev (fun k => if 0 ≤ (pos : Int) then (if (pos : Int) ≤ (wrap64 ((pos : Int) + ((Lab.sign s pos).1 : Int))) then (if (wrap64 ((pos : Int) + ((Lab.sign s pos).1 : Int))) ≤ (s.size : Int) then (if out.length < 8796093022208 then (packhorseref01_Signs.l0 k s (out ++ [s.extract (pos : Int).toNat ((wrap64 ((pos : Int) + ((Lab.sign s pos).1 : Int))) : Int).toNat]) (wrap64 ((pos : Int) + ((Lab.sign s pos).1 : Int)))) else (none)) else (none)) else (none)) else (none)) (Lab.rlist s g (pos + (Lab.sign s pos).1) (out ++ [s.extract pos (pos + (Lab.sign s pos).1)])) := by
          intro n16
          have wi : wrap64 ((pos : Int) + ((Lab.sign s pos).1 : Int)) = ((pos + (Lab.sign s pos).1 : Nat) : Int) := w64 (by omega) (by omega)
          rw [wi]
          refine Ev.ifp (by omega) (Ev.ifp (by omega) (Ev.ifp (by omega) (Ev.ifp (by omega) ?_)))
          rw [Int.toNat_natCast, Int.toNat_natCast]
          exact ih _ _ (by omega) (by omega) (by simp; omega)
        by_cases l0 : out.length = 0
        · refine Ev.ifp (by omega) ?_
          by_cases b : (Lab.sign s pos).2 = true
          · refine Ev.ifp b (Ev.ifn (by omega) ?_)
            rw [if_neg (by rintro (h1 | ⟨_, h1⟩ | h1); · exact z h1
                           · rw [b] at h1; cases h1
                           · omega)]
            exact go (by omega)
          · refine Ev.ifn b ?_
            rw [if_pos (.inr (.inl ⟨l0, by simpa using b⟩))]
            exact Ev.now _
        · refine Ev.ifn (by omega) ?_
          by_cases l16 : out.length = 16
          · refine Ev.ifp (by omega) ?_
            rw [if_pos (.inr (.inr l16))]
            exact Ev.now _
          · refine Ev.ifn (by omega) ?_
            rw [if_neg (by rintro (h1 | ⟨h1, _⟩ | h1); · exact z h1
                           · exact l0 h1
                           · exact l16 h1)]
            exact go l16
    · rw [Lab.rlist_end s _ _ _ c]
      refine Ev.step (f := fun _ => some out) (fun k => ?_) (Ev.now _)
      rw [packhorseref01_Signs.l0, if_neg (by omega)]
theorem signs_ref (s : ByteArray) (hs : s.size ≤ 140737488351232) : Ev (fun k => packhorseref01_Signs.f k s) (Lab.rlist s s.size 0 []) := by
  unfold packhorseref01_Signs.f
  exact signs_l s hs s.size 0 [] (by omega) (by omega) (by simp)
theorem right_ref (s : ByteArray) (hs : s.size ≤ 140737488351232) : Ev (fun k => packhorseref01_Right.f k s) (lab s) := by
  unfold packhorseref01_Right.f
  refine Ev.bind (signs_ref s hs) ?_
  have e : decide (((Lab.rlist s s.size 0 []).length : Int) > 0) = lab s := by
    unfold lab
    rw [Lab.rlist_signs]
    by_cases c : (Lab.rlist s s.size 0 []).length = 0
    · rw [if_pos c, c]; decide
    · rw [if_neg c]
  rw [e]
  exact Ev.now _
end Go.Proofs.YtmcdbjcbfjnfoaaDoor.Pure
