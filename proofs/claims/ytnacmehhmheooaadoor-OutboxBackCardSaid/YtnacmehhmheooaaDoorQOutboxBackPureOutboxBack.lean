
import Derived.Test.YtnacmehhmheooaaDoorQOutboxBackOutGo
set_option linter.unusedVariables false
namespace Go.Proofs.YtnacmehhmheooaaDoor.Pure
open Go.RowKit Go.Proofs.YtnacmehhmheooaaDoor Go.Proofs.YtnacmehhmheooaaDoor.PAll Go.Proofs.YtnacmehhmheooaaDoorW.PrintWords Go.Proofs.YtnacmehhmheooaaDoorW.PrintLast Go.Proofs.YtnacmehhmheooaaDoorW.PrintMore
theorem alive : Ev (fun k => packhorselaw13_outboxAlive.f k) true := Ev.of (packhorselaw13_outboxAlive.mono ·) (k := 60) (by decide +kernel)
theorem rd_last (l : List S27) (x : S27) : rd_T27 (l ++ [x]) (l.length : Int) = x := by
  rw [rd_27 (l ++ [x]) l.length (by simp)]; exact get_last l x _ _ rfl
theorem add_O (l : List S27) (x : S27) (hs : x.f5.size ≤ 140737488351232) (hr : rightE 0 l = true) (hn : l.length ≤ 60) :
    Ev (fun k => outbox_Add.f k l x.f0 x.f1 x.f2 x.f3 x.f4 x.f5) (([] : List S27), 131) ∨ ((∀ y ∈ l, y.f0 < x.f0) ∧ Ev (fun k => outbox_Add.f k l x.f0 x.f1 x.f2 x.f3 x.f4 x.f5) (l ++ [x], 0)) := by
  unfold outbox_Add.f
  have one := one_eq x hs
  cases c : oneE x
  · rw [c] at one
    exact .inl (Ev.bind one (Ev.ifn (by decide) (Ev.now _)))
  rw [c] at one
  have app : Ev (fun k => (api_Effect_32.f l).bind fun t118 => ((some (([(⟨x.f0, x.f1, x.f2, x.f3, x.f4, x.f5⟩ : S27)] : List (S27)) : List (S27))).bind fun y121 => (if t118.length + y121.length < 2513169434916 then (some ((t118 ++ y121), (0 : Int))) else (none)))) (l ++ [x], 0) := by
    refine Ev.bindc (a := l) (by unfold api_Effect_32.f; rw [if_pos (by omega)]) (Ev.bindc rfl (Ev.ifp ?_ (Ev.now _)))
    simp only [List.length_singleton]; omega
  by_cases cl : (l.length : Int) > 0
  · have e : rd_T27 l (wrap64 ((l.length : Int) - 1)) = l[l.length - 1]'(by omega) := by
      rw [w64 (by omega) (by omega), show (l.length : Int) - 1 = ((l.length - 1 : Nat) : Int) from by omega, rd_27 l (l.length - 1) (by omega)]
    have w : wrap64 ((l.length : Int) - 1) = (l.length : Int) - 1 := w64 (by omega) (by omega)
    rw [e, w]
    by_cases g : (l[l.length - 1]'(by omega)).f0 ≥ x.f0
    · exact .inl (Ev.bind one (Ev.ifp rfl (Ev.ifp cl (Ev.ifp (by omega) (Ev.ifp (by omega) (Ev.ifp g (Ev.now _)))))))
    · refine .inr ⟨fun y hy => ?_, Ev.bind one (Ev.ifp rfl (Ev.ifp cl (Ev.ifp (by omega) (Ev.ifp (by omega) (Ev.ifn g app)))))⟩
      obtain ⟨j, hj, e⟩ := List.mem_iff_getElem.1 hy
      by_cases cj : j = l.length - 1
      · subst cj; rw [← e]; omega
      · have := rightE_rise hr j (l.length - 1) hj (by omega) (by omega)
        rw [← e]; omega
  · have : l = [] := List.eq_nil_of_length_eq_zero (by omega)
    refine .inr ⟨fun y hy => by rw [this] at hy; exact absurd hy (by simp), Ev.bind one (Ev.ifp rfl (Ev.ifn cl app))⟩
section
variable (l : List S27) (x : S27) (hr : rightE 0 l = true) (hn : l.length ≤ 60) (hl : ∀ y ∈ l, y.f0 < x.f0)
include hr hn hl
theorem settle_O : Ev (fun k => outbox_Settle.f k (l ++ [x]) x.f0) (l, 0) := by
  unfold outbox_Settle.f
  refine Ev.bind (place_last l x (rightE_rise hr) (by omega) hl) (Ev.ifp rfl (Ev.ifp (by simp only; omega) (Ev.ifp (by simp <;> omega) ?_)))
  simp only
  have w1 : wrap64 ((l.length : Int) + 1) = ((l.length + 1 : Nat) : Int) := by rw [w64 (by omega) (by omega)]; omega
  rw [w1]
  refine Ev.ifp (by omega) (Ev.ifp (by simp) (Ev.bindc (a := l) ?_ (Ev.now _)))
  unfold api_Effect_34.f
  have e : ([(l ++ [x]).take ((l.length : Int)).toNat, (l ++ [x]).drop (((l.length + 1 : Nat) : Int)).toNat] : List (List S27)).flatten = l := by
    rw [Int.toNat_natCast, Int.toNat_natCast, List.take_left', List.drop_of_length_le (by simp)]
    · simp
    · rfl
  rw [e, if_pos (by omega)]
theorem sent_O (now : Int) : Ev (fun k => outbox_Sent.f k (l ++ [x]) x.f0 now) (([] : List S27), 131) ∨ ∃ u v, Ev (fun k => outbox_Sent.f k (l ++ [x]) x.f0 now) (l ++ [(⟨x.f0, x.f1, u, x.f3, v, x.f5⟩ : S27)], 0) := by
  have P := place_last l x (rightE_rise hr) (by omega) hl
  unfold outbox_Sent.f
  by_cases c : 0 ≤ now ∧ now ≤ 1099511627776
  · obtain ⟨t, ht⟩ : ∃ t, outbox_Backoff.f x.f4 = some t := by unfold outbox_Backoff.f; exact ⟨_, rfl⟩
    refine .inr ⟨mn (wrap64 (now + t)) 1099511627776, mn (wrap64 (x.f4 + 1)) 1000000, Ev.bind P (Ev.ifp rfl (Ev.bindc (day_R now) ?_))⟩
    rw [decide_eq_true c]
    refine Ev.step (fun k => by rw [outbox_Sent.j0, if_neg (by decide)]) ?_
    refine Ev.bindc (a := l ++ [x]) (by unfold api_Effect_32.f; rw [if_pos (by rw [List.length_append, List.length_singleton]; omega)]) (Ev.ifp (by simp only; omega) (Ev.ifp (by simp <;> omega) ?_))
    simp only
    rw [rd_last]
    refine Ev.bindc ht (Ev.bindc rfl ?_)
    have s1 : ∀ (z w : S27), (l ++ [z]).set ((l.length : Int)).toNat w = l ++ [w] := fun z w => by
      rw [Int.toNat_natCast, List.set_append_right _ _ (Nat.le_refl _)]; simp
    rw [s1, rd_last, s1]
    exact Ev.now _
  · refine .inl (Ev.bind P (Ev.ifp rfl (Ev.bindc (day_R now) ?_)))
    rw [decide_eq_false c]
    exact Ev.step (f := fun _ => some (([] : List S27), 131)) (fun k => by rw [outbox_Sent.j0, if_pos (by decide)]) (Ev.now _)
end
section
variable (l : List S27) (x z : S27) (hr : rightE 0 l = true) (hn : l.length ≤ 60) (hl : ∀ y ∈ l, y.f0 < z.f0) (e0 : z.f0 = x.f0) (e1 : z.f1 = x.f1) (e3 : z.f3 = x.f3) (e5 : z.f5 = x.f5)
include hr hn hl e0 e1 e3 e5
theorem back_l (d : Nat) : ∀ (i : Nat), i + d = l.length → Ev (fun k => packhorselaw13_OutboxBack.l0 k l (l ++ [z]) (l.length : Int) (i : Int) x.f0 x.f1 x.f2 x.f3 x.f4 x.f5) true := by
  induction d with
  | zero =>
    intro i h
    refine Ev.step (fun k => by rw [packhorselaw13_OutboxBack.l0, if_neg (by omega)]) ?_
    have f : Ev (fun k => outbox_Find.f k (l ++ [z]) x.f0) (z.f0, z.f1, z.f2, z.f3, z.f4, z.f5, 0) := by
      have P := place_last l z (rightE_rise hr) (by omega) hl
      rw [e0] at P
      unfold outbox_Find.f
      refine Ev.bind P (Ev.ifp rfl (Ev.ifp (by simp only; omega) (Ev.ifp (by simp <;> omega) ?_)))
      simp only
      rw [rd_last]
      exact Ev.now _
    refine Ev.bind f (Ev.ifp rfl (Ev.ifp e0 (Ev.ifp e3 (Ev.ifp (by rw [e5]) ?_))))
    rw [e1, beq_self_eq_true]
    exact Ev.now _
  | succ d ih =>
    intro i h
    have hlt : i < l.length := by omega
    have e : rd_T27 (l ++ [z]) (i : Int) = l[i] := by
      rw [rd_27 (l ++ [z]) i (by simp; omega)]; exact List.getElem_append_left hlt
    refine Ev.step (fun k => by rw [packhorselaw13_OutboxBack.l0, if_pos (by omega), if_pos (by omega), if_pos (by simp; omega), if_pos (by omega), e, rd_27 l i hlt, w64 (x := (i : Int) + 1) (by omega) (by omega)]) ?_
    exact Ev.ifn (by simp) (ih (i + 1) (by omega))
end
theorem OutboxBack : packhorselaw13_OutboxBack.PureQ := by
  intro l a b c d e s now hl _ _ _ _ _ hs _
  refine Ev.rounds (g := fun k => packhorselaw13_OutboxBack.f k l a b c d e s now) ?_
  have fin : Ev (fun k => packhorselaw13_OutboxBack.j0 k l now true a b c d e s) true := Ev.step (f := fun _ => some true) (fun k => by rw [packhorselaw13_OutboxBack.j0, if_pos rfl]) (Ev.now _)
  unfold packhorselaw13_OutboxBack.f
  refine Ev.bind alive (Ev.ifp rfl ?_)
  by_cases c60 : (l.length : Int) > 60
  · exact Ev.ifp c60 fin
  refine Ev.ifn c60 (Ev.bind (right_O l (fun x hx => (hl.2 x hx).2.2.2.2.2) (by omega)) ?_)
  cases hr : rightE 0 l
  · exact fin
  refine Ev.step (fun k => by rw [packhorselaw13_OutboxBack.j0, if_neg (by decide)]) ?_
  have hn : l.length ≤ 60 := by omega
  rcases add_O l ⟨a, b, c, d, e, s⟩ hs hr hn with h | ⟨hk, h⟩
  · exact Ev.bind h (Ev.ifn (by decide) (Ev.now _))
  refine Ev.bind h (Ev.ifp rfl (Ev.bind (settle_O l ⟨a, b, c, d, e, s⟩ hr hn hk) ?_))
  have S := same_O l (by omega)
  rcases sent_O l ⟨a, b, c, d, e, s⟩ hr hn hk now with g | ⟨u, v, g⟩
  · refine Ev.bind g (Ev.ifp rfl (Ev.bind S ?_))
    exact Ev.step (f := fun _ => some true) (fun k => by rw [packhorselaw13_OutboxBack.j1, if_neg (by decide), if_neg (by decide)]; rfl) (Ev.now _)
  · refine Ev.bind g (Ev.ifp rfl (Ev.bind S ?_))
    refine Ev.step (fun k => by rw [packhorselaw13_OutboxBack.j1, if_neg (by decide), if_pos rfl]) ?_
    exact back_l l ⟨a, b, c, d, e, s⟩ ⟨a, b, u, d, v, s⟩ hr hn hk rfl rfl rfl rfl l.length 0 (by omega)
end Go.Proofs.YtnacmehhmheooaaDoor.Pure
