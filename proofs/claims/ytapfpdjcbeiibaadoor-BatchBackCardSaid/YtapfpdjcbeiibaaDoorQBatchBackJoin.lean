
import Derived.Test.YtapfpdjcbeiibaaDoorQBatchBackLibGo0
namespace Go.Proofs.YtapfpdjcbeiibaaDoor.Pure
open Go.RowKit Go.Proofs.YtapfpdjcbeiibaaDoor Go.Proofs.YtapfpdjcbeiibaaDoor.PAll Go.Proofs.YtapfpdjcbeiibaaDoorW.PrintWords Go.Proofs.YtapfpdjcbeiibaaDoorW.PrintLast Go.Proofs.YtapfpdjcbeiibaaDoorW.PrintMore
theorem alive : Ev (fun k => packhorselaw11_batchAlive.f k) true := Ev.of (packhorselaw11_batchAlive.mono ·) (k := 40) (by decide +kernel)
abbrev Bt := Int × Int × Int × Int × Int × ByteArray × ByteArray × ByteArray × List ByteArray × Int
def room (wt w : Int) (l : List ByteArray) (cnt cw : Int) : Prop := (0 ≤ wt ∧ wt ≤ 1000000000000 ∧ 0 ≤ w ∧ w ≤ 1000000000000 ∧ wt + w ≤ 1000000000000) ∧ (l.length = 0 ∨ ((l.length : Int) < cnt ∧ wt + w ≤ cw))
instance (wt w : Int) (l : List ByteArray) (cnt cw : Int) : Decidable (room wt w l cnt cw) := by unfold room; exact inferInstance
def joinV (id wt born kind ph : Int) (c z s : ByteArray) (l : List ByteArray) (cnt cw : Int) (x : ByteArray) (w : Int) : Bt :=
  if ph = 1 then (if lab x = true ∧ has l x = false then (if room wt w l cnt cw then (id, wt + w, born, kind, ph, c, z, s, l ++ [x], 0) else (id, wt, born, kind, ph, c, z, s, l, 111)) else (id, wt, born, kind, ph, c, z, s, l, 112)) else (id, wt, born, kind, ph, c, z, s, l, 113)
theorem add_eq (wt w : Int) : tally_Add.f wt w = some (if 0 ≤ wt ∧ wt ≤ 1000000000000 ∧ 0 ≤ w ∧ w ≤ 1000000000000 ∧ wt + w ≤ 1000000000000 then (wt + w, 0) else (0, 21)) := by
  unfold tally_Add.f tally_told.f
  rw [tally_R wt, tally_R w]
  by_cases c1 : 0 ≤ wt ∧ wt ≤ 1000000000000
  rotate_left
  · rw [decide_eq_false c1, if_neg (by omega)]; rfl
  by_cases c2 : 0 ≤ w ∧ w ≤ 1000000000000
  rotate_left
  · rw [decide_eq_true c1, decide_eq_false c2, if_neg (by omega)]; rfl
  rw [decide_eq_true c1, decide_eq_true c2, w64 (by omega) (by omega), tally_R (wt + w)]
  by_cases c3 : wt + w ≤ 1000000000000
  · rw [decide_eq_true (by omega), if_pos (by omega)]; rfl
  · rw [decide_eq_false (by omega), if_neg (by omega)]; rfl
section
variable (id wt born kind ph : Int) (c z s : ByteArray) (l : List ByteArray) (cnt cw : Int) (x : ByteArray) (w : Int) (hx : x.size ≤ 140737488351232) (hl : l.length ≤ 1000000)
include hx hl
theorem join_eq : Ev (fun k => batch_Join.f k id wt born kind ph c z s l cnt cw x w) (joinV id wt born kind ph c z s l cnt cw x w) := by
  unfold batch_Join.f joinV
  refine Ev.bindc (add_eq wt w) ?_
  by_cases p1 : ph = 1
  rotate_left
  · rw [if_neg p1]
    exact Ev.ifn p1 (Ev.now _)
  rw [if_pos p1]
  refine Ev.ifp p1 (Ev.bindc (right_eq x hx) ?_)
  have no : ∀ a b : Int, Ev (fun k => batch_Join.j0 k x a b true id wt born kind ph c z s l cnt cw) (id, wt, born, kind, ph, c, z, s, l, 112) := fun a b => Ev.of (batch_Join.mono_l · _ _ _ _ _ _ _ _ _ _ _ _ _ _ _) (k := 1) (by rw [batch_Join.j0, if_pos rfl])
  cases hlx : lab x
  · rw [if_neg (show ¬(false = true ∧ has l x = false) from by rintro ⟨h, _⟩; cases h)]
    exact Ev.ifn (by decide) (no _ _)
  refine Ev.ifp rfl (Ev.bind (contains_eq l x (by omega)) ?_)
  cases hh : has l x
  rotate_left
  · rw [if_neg (show ¬(true = true ∧ true = false) from by rintro ⟨_, h⟩; cases h)]
    exact no _ _
  rw [if_pos (show true = true ∧ false = false from ⟨rfl, rfl⟩)]
  refine Ev.step (fun k => by rw [batch_Join.j0, if_neg (by decide)]) ?_
  have full : l.take ((l.length : Int)).toNat = l := by rw [Int.toNat_natCast]; exact List.take_length
  by_cases a1 : 0 ≤ wt ∧ wt ≤ 1000000000000 ∧ 0 ≤ w ∧ w ≤ 1000000000000 ∧ wt + w ≤ 1000000000000
  rotate_left
  · rw [if_neg a1, if_neg (show ¬ room wt w l cnt cw from by unfold room; exact fun h => a1 h.1)]
    exact Ev.ifn (by decide) (Ev.now _)
  rw [if_pos a1]
  refine Ev.ifp rfl ?_
  have grow : room wt w l cnt cw → Ev (fun _ : Nat => if 0 ≤ (l.length : Int) then (if (l.length : Int) ≤ (l.length : Int) then ((some (l.take ((l.length : Int) : Int).toNat : List ByteArray)).bind fun y => (if y.length < 8796093022208 then (some (id, (wt + w, (0 : Int)).1, born, kind, ph, c, z, s, (y ++ [x]), (0 : Int))) else (none))) else (none)) else (none)) (if room wt w l cnt cw then (id, wt + w, born, kind, ph, c, z, s, l ++ [x], 0) else (id, wt, born, kind, ph, c, z, s, l, 111)) := by
    intro r
    rw [if_pos r]
    refine Ev.ifp (by omega) (Ev.ifp (by omega) (Ev.bindc rfl ?_))
    rw [full]
    exact Ev.ifp (by omega) (Ev.now _)
  by_cases e0 : l.length = 0
  · refine Ev.ifn (by omega) (grow ⟨a1, .inl e0⟩)
  refine Ev.ifp (by omega) ?_
  by_cases e1 : (l.length : Int) ≥ cnt
  · rw [if_neg (show ¬ room wt w l cnt cw from by unfold room; rintro ⟨_, h | ⟨h, _⟩⟩ <;> omega)]
    exact Ev.ifp e1 (Ev.now _)
  refine Ev.ifn e1 ?_
  by_cases e2 : wt + w > cw
  · rw [if_neg (show ¬ room wt w l cnt cw from by unfold room; rintro ⟨_, h | ⟨_, h⟩⟩ <;> omega)]
    exact Ev.ifp e2 (Ev.now _)
  exact Ev.ifn e2 (grow ⟨a1, .inr ⟨by omega, by omega⟩⟩)
end
theorem membs_iff (l : List ByteArray) (d : Nat) : ∀ i : Nat, i + d = l.length → (membs l d i = true ↔ ∀ (j : Nat) (h : j < l.length), i ≤ j → lab l[j] = true ∧ has (l.take j) l[j] = false) := by
  induction d with
  | zero => intro i h; exact ⟨fun _ j hj hij => by omega, fun _ => rfl⟩
  | succ d ih =>
    intro i h
    have hi : i < l.length := by omega
    rw [membs, dif_pos hi, Bool.and_eq_true, Bool.and_eq_true, ih (i + 1) (by omega), Bool.not_eq_true']
    constructor
    · rintro ⟨h1, h2, h3⟩ j hj hij
      rcases Nat.eq_or_lt_of_le hij with e | e
      · subst e; exact ⟨h1, h2⟩
      · exact h3 j hj e
    · intro h4
      exact ⟨(h4 i hi (Nat.le_refl _)).1, (h4 i hi (Nat.le_refl _)).2, fun j hj hij => h4 j hj (by omega)⟩
end Go.Proofs.YtapfpdjcbeiibaaDoor.Pure
