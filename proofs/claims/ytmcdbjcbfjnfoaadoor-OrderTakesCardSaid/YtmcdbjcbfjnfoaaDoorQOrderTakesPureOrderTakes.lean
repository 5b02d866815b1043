
import Derived.Test.YtmcdbjcbfjnfoaaDoorQOrderTakesOrdLaw
import Derived.Test.YtmcdbjcbfjnfoaaDoorQOrderTakesCodRef
import Derived.Test.YtmcdbjcbfjnfoaaDoorQOrderTakesLibRight
set_option linter.unusedVariables false
namespace Go.Proofs.YtmcdbjcbfjnfoaaDoor.Pure
open Go.RowKit Go.Proofs.YtmcdbjcbfjnfoaaDoor Go.Proofs.YtmcdbjcbfjnfoaaDoor.PAll Go.Proofs.YtmcdbjcbfjnfoaaDoorW.PrintWords Go.Proofs.YtmcdbjcbfjnfoaaDoorW.PrintLast Go.Proofs.YtmcdbjcbfjnfoaaDoorW.PrintMore
def flipO (t : ResO) : ResO := (t.1, t.2.1, t.2.2.1, t.2.2.2.1, t.2.2.2.2.1, t.2.2.2.2.2.1, t.2.2.2.2.2.2.1, t.2.2.2.2.2.2.2.1, t.2.2.2.2.2.2.2.2.1, t.2.2.2.2.2.2.2.2.2.1, t.2.2.2.2.2.2.2.2.2.2.1, t.2.2.2.2.2.2.2.2.2.2.2.1, !t.2.2.2.2.2.2.2.2.2.2.2.2)
theorem rtail_eq (n i : Int) (hni : ¬ i < n) (id : ByteArray) (l : List S52) (b : List Int) (bad : Bool) (x2 x3 x4 : ByteArray) (x5 x6 : Int) (x7 : Bool) (x8 x9 : Int) (hb : Byt b) (hl : b.length ≤ 140737488355328) (hi : id.size ≤ 32) (hn : l.length ≤ 8) (hs : ∀ x ∈ l, x.f0.size ≤ 32) :
    Ev (fun k => packhorseref10_Take.l0 k n i b (!bad) id l x2 x3 x4 x5 x6 x7 x8 x9) (flipO (tailO id l b bad)) := by
  refine Ev.step (fun k => by rw [packhorseref10_Take.l0, if_neg hni]) ?_
  have text : ∀ (q : List Int) (f : Bool), Byt q → q.length ≤ 140737488355328 → Ev (fun k => packhorseref10_Scan_Text.f k q (!f) 32) ((rdT 32 q f).1, (rdT 32 q f).2.1, !(rdT 32 q f).2.2) ∧ Byt (rdT 32 q f).2.1 ∧ (rdT 32 q f).2.1.length ≤ 140737488355328 ∧ (rdT 32 q f).1.size ≤ 32 := by
    intro q f h1 h2
    exact ⟨sT_eq q f h2 h1 32 (by omega), rdT_byt _ _ _ h1, Nat.le_trans (rdT_len _ _ _) h2, rdT_size 32 _ _ h1⟩
  have num : ∀ (most : Nat) (q : List Int) (f : Bool), Byt q → q.length ≤ 140737488355328 → most ≤ 1099511627776 → Ev (fun k => packhorseref10_Scan_Number.f k q (!f) (most : Int)) ((rdN most q f).1, (rdN most q f).2.1, !(rdN most q f).2.2) ∧ Byt (rdN most q f).2.1 ∧ (rdN most q f).2.1.length ≤ 140737488355328 := by
    intro most q f h1 h2 h3
    exact ⟨sN_eq q f h2 h1 most (by omega), rdN_byt _ _ _ h1, Nat.le_trans (rdN_len _ _ _) h2⟩
  unfold tailO
  dsimp only
  obtain ⟨t1, C1, M1, s1⟩ := text b bad hb hl
  refine Ev.bind t1 ?_
  generalize rdT 32 b bad = c at *
  obtain ⟨t2, C2, M2, s2⟩ := text c.2.1 c.2.2 C1 M1
  refine Ev.bind t2 ?_
  generalize rdT 32 c.2.1 c.2.2 = z at *
  obtain ⟨t3, C3, M3, s3⟩ := text z.2.1 z.2.2 C2 M2
  refine Ev.bind t3 ?_
  generalize rdT 32 z.2.1 z.2.2 = s at *
  obtain ⟨n1, B1, L1⟩ := num 1000000000000 s.2.1 s.2.2 C3 M3 (by omega)
  refine Ev.bind n1 ?_
  simp only [show ((1000000000000 : Nat) : Int) = 1000000000000 from rfl] at *
  generalize rdN 1000000000000 s.2.1 s.2.2 = t at *
  obtain ⟨n2, B2, L2⟩ := num 12 t.2.1 t.2.2 B1 L1 (by omega)
  refine Ev.bind n2 ?_
  simp only [show ((12 : Nat) : Int) = 12 from rfl] at *
  generalize rdN 12 t.2.1 t.2.2 = p at *
  obtain ⟨n3, B3, L3⟩ := num 1 p.2.1 p.2.2 B2 L2 (by omega)
  refine Ev.bind n3 ?_
  simp only [show ((1 : Nat) : Int) = 1 from rfl] at *
  generalize rdN 1 p.2.1 p.2.2 = g at *
  obtain ⟨n4, B4, L4⟩ := num 1000000 g.2.1 g.2.2 B3 L3 (by omega)
  refine Ev.bind n4 ?_
  simp only [show ((1000000 : Nat) : Int) = 1000000 from rfl] at *
  generalize rdN 1000000 g.2.1 g.2.2 = r at *
  obtain ⟨n5, B5, L5⟩ := num 1000000000000 r.2.1 r.2.2 B4 L4 (by omega)
  refine Ev.bind n5 ?_
  simp only [show ((1000000000000 : Nat) : Int) = 1000000000000 from rfl] at *
  generalize rdN 1000000000000 r.2.1 r.2.2 = bt at *
  unfold endO
  obtain ⟨bt1, bt2, bt3⟩ := bt
  cases bt3
  · refine Ev.ifp rfl ?_
    refine Ev.bind (right_R id l c.1 z.1 s.1 t.1 p.1 (g.1 == 1) r.1 bt1 (by omega) (by omega) (by omega) (by omega) (by omega) (fun x hx => by have := hs x hx; omega)) ?_
    simp only
    cases okO id l c.1 z.1 s.1 t.1 p.1 r.1 bt1
    · exact Ev.ifn (by decide) (Ev.now _)
    · exact Ev.ifp rfl (Ev.now _)
  · exact Ev.ifn (by simp) (Ev.now _)
theorem rtake_l (x2 x3 x4 : ByteArray) (x5 x6 : Int) (x7 : Bool) (x8 x9 : Int) (id : ByteArray) (hi : id.size ≤ 32) (n : Nat) (hn : n ≤ 8) (d : Nat) : ∀ (i : Nat) (l : List S52) (b : List Int) (bad : Bool), i + d = n → l.length = i → Byt b → b.length ≤ 140737488355328 → (∀ x ∈ l, x.f0.size ≤ 32) →
    Ev (fun k => packhorseref10_Take.l0 k (n : Int) (i : Int) b (!bad) id l x2 x3 x4 x5 x6 x7 x8 x9) (flipO (tailO id (l ++ (rdLs d b bad).1) (rdLs d b bad).2.1 (rdLs d b bad).2.2)) := by
  induction d with
  | zero =>
    intro i l b bad h1 h2 hb hl hs
    show Ev _ (flipO (tailO id (l ++ []) b bad))
    rw [List.append_nil]
    exact rtail_eq n i (by omega) id l b bad _ _ _ _ _ _ _ _ hb hl hi (by omega) hs
  | succ d ih =>
    intro i l b bad h1 h2 hb hl hs
    refine Ev.step (fun k => by rw [packhorseref10_Take.l0, if_pos (by omega)]) ?_
    have b1 := rdT_byt 32 b bad hb
    have l1 : (rdT (32 : Nat) b bad).2.1.length ≤ b.length := rdT_len 32 b bad
    have z1 : (rdT 32 b bad).1.size ≤ 32 := rdT_size 32 _ _ hb
    have l1' : (rdT (32 : Int) b bad).2.1.length ≤ b.length := rdT_len 32 b bad
    have b2 := rdN_byt 1000 _ (rdT 32 b bad).2.2 b1
    have l2' : (rdN (1000 : Int) (rdT (32 : Int) b bad).2.1 (rdT (32 : Int) b bad).2.2).2.1.length ≤ (rdT (32 : Int) b bad).2.1.length := rdN_len 1000 (rdT 32 b bad).2.1 (rdT 32 b bad).2.2
    have l2 : (rdN (1000 : Nat) (rdT (32 : Nat) b bad).2.1 (rdT (32 : Nat) b bad).2.2).2.1.length ≤ (rdT (32 : Nat) b bad).2.1.length := rdN_len 1000 (rdT 32 b bad).2.1 (rdT 32 b bad).2.2
    refine Ev.bind (sT_eq b bad hl hb 32 (by omega)) ?_
    refine Ev.bind (sN_eq _ _ (by omega) b1 1000 (by omega)) ?_
    refine Ev.bind (sN_eq _ _ (by omega) b2 100000 (by omega)) ?_
    refine Ev.ifp (by omega) ?_
    simp only [show ((32 : Nat) : Int) = 32 from rfl, show ((1000 : Nat) : Int) = 1000 from rfl, show ((100000 : Nat) : Int) = 100000 from rfl] at *
    rw [w64 (x := (i : Int) + 1) (by omega) (by omega)]
    have k := ih (i + 1) (l ++ [(rdL b bad).1]) (rdL b bad).2.1 (rdL b bad).2.2 (by omega) (by simp [h2]) (rdL_byt b bad hb) (Nat.le_trans (rdL_len b bad) hl) (by
      intro x hx
      rcases List.mem_append.1 hx with e | e
      · exact hs x e
      · rw [List.mem_singleton.1 e]; exact z1)
    rw [List.append_assoc] at k
    exact k
theorem rtake_O (b : List Int) (bad : Bool) (hb : Byt b) (hl : b.length ≤ 140737488355328) : Ev (fun k => packhorseref10_Take.f k b (!bad)) (flipO (takeO b bad)) := by
  unfold packhorseref10_Take.f takeO
  have b1 := rdT_byt 32 b bad hb
  have l1 := rdT_len 32 b bad
  have z1 : (rdT 32 b bad).1.size ≤ 32 := rdT_size 32 _ _ hb
  refine Ev.bind (sT_eq b bad hl hb 32 (by omega)) ?_
  simp only [show ((32 : Nat) : Int) = 32 from rfl]
  generalize rdT 32 b bad = a at *
  refine Ev.bind (sN_eq _ _ (by omega) b1 8 (by omega)) ?_
  simp only [show ((8 : Nat) : Int) = 8 from rfl]
  have r := rdN_range 8 a.2.1 a.2.2 b1
  have b2 := rdN_byt 8 a.2.1 a.2.2 b1
  have l2 := rdN_len 8 a.2.1 a.2.2
  simp only [show ((8 : Nat) : Int) = 8 from rfl] at r
  have k := rtake_l ⟨#[]⟩ ⟨#[]⟩ ⟨#[]⟩ 0 0 false 0 0 a.1 z1 (rdN 8 a.2.1 a.2.2).1.toNat (by omega) (rdN 8 a.2.1 a.2.2).1.toNat 0 [] (rdN 8 a.2.1 a.2.2).2.1 (rdN 8 a.2.1 a.2.2).2.2 (by omega) rfl b2 (by omega) (by simp)
  rw [show (((rdN 8 a.2.1 a.2.2).1.toNat : Nat) : Int) = (rdN 8 a.2.1 a.2.2).1 from by omega] at k
  exact k
theorem OrderTakes : packhorselaw10_OrderTakes.PureQ := by
  intro q hq
  have Bq : Byt q := fun x hx => by
    have := hq.2 x hx
    simp only [Lit.wf, Bool.and_eq_true, decide_eq_true_eq] at this
    have h1 : IntKind.u8.min = 0 := by decide
    have h2 : IntKind.u8.max = 255 := by decide
    omega
  refine Ev.rounds (g := fun k => packhorselaw10_OrderTakes.f k q) ?_
  unfold packhorselaw10_OrderTakes.f
  refine Ev.bind alive (Ev.ifp rfl ?_)
  by_cases cq : (q.length : Int) > 1000
  · exact Ev.ifp cq (Ev.now _)
  refine Ev.ifn cq (Ev.bindc (new_R q (by omega)) ?_)
  refine Ev.bind (take_O q false Bq (by omega)) (Ev.bind (rtake_O q false Bq (by omega)) ?_)
  rcases take_got q Bq with ⟨r, bad, e⟩ | ⟨id, l, c, z, s, t, p, g, r, b, u, ok, e, w⟩
  · rw [e]
    refine Ev.ifp rfl (Ev.bind bad_same ?_)
    refine Ev.step (fun k => by rw [packhorselaw10_OrderTakes.j0, if_neg (by decide)]) ?_
    exact Ev.ifn (show ¬ ((101 : Int) = 0) from by decide) (Ev.bind bad_same (Ev.now _))
  · rw [e]
    obtain ⟨hn, hL⟩ := linesB_ok (ok_lab ok).2.2.2.2.1
    dsimp only [flipO]
    refine Ev.ifp rfl (Ev.bind (self_O id l c z s t p g r b (by omega)) ?_)
    refine Ev.step (fun k => by rw [packhorselaw10_OrderTakes.j0, if_neg (by decide)]) ?_
    have hw : q.length = (putO id l c z s t p g r b).length + u.length := by rw [w, List.length_append]
    have e1 : wrap64 ((q.length : Int) - (u.length : Int)) = (((putO id l c z s t p g r b).length : Nat) : Int) := by rw [w64 (by omega) (by omega)]; omega
    refine Ev.ifp rfl (Ev.bind (put_ok g ok) ?_)
    show Ev (fun k => if 0 ≤ wrap64 ((q.length : Int) - (u.length : Int)) then _ else _) true
    rw [e1]
    refine Ev.ifp (by omega) (Ev.ifp (by omega) ?_)
    refine Ev.ifp (by rw [Int.toNat_natCast]; conv => rhs; rw [w, List.take_left]) ?_
    refine Ev.bindc (a := ((u.length : Int) == 0, u, false)) (by unfold packet_Reader_Done.f; rfl) ?_
    simp only
    rw [show (((u.length : Int) == 0) == ((u.length : Int) == 0)) = true from by simp]
    exact Ev.now _
end Go.Proofs.YtmcdbjcbfjnfoaaDoor.Pure
