
import Derived.Test.YtmcdbjcbfjnfoaaDoorQOrderApartOrdLaw
namespace Go.Proofs.YtmcdbjcbfjnfoaaDoor.Pure
open Go.RowKit Go.Proofs.YtmcdbjcbfjnfoaaDoor Go.Proofs.YtmcdbjcbfjnfoaaDoor.PAll Go.Proofs.YtmcdbjcbfjnfoaaDoorW.PrintWords Go.Proofs.YtmcdbjcbfjnfoaaDoorW.PrintLast Go.Proofs.YtmcdbjcbfjnfoaaDoorW.PrintMore
theorem OrderCut : packhorselaw10_OrderCut.PureQ := by
  intro x0 l x2 x3 x4 x5 x6 x7 x8 x9 n h0 hl h2 h3 h4 _ _ _ _ _
  have hb : l.length ≤ 9223372036854775806 := by omega
  have hs : ∀ x ∈ l, x.f0.size ≤ 140737488351232 := fun x hx => (hl.2 x hx).1
  refine Ev.rounds (g := fun k => packhorselaw10_OrderCut.f k x0 l x2 x3 x4 x5 x6 x7 x8 x9 n) ?_
  have fin : Ev (fun k => packhorselaw10_OrderCut.j0 k n true x0 l x2 x3 x4 x5 x6 x7 x8 x9) true := Ev.step (f := fun _ => some true) (fun k => by rw [packhorselaw10_OrderCut.j0, if_pos rfl]) (Ev.now _)
  unfold packhorselaw10_OrderCut.f
  refine Ev.bind alive (Ev.ifp rfl ?_)
  refine Ev.bind (right_O x0 l x2 x3 x4 x5 x6 x7 x8 x9 h0 h2 h3 h4 hb hs) ?_
  by_cases ca : okO x0 l x2 x3 x4 x5 x6 x8 x9 = true
  rotate_left
  · exact Ev.ifn ca fin
  refine Ev.ifp ca ?_
  by_cases cn : n < 0
  · rw [decide_eq_true cn]; exact fin
  rw [decide_eq_false cn]
  refine Ev.step (fun k => by rw [packhorselaw10_OrderCut.j0, if_neg (by decide)]) ?_
  refine Ev.bind (put_ok x7 ca) ?_
  have Bx := putO_byt x0 l x2 x3 x4 x5 x6 x7 x8 x9
  have Lx := putO_len x7 ca
  by_cases c : n < ((putO x0 l x2 x3 x4 x5 x6 x7 x8 x9).length : Int)
  · refine Ev.ifp c (Ev.ifp (by omega) (Ev.ifp (by omega) ?_))
    have hlen : ((putO x0 l x2 x3 x4 x5 x6 x7 x8 x9).take n.toNat).length ≤ 1000 := by rw [List.length_take]; omega
    refine Ev.bindc (new_R _ (by omega)) ?_
    refine Ev.bind (take_O ((putO x0 l x2 x3 x4 x5 x6 x7 x8 x9).take n.toNat) false (byt_take _ Bx) (by omega)) ?_
    rcases take_got _ (byt_take n.toNat Bx) with ⟨r, bad, e⟩ | ⟨i, m, c', z, s, t, p, g, r, b, u, ok, e, w⟩
    · rw [e]
      exact Ev.ifp rfl (Ev.bind bad_same (Ev.now _))
    · exfalso
      have e1 : putO x0 l x2 x3 x4 x5 x6 x7 x8 x9 = putO i m c' z s t p g r b ++ (u ++ (putO x0 l x2 x3 x4 x5 x6 x7 x8 x9).drop n.toNat) := by
        rw [← List.append_assoc, ← w, List.take_append_drop]
      have e2 := (begin_O ok ca _ e1).2
      have e3 := congrArg List.length e2
      rw [List.length_append, List.length_drop, List.length_nil] at e3
      omega
  · refine Ev.ifn c (Ev.ifp (by omega) ?_)
    have hlen : (putO x0 l x2 x3 x4 x5 x6 x7 x8 x9 ++ [77]).length ≤ 1001 := by rw [List.length_append, List.length_singleton]; omega
    have B7 : Byt ([77] : List Int) := by intro x hx; rw [List.mem_singleton.1 hx]; omega
    refine Ev.bindc (new_R _ (by omega)) ?_
    refine Ev.bind (take_O (putO x0 l x2 x3 x4 x5 x6 x7 x8 x9 ++ [77]) false (byt_append.2 ⟨Bx, B7⟩) (by omega)) ?_
    rw [take_put x0 l x2 x3 x4 x5 x6 x7 x8 x9 ca [77]]
    refine Ev.ifp rfl (Ev.bind (self_O _ _ _ _ _ _ _ _ _ _ hb) (Ev.ifp rfl ?_))
    refine Ev.bindc (a := (false, [77], false)) (by unfold packet_Reader_Done.f; rfl) ?_
    refine Ev.ifn (by decide) ?_
    have hN := rN_eq [77] false (by simp) B7 100 (by omega)
    rw [show ([77] : List Int) = enc 77 ++ [] from by rw [enc_small (by omega)]; rfl, rdN_put 100 77 [] (by omega), show enc 77 ++ [] = ([77] : List Int) from by rw [enc_small (by omega)]; rfl] at hN
    refine Ev.bind hN (Ev.ifp rfl ?_)
    refine Ev.bindc (a := (true, [], false)) (by unfold packet_Reader_Done.f; rfl) (Ev.now _)
end Go.Proofs.YtmcdbjcbfjnfoaaDoor.Pure
