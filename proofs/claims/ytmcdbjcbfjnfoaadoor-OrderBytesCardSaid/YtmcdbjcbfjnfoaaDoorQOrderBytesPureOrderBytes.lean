
import Derived.Test.YtmcdbjcbfjnfoaaDoorQOrderBytesOrdRef
namespace Go.Proofs.YtmcdbjcbfjnfoaaDoor.Pure
open Go.RowKit Go.Proofs.YtmcdbjcbfjnfoaaDoor Go.Proofs.YtmcdbjcbfjnfoaaDoor.PAll Go.Proofs.YtmcdbjcbfjnfoaaDoorW.PrintWords Go.Proofs.YtmcdbjcbfjnfoaaDoorW.PrintLast Go.Proofs.YtmcdbjcbfjnfoaaDoorW.PrintMore
theorem OrderBytes : packhorselaw10_OrderBytes.PureQ := by
  intro x0 l x2 x3 x4 x5 x6 x7 x8 x9 q h0 hl h2 h3 h4 _ _ _ _ hq
  have hb : l.length ≤ 9223372036854775806 := by omega
  have hs : ∀ x ∈ l, x.f0.size ≤ 140737488351232 := fun x hx => (hl.2 x hx).1
  have Bq : Byt q := fun x hx => by
    have := hq.2 x hx
    simp only [Lit.wf, Bool.and_eq_true, decide_eq_true_eq] at this
    have h1 : IntKind.u8.min = 0 := by decide
    have h2 : IntKind.u8.max = 255 := by decide
    omega
  refine Ev.rounds (g := fun k => packhorselaw10_OrderBytes.f k x0 l x2 x3 x4 x5 x6 x7 x8 x9 q) ?_
  have fin : Ev (fun k => packhorselaw10_OrderBytes.j0 k q true x0 l x2 x3 x4 x5 x6 x7 x8 x9) true := Ev.step (f := fun _ => some true) (fun k => by rw [packhorselaw10_OrderBytes.j0, if_pos rfl]) (Ev.now _)
  unfold packhorselaw10_OrderBytes.f
  refine Ev.bind alive (Ev.ifp rfl ?_)
  refine Ev.bind (right_R x0 l x2 x3 x4 x5 x6 x7 x8 x9 h0 h2 h3 h4 hb hs) ?_
  by_cases ca : okO x0 l x2 x3 x4 x5 x6 x8 x9 = true
  rotate_left
  · exact Ev.ifn ca fin
  refine Ev.ifp ca ?_
  by_cases cn : (q.length : Int) > 100
  · rw [decide_eq_true cn]; exact fin
  rw [decide_eq_false cn]
  refine Ev.step (fun k => by rw [packhorselaw10_OrderBytes.j0, if_neg (by decide)]) ?_
  obtain ⟨a1, a2, a3, a4, a5, a6, a7, a8, a9⟩ := ok_lab ca
  obtain ⟨hn, hL⟩ := linesB_ok a5
  refine Ev.bind (put_ok x7 ca) (Ev.bind (ref_B x0 l x2 x3 x4 x5 x6 x7 x8 x9 a1 a2 a3 a4 hn hL a6 ⟨by omega, a7.2⟩ a8 a9) (Ev.ifp rfl (Ev.bindc rfl ?_)))
  have Bx := putO_byt x0 l x2 x3 x4 x5 x6 x7 x8 x9
  have Lx := putO_len x7 ca
  refine Ev.ifp (by rw [List.length_nil]; omega) (Ev.bindc rfl ?_)
  rw [List.nil_append]
  have hlen : (putO x0 l x2 x3 x4 x5 x6 x7 x8 x9 ++ q).length ≤ 2000 := by rw [List.length_append]; omega
  refine Ev.ifp (by omega) (Ev.bindc (new_R _ (by omega)) ?_)
  refine Ev.bind (take_O (putO x0 l x2 x3 x4 x5 x6 x7 x8 x9 ++ q) false (byt_append.2 ⟨Bx, Bq⟩) (by omega)) ?_
  rw [take_put x0 l x2 x3 x4 x5 x6 x7 x8 x9 ca q]
  refine Ev.ifp rfl (Ev.bind (self_O _ _ _ _ _ _ _ _ _ _ hb) (Ev.ifp rfl ?_))
  refine Ev.bindc (a := ((q.length : Int) == 0, q, false)) (by unfold packet_Reader_Done.f; rfl) ?_
  simp only
  rw [show (((q.length : Int) == 0) == ((q.length : Int) == 0)) = true from by simp]
  exact Ev.now _
end Go.Proofs.YtmcdbjcbfjnfoaaDoor.Pure
