/- Layer 5 (check), CheckPieces: for any bytes in three pieces, that of two pieces together is joined of both, in whichever way three are joined. No condition. -/
import Derived.Test.YtdpljfpcpfdlcaaLib
namespace Go.Proofs.Ytdpljfpcpfdlcaa.Pure
open Go.RowKit Go.Proofs.Ytdpljfpcpfdlcaa Go.Proofs.Ytdpljfpcpfdlcaa.PAll Go.Proofs.YtdpljfpcpfdlcaaW.PrintWords Go.Proofs.YtdpljfpcpfdlcaaW.PrintLast Go.Proofs.YtdpljfpcpfdlcaaW.PrintMore

set_option maxRecDepth 100000 in
theorem pieces_j (a b c : List Nat) (ha : Bs a) (hb : Bs b) (hc : Bs c) (la : a.length ≤ 1000) (lb : b.length ≤ 1000) (lc : c.length ≤ 1000) :
    Ev (fun k => packhorselaw05_CheckPieces.j0 k (bts a) (bts b) (bts c) false) true := by
  refine Ev.step (f := fun k => (check_Of.f k [bts a]).bind fun t109 => ((check_Of.f k [bts b]).bind fun t113 => ((check_Of.f k [bts c]).bind fun t117 => ((check_Join.f t109 t113 ((bts b).length : Int)).bind fun t118 => ((check_Join.f t118 t117 ((bts c).length : Int)).bind fun t119 => ((check_Join.f t113 t117 ((bts c).length : Int)).bind fun t120 => ((check_Join.f t109 t120 (wrap64 (((bts b).length : Int) + ((bts c).length : Int)))).bind fun t121 => (if t119 = t121 then ((check_Of.f k [bts a, bts b, bts c]).bind fun t125 => (some (t119 == t125))) else (some false))))))))) (fun k => by rw [packhorselaw05_CheckPieces.j0, if_neg (by decide)]) ?_
  refine Ev.bind (ofS_of a ha (by omega)) (Ev.bind (ofS_of b hb (by omega)) (Ev.bind (ofS_of c hc (by omega)) ?_))
  have e : (b.length : Int) + (c.length : Int) = (((b ++ c).length : Nat) : Int) := by rw [List.length_append]; omega
  have hbc : (b ++ c).length ≤ 9223372036854775807 := by rw [List.length_append]; omega
  rw [bts_length, bts_length, w64 (by omega) (by omega), e]
  refine Ev.bindc (join_ofS a b ha hb (by omega)) (Ev.bindc (join_ofS _ c (Bs_append ha hb) hc (by omega)) (Ev.bindc (join_ofS b c hb hc (by omega)) (Ev.bindc (join_ofS a _ ha (Bs_append hb hc) hbc) ?_)))
  rw [List.append_assoc]
  refine Ev.ifp rfl (Ev.bind (ofS_of3 a b c ha hb hc (by omega) (by omega) (by omega)) ?_)
  rw [beq_self_eq_true]
  exact Ev.now _

theorem CheckPieces : packhorselaw05_CheckPieces.PureQ := by
  intro a b c ha hb hc
  obtain ⟨a, rfl, ha'⟩ := of_wf a ha.2
  obtain ⟨b, rfl, hb'⟩ := of_wf b hb.2
  obtain ⟨c, rfl, hc'⟩ := of_wf c hc.2
  refine Ev.rounds (g := fun k => packhorselaw05_CheckPieces.f k (bts a) (bts b) (bts c)) ?_
  have fin : Ev (fun k => packhorselaw05_CheckPieces.j0 k (bts a) (bts b) (bts c) true) true := Ev.of (packhorselaw05_CheckPieces.mono_l · _ _ _ _) (k := 1) (by simp [packhorselaw05_CheckPieces.j0])
  unfold packhorselaw05_CheckPieces.f packhorselaw05_checkAlive.f
  simp only [Option.bind_some, if_true, bts_length]
  by_cases h1 : (a.length : Int) > 1000
  · simp only [if_pos h1]; exact fin
  by_cases h2 : (b.length : Int) > 1000
  · simp only [if_neg h1, if_pos h2]; exact fin
  simp only [if_neg h1, if_neg h2]
  by_cases h3 : (c.length : Int) > 1000
  · rw [decide_eq_true h3]; exact fin
  rw [decide_eq_false h3]
  exact pieces_j a b c ha' hb' hc' (by omega) (by omega) (by omega)
end Go.Proofs.Ytdpljfpcpfdlcaa.Pure
