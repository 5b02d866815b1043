/- Layer 5 (check), CheckTells: for any bytes in three pieces it tells what the reference tells of all in one. No condition. -/
import Derived.Test.YtdpljfpcpfdlcaaRef
namespace Go.Proofs.Ytdpljfpcpfdlcaa.Pure
open Go.RowKit Go.Proofs.Ytdpljfpcpfdlcaa Go.Proofs.Ytdpljfpcpfdlcaa.PAll Go.Proofs.YtdpljfpcpfdlcaaW.PrintWords Go.Proofs.YtdpljfpcpfdlcaaW.PrintLast Go.Proofs.YtdpljfpcpfdlcaaW.PrintMore

theorem bts_append (a b : List Nat) : bts a ++ bts b = bts (a ++ b) := by unfold bts; rw [List.map_append]
theorem tells_j (a b c : List Nat) (ha : Bs a) (hb : Bs b) (hc : Bs c) (la : a.length ≤ 1000) (lb : b.length ≤ 1000) (lc : c.length ≤ 1000) :
    Ev (fun k => packhorselaw05_CheckTells.j0 k (bts a) (bts b) (bts c) false) true := by
  have hl : (a ++ (b ++ c)).length ≤ 9223372036854775806 := by rw [List.length_append, List.length_append]; omega
  have hB := Bs_append ha (Bs_append hb hc)
  refine Ev.step (f := fun k => (check_Of.f k [bts a, bts b, bts c]).bind fun t178 => ((packhorseref05_Of.f k (bts (a ++ (b ++ c)))).bind fun t179 => (if t178 = t179 then ((check_Of.f k [bts (a ++ (b ++ c))]).bind fun t183 => ((check_Of.f k [bts a, bts b, bts c]).bind fun t187 => (some (t183 == t187)))) else (some false)))) (fun k => ?_) ?_
  · rw [packhorselaw05_CheckTells.j0, if_neg (by decide), Option.bind_some, List.nil_append, if_pos (by rw [List.length_nil, bts_length]; omega), Option.bind_some, if_pos (by rw [bts_length, bts_length]; omega), Option.bind_some, bts_append, if_pos (by rw [bts_length, bts_length, List.length_append]; omega), Option.bind_some, bts_append, List.append_assoc]
  · refine Ev.bind (ofS_of3 a b c ha hb hc (by omega) (by omega) (by omega)) (Ev.bind (ref_of _ hB hl) (Ev.ifp rfl (Ev.bind (ofS_of _ hB hl) (Ev.bind (ofS_of3 a b c ha hb hc (by omega) (by omega) (by omega)) ?_))))
    rw [beq_self_eq_true]
    exact Ev.now _

theorem CheckTells : packhorselaw05_CheckTells.PureQ := by
  intro a b c ha hb hc
  obtain ⟨a, rfl, ha'⟩ := of_wf a ha.2
  obtain ⟨b, rfl, hb'⟩ := of_wf b hb.2
  obtain ⟨c, rfl, hc'⟩ := of_wf c hc.2
  refine Ev.rounds (g := fun k => packhorselaw05_CheckTells.f k (bts a) (bts b) (bts c)) ?_
  have fin : Ev (fun k => packhorselaw05_CheckTells.j0 k (bts a) (bts b) (bts c) true) true := Ev.of (packhorselaw05_CheckTells.mono_l · _ _ _ _) (k := 1) (by simp [packhorselaw05_CheckTells.j0])
  unfold packhorselaw05_CheckTells.f packhorselaw05_checkAlive.f
  simp only [Option.bind_some, if_true, bts_length]
  by_cases h1 : (a.length : Int) > 1000
  · simp only [if_pos h1]; exact fin
  by_cases h2 : (b.length : Int) > 1000
  · simp only [if_neg h1, if_pos h2]; exact fin
  simp only [if_neg h1, if_neg h2]
  by_cases h3 : (c.length : Int) > 1000
  · rw [decide_eq_true h3]; exact fin
  rw [decide_eq_false h3]
  exact tells_j a b c ha' hb' hc' (by omega) (by omega) (by omega)
end Go.Proofs.Ytdpljfpcpfdlcaa.Pure
