
import Derived.Test.YtmcdbjcbfjnfoaaDoorQOrderBytesOrdLaw
import Derived.Test.YtmcdbjcbfjnfoaaDoorQOrderBytesLib
set_option linter.unusedVariables false
namespace Go.Proofs.YtmcdbjcbfjnfoaaDoor.Pure
open Go.RowKit Go.Proofs.YtmcdbjcbfjnfoaaDoor Go.Proofs.YtmcdbjcbfjnfoaaDoor.PAll Go.Proofs.YtmcdbjcbfjnfoaaDoorW.PrintWords Go.Proofs.YtmcdbjcbfjnfoaaDoorW.PrintLast Go.Proofs.YtmcdbjcbfjnfoaaDoorW.PrintMore
theorem refN_l (v : Nat) : ∀ o : List Int, v < 18446744073709551616 → o.length + (enc v).length < 140737488355328 → Ev (fun k => packhorseref06_Number.l0 k (v : Int) o) (o ++ enc v) := by
  induction v using Nat.strongRecOn with
  | ind v ih =>
    intro o hv ho
    by_cases c : v < 128
    · rw [enc_small c] at ho ⊢
      rw [List.length_singleton] at ho
      refine Ev.step (f := fun _ => some (o ++ [(v : Int)])) (fun k => ?_) (Ev.now _)
      rw [packhorseref06_Number.l0, if_neg (by omega), if_pos (by omega), show (v : Int) % 256 = v from by omega]
    · rw [enc_big c] at ho ⊢
      rw [List.length_cons] at ho
      have k := ih (v / 128) (by omega) (o ++ [((v % 128 + 128 : Nat) : Int)]) (by omega) (by rw [List.length_append, List.length_singleton]; omega)
      rw [List.append_assoc] at k
      refine Ev.step (fun k => ?_) k
      rw [packhorseref06_Number.l0, if_pos (by omega), if_pos (by omega), show Int.tdiv (v : Int) 128 = ((v / 128 : Nat) : Int) from rfl, show Int.tmod (v : Int) 128 = ((v % 128 : Nat) : Int) from rfl, wrap_u (by omega) (by omega), wrap_u (x := 128 + ((v % 128 : Nat) : Int)) (by omega) (by omega),
        show (128 + ((v % 128 : Nat) : Int)) % 256 = ((v % 128 + 128 : Nat) : Int) from by omega]
theorem refN (x : Int) (v : Nat) (e : x = (v : Int)) (hv : v < 18446744073709551616) : Ev (fun k => packhorseref06_Number.f k (IntKind.u64.wrap x)) (enc v) := by
  have k := refN_l v [] hv (by have := enc_len10 (n := v) (by omega); simp; omega)
  rw [wrapN x v e hv]
  exact k
theorem refT (s : ByteArray) (h : s.size ≤ 32) : Ev (fun k => packhorseref06_Text.f k s) (encT s) := by
  unfold packhorseref06_Text.f encT
  refine Ev.bind (refN _ s.size rfl (by omega)) (Ev.ifp ?_ (Ev.now _))
  have := enc_len10 (n := s.size) (by omega)
  omega
section
variable (id : ByteArray) (l : List S52) (c z s : ByteArray) (t p : Int) (g : Bool) (r b : Int) (hi : id.size ≤ 32) (hc : c.size ≤ 32) (hz : z.size ≤ 32) (hs : s.size ≤ 32) (hn : l.length ≤ 8) (hl : ∀ x ∈ l, okL x) (ht : 0 ≤ t ∧ t ≤ 1000000000000) (hp : 0 ≤ p ∧ p ≤ 12) (hr : 0 ≤ r ∧ r ≤ 1000000) (hb : 0 ≤ b ∧ b ≤ 1000000000000)
theorem ref_l2 (ns : List Nat) (hm : ∀ n ∈ ns, n < 18446744073709551616) (hN : ns.length ≤ 10) (d : Nat) : ∀ (i : Nat) (o : List Int), i + d = ns.length → o.length ≤ 10000 + 10 * i → Ev (fun k => packhorseref10_Bytes.l2 k o (ns.map fun n : Nat => (n : Int)) (ns.length : Int) (i : Int)) (o ++ (ns.drop i).flatMap enc) := by
  induction d with
  | zero =>
    intro i o h1 h2
    rw [List.drop_of_length_le (by omega)]
    refine Ev.step (f := fun _ => some (o ++ ([] : List Nat).flatMap enc)) (fun k => ?_) (Ev.now _)
    rw [packhorseref10_Bytes.l2, if_neg (by omega)]; simp
  | succ d ih =>
    intro i o h1 h2
    have hlt : i < ns.length := by omega
    have hv := hm _ (List.getElem_mem hlt)
    have hL := enc_len10 (n := ns[i]) (by omega)
    have e : rd (ns.map fun n : Nat => (n : Int)) (i : Int) = ((ns[i] : Nat) : Int) := by rw [rd_i _ i (by rw [List.length_map]; omega), List.getElem_map]
    refine Ev.step (fun k => by rw [packhorseref10_Bytes.l2, if_pos (by omega), if_pos (by omega), if_pos (by rw [List.length_map]; omega), e]) ?_
    refine Ev.bind (refN _ ns[i] rfl hv) (Ev.ifp (by omega) ?_)
    have k := ih (i + 1) (o ++ enc ns[i]) (by omega) (by rw [List.length_append]; omega)
    rw [show wrap64 ((i : Int) + 1) = ((i + 1 : Nat) : Int) from w64 (by omega) (by omega)]
    rw [List.drop_eq_getElem_cons hlt, List.flatMap_cons, ← List.append_assoc]
    exact k
include ht hp hr hb
theorem ref_j2 (o : List Int) (ho : o.length ≤ 10000) : Ev (fun k => packhorseref10_Bytes.j2 k o ((tru g : Nat) : Int) id l c z s t p g r b) (o ++ (enc t.toNat ++ (enc p.toNat ++ (enc (tru g) ++ (enc r.toNat ++ enc b.toNat))))) := by
  have tg : tru g ≤ 1 := by cases g <;> decide
  have k := ref_l2 [t.toNat, p.toNat, tru g, r.toNat, b.toNat] (by intro q hq; simp at hq; rcases hq with e | e | e | e | e <;> omega) (by simp) 5 0 o rfl (by omega)
  refine Ev.step (f := fun k => packhorseref10_Bytes.l2 k o ([t, p, ((tru g : Nat) : Int), r, b] : List Int) (5 : Int) 0) (fun k => by rw [packhorseref10_Bytes.j2]; rfl) ?_
  have e : ([t.toNat, p.toNat, tru g, r.toNat, b.toNat] : List Nat).map (fun n : Nat => (n : Int)) = [t, p, ((tru g : Nat) : Int), r, b] := by
    simp only [List.map_cons, List.map_nil]
    rw [show ((t.toNat : Nat) : Int) = t from by omega, show ((p.toNat : Nat) : Int) = p from by omega, show ((r.toNat : Nat) : Int) = r from by omega, show ((b.toNat : Nat) : Int) = b from by omega]
  rw [e] at k
  simp only [List.drop_zero, List.flatMap_cons, List.flatMap_nil, List.append_nil] at k
  exact k
theorem ref_l1 (ss : List ByteArray) (hS : ∀ x ∈ ss, x.size ≤ 32) (hN : ss.length ≤ 3) (d : Nat) : ∀ (i : Nat) (o : List Int), i + d = ss.length → o.length ≤ 5000 + 40 * i → Ev (fun k => packhorseref10_Bytes.l1 k o ss (ss.length : Int) (i : Int) id l c z s t p g r b) (o ++ ((ss.drop i).flatMap encT ++ (enc t.toNat ++ (enc p.toNat ++ (enc (tru g) ++ (enc r.toNat ++ enc b.toNat)))))) := by
  induction d with
  | zero =>
    intro i o h1 h2
    rw [List.drop_of_length_le (by omega)]
    have k := ref_j2 id l c z s t p g r b ht hp hr hb o (by omega)
    refine Ev.step (f := fun k => packhorseref10_Bytes.j2 k o ((tru g : Nat) : Int) id l c z s t p g r b) (fun k => ?_) k
    rw [packhorseref10_Bytes.l1, if_neg (by omega)]
    cases g <;> rfl
  | succ d ih =>
    intro i o h1 h2
    have hlt : i < ss.length := by omega
    have hv := hS _ (List.getElem_mem hlt)
    have hL := encT_len hv
    refine Ev.step (fun k => by rw [packhorseref10_Bytes.l1, if_pos (by omega), if_pos (by omega), if_pos (by omega), rd_s ss i hlt]) ?_
    refine Ev.bind (refT _ hv) (Ev.ifp (by omega) ?_)
    have k := ih (i + 1) (o ++ encT ss[i]) (by omega) (by rw [List.length_append]; omega)
    rw [show wrap64 ((i : Int) + 1) = ((i + 1 : Nat) : Int) from w64 (by omega) (by omega)]
    rw [List.drop_eq_getElem_cons hlt, List.flatMap_cons, List.append_assoc]
    rw [List.append_assoc] at k
    exact k
include hc hz hs hl hn
theorem ref_l0 (d : Nat) : ∀ (i : Nat) (o : List Int), i + d = l.length → o.length ≤ 100 + 60 * i → Ev (fun k => packhorseref10_Bytes.l0 k o l (l.length : Int) (i : Int) id l c z s t p g r b)
    (o ++ ((l.drop i).flatMap encL ++ (encT c ++ (encT z ++ (encT s ++ (enc t.toNat ++ (enc p.toNat ++ (enc (tru g) ++ (enc r.toNat ++ enc b.toNat))))))))) := by
  induction d with
  | zero =>
    intro i o h1 h2
    rw [List.drop_of_length_le (by omega)]
    have k := ref_l1 id l c z s t p g r b ht hp hr hb [c, z, s] (by intro q hq; simp at hq; rcases hq with e | e | e <;> rw [e] <;> assumption) (by simp) 3 0 o rfl (by omega)
    refine Ev.step (f := fun k => packhorseref10_Bytes.l1 k o ([c, z, s] : List ByteArray) (3 : Int) 0 id l c z s t p g r b) (fun k => by rw [packhorseref10_Bytes.l0, if_neg (by omega)]; rfl) ?_
    simp only [List.drop_zero, List.flatMap_cons, List.flatMap_nil, List.append_nil, List.append_assoc] at k
    simp only [List.flatMap_nil, List.nil_append]
    exact k
  | succ d ih =>
    intro i o h1 h2
    have hlt : i < l.length := by omega
    have hx : okL l[i] := hl _ (List.getElem_mem hlt)
    have hE := encL_len hx
    have hx2 := hx
    obtain ⟨x0, x1, x2, x3, x4⟩ := hx2
    have a1 := encT_len x0
    have a2 := enc_len10 (n := l[i].f1.toNat) (by omega)
    have a3 := enc_len10 (n := l[i].f2.toNat) (by omega)
    refine Ev.step (fun k => by rw [packhorseref10_Bytes.l0, if_pos (by omega), if_pos (by omega), if_pos (by omega), rd_52 l i hlt]) ?_
    refine Ev.bind (refT _ x0) (Ev.ifp (by omega) (Ev.bindc rfl ?_))
    refine Ev.bind (refN _ l[i].f1.toNat (by omega) (by omega)) (Ev.ifp (by rw [List.length_append]; omega) (Ev.bindc rfl ?_))
    refine Ev.bind (refN _ l[i].f2.toNat (by omega) (by omega)) (Ev.ifp (by rw [List.length_append, List.length_append]; omega) ?_)
    have k := ih (i + 1) (o ++ encL l[i]) (by omega) (by rw [List.length_append]; omega)
    rw [show wrap64 ((i : Int) + 1) = ((i + 1 : Nat) : Int) from w64 (by omega) (by omega)]
    rw [List.drop_eq_getElem_cons hlt, List.flatMap_cons, List.append_assoc]
    rw [List.append_assoc] at k
    rw [show ((o ++ encT l[i].f0) ++ (enc l[i].f1.toNat ++ enc l[i].f2.toNat)) = o ++ encL l[i] from by simp [encL]]
    simp only [List.append_assoc] at k ⊢
    exact k
include hi
theorem ref_B : Ev (fun k => packhorseref10_Bytes.f k id l c z s t p g r b) (putO id l c z s t p g r b) := by
  unfold packhorseref10_Bytes.f
  have a1 := encT_len hi
  have a2 := enc_len10 (n := l.length) (by omega)
  refine Ev.bind (refT id hi) (Ev.bind (refN _ l.length rfl (by omega)) (Ev.ifp (by omega) ?_))
  have k := ref_l0 id l c z s t p g r b hc hz hs hn hl ht hp hr hb l.length 0 (encT id ++ enc l.length) (by omega) (by rw [List.length_append]; omega)
  rw [List.append_assoc] at k
  exact k
end
end Go.Proofs.YtmcdbjcbfjnfoaaDoor.Pure
