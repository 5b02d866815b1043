
import Derived.Test.YtmcdbjcbfjnfoaaDoorQOrderTellsLib
namespace Go.Proofs.YtmcdbjcbfjnfoaaDoor.Pure
open Go.RowKit Go.Proofs.YtmcdbjcbfjnfoaaDoor Go.Proofs.YtmcdbjcbfjnfoaaDoor.PAll Go.Proofs.YtmcdbjcbfjnfoaaDoorW.PrintWords Go.Proofs.YtmcdbjcbfjnfoaaDoorW.PrintLast Go.Proofs.YtmcdbjcbfjnfoaaDoorW.PrintMore
theorem alive : Ev (fun k => packhorselaw10_orderAlive.f k) true := Ev.of (packhorselaw10_orderAlive.mono ·) (k := 60) (by decide +kernel)
theorem odd_xor (n : Nat) : ((n ^^^ 1) % 2 = 1) ↔ ¬ (n % 2 = 1) := by
  have h := Nat.testBit_xor n 1 0
  rw [Nat.testBit_zero, Nat.testBit_zero, Nat.testBit_zero] at h
  by_cases a : (n ^^^ 1) % 2 = 1 <;> by_cases b : n % 2 = 1 <;> simp [a, b] at h ⊢
theorem xor_one (x : Int) (_h0 : -9223372036854775808 ≤ x) (_h1 : x ≤ 9223372036854775807) : Go.bits .xor .i64 x 1 ≠ x := by
  intro e
  have e2 : IntKind.i64.wrap ((BitVec.ofInt 64 x ^^^ BitVec.ofInt 64 1).toNat : Int) = x := e
  rw [BitVec.toNat_xor, BitVec.toNat_ofInt, show (BitVec.ofInt 64 1).toNat = 1 from by decide] at e2
  have h := odd_xor (x % ((2 ^ 64 : Nat) : Int)).toNat
  obtain ⟨n, hn⟩ : ∃ n, n = (x % ((2 ^ 64 : Nat) : Int)).toNat ^^^ 1 := ⟨_, rfl⟩
  rw [← hn] at h e2
  simp [IntKind.wrap, IntKind.bits, IntKind.signed] at e2
  omega
theorem OrderTells : packhorselaw10_OrderTells.PureQ := by
  intro x0 l x2 x3 x4 x5 x6 x7 x8 x9 y0 m y2 y3 y4 y5 y6 y7 y8 y9 h0 hl h2 h3 h4 _ _ _ _ _ _ _ _ _ _ _ _ _
  have hb : l.length ≤ 9223372036854775806 := by omega
  have hs : ∀ x ∈ l, x.f0.size ≤ 140737488351232 := fun x hx => (hl.2 x hx).1
  refine Ev.rounds (g := fun k => packhorselaw10_OrderTells.f k x0 l x2 x3 x4 x5 x6 x7 x8 x9 y0 m y2 y3 y4 y5 y6 y7 y8 y9) ?_
  have fin : Ev (fun k => packhorselaw10_OrderTells.j0 k true x0 l x2 x3 x4 x5 x6 x7 x8 x9 y0 m y2 y3 y4 y5 y6 y7 y8 y9) true := Ev.step (f := fun _ => some true) (fun k => by rw [packhorselaw10_OrderTells.j0, if_pos rfl]) (Ev.now _)
  unfold packhorselaw10_OrderTells.f
  refine Ev.bind alive (Ev.ifp rfl ?_)
  by_cases c1 : (l.length : Int) > 50
  · exact Ev.ifp c1 fin
  refine Ev.ifn c1 ?_
  by_cases c2 : (m.length : Int) > 50
  · rw [decide_eq_true c2]; exact fin
  rw [decide_eq_false c2]
  refine Ev.step (fun k => by rw [packhorselaw10_OrderTells.j0, if_neg (by decide)]) ?_
  have hc : order_Copy.f x0 l x2 x3 x4 x5 x6 x7 x8 x9 = some (x0, l, x2, x3, x4, x5, x6, x7, x8, x9) := by
    unfold order_Copy.f api_Line_48.f
    rw [if_pos (by omega)]; rfl
  refine Ev.bindc hc ?_
  refine Ev.bind (right_O x0 l x2 x3 x4 x5 x6 x7 x8 x9 h0 h2 h3 h4 hb hs) (Ev.bind (right_R x0 l x2 x3 x4 x5 x6 x7 x8 x9 h0 h2 h3 h4 hb hs) ?_)
  refine Ev.ifn (by simp) ?_
  refine Ev.bind (same_O x0 l x2 x3 x4 x5 x6 x7 x8 x9 y0 m y2 y3 y4 y5 y6 y7 y8 y9 hb) (Ev.bind (ref_same_O x0 l x2 x3 x4 x5 x6 x7 x8 x9 y0 m y2 y3 y4 y5 y6 y7 y8 y9 hb) ?_)
  refine Ev.ifn (by simp) ?_
  have hself : sameB x0 l x2 x3 x4 x5 x6 x7 x8 x9 x0 l x2 x3 x4 x5 x6 x7 x8 x9 = true := decide_eq_true ⟨rfl, rfl, rfl, rfl, rfl, rfl, rfl, rfl, rfl, rfl⟩
  have hs1 := same_O x0 l x2 x3 x4 x5 x6 x7 x8 x9 x0 l x2 x3 x4 x5 x6 x7 x8 x9 hb
  rw [hself] at hs1
  refine Ev.bind hs1 ?_
  refine Ev.step (fun k => by rw [packhorselaw10_OrderTells.j1, if_neg (by decide)]) ?_
  by_cases c3 : (l.length : Int) > 0
  rotate_left
  · exact Ev.ifn c3 (Ev.now _)
  refine Ev.ifp c3 (Ev.ifp c3 (Ev.ifp c3 ?_))
  have hd : ¬ (l = l.set (0 : Int).toNat (⟨(rd_T52 l 0).f0, Go.bits .xor .i64 ((rd_T52 l 0).f1) 1, (rd_T52 l 0).f2⟩ : S52)) := by
    intro e
    have e0 := congrArg (fun q => q[0]?) e
    have hz : 0 < l.length := by omega
    have e1 : rd_T52 l 0 = l[0] := rd_52 l 0 hz
    have ok := hl.2 l[0] (List.getElem_mem hz)
    have wf := wf64 ok.2.1
    rw [show (0 : Int).toNat = 0 from rfl, e1] at e0
    simp only [List.getElem?_set_self hz, List.getElem?_eq_getElem hz, Option.some.injEq] at e0
    exact xor_one _ wf.1 wf.2 (congrArg S52.f1 e0).symm
  have hs2 := same_O x0 l x2 x3 x4 x5 x6 x7 x8 x9 x0 (l.set (0 : Int).toNat (⟨(rd_T52 l 0).f0, Go.bits .xor .i64 ((rd_T52 l 0).f1) 1, (rd_T52 l 0).f2⟩ : S52)) x2 x3 x4 x5 x6 x7 x8 x9 hb
  rw [show sameB x0 l x2 x3 x4 x5 x6 x7 x8 x9 x0 (l.set (0 : Int).toNat (⟨(rd_T52 l 0).f0, Go.bits .xor .i64 ((rd_T52 l 0).f1) 1, (rd_T52 l 0).f2⟩ : S52)) x2 x3 x4 x5 x6 x7 x8 x9 = false from decide_eq_false (fun h => hd h.2.1)] at hs2
  exact Ev.bind hs2 (Ev.now _)
end Go.Proofs.YtmcdbjcbfjnfoaaDoor.Pure
