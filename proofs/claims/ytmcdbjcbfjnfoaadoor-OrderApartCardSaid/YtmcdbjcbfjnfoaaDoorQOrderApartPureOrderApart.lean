
import Derived.Test.YtmcdbjcbfjnfoaaDoorQOrderApartOrdLaw
namespace Go.Proofs.YtmcdbjcbfjnfoaaDoor.Pure
open Go.RowKit Go.Proofs.YtmcdbjcbfjnfoaaDoor Go.Proofs.YtmcdbjcbfjnfoaaDoor.PAll Go.Proofs.YtmcdbjcbfjnfoaaDoorW.PrintWords Go.Proofs.YtmcdbjcbfjnfoaaDoorW.PrintLast Go.Proofs.YtmcdbjcbfjnfoaaDoorW.PrintMore
theorem OrderApart : packhorselaw10_OrderApart.PureQ := by
  intro x0 l x2 x3 x4 x5 x6 x7 x8 x9 y0 m y2 y3 y4 y5 y6 y7 y8 y9 h0 hl h2 h3 h4 _ _ _ _ i0 im i2 i3 i4 _ _ _ _
  have hb : l.length ≤ 9223372036854775806 := by omega
  have hs : ∀ x ∈ l, x.f0.size ≤ 140737488351232 := fun x hx => (hl.2 x hx).1
  have hb' : m.length ≤ 9223372036854775806 := by omega
  have hs' : ∀ x ∈ m, x.f0.size ≤ 140737488351232 := fun x hx => (im.2 x hx).1
  refine Ev.rounds (g := fun k => packhorselaw10_OrderApart.f k x0 l x2 x3 x4 x5 x6 x7 x8 x9 y0 m y2 y3 y4 y5 y6 y7 y8 y9) ?_
  have fin : Ev (fun k => packhorselaw10_OrderApart.j0 k true x0 l x2 x3 x4 x5 x6 x7 x8 x9 y0 m y2 y3 y4 y5 y6 y7 y8 y9) true := Ev.step (f := fun _ => some true) (fun k => by rw [packhorselaw10_OrderApart.j0, if_pos rfl]) (Ev.now _)
  unfold packhorselaw10_OrderApart.f
  refine Ev.bind alive (Ev.ifp rfl ?_)
  refine Ev.bind (right_O x0 l x2 x3 x4 x5 x6 x7 x8 x9 h0 h2 h3 h4 hb hs) ?_
  by_cases ca : okO x0 l x2 x3 x4 x5 x6 x8 x9 = true
  rotate_left
  · exact Ev.ifn ca fin
  refine Ev.ifp ca (Ev.bind (right_O y0 m y2 y3 y4 y5 y6 y7 y8 y9 i0 i2 i3 i4 hb' hs') ?_)
  by_cases cb : okO y0 m y2 y3 y4 y5 y6 y8 y9 = true
  rotate_left
  · rw [show (!okO y0 m y2 y3 y4 y5 y6 y8 y9) = true from by simpa using cb]; exact fin
  rw [show (!okO y0 m y2 y3 y4 y5 y6 y8 y9) = false from by simpa using cb]
  refine Ev.step (fun k => by rw [packhorselaw10_OrderApart.j0, if_neg (by decide)]) ?_
  refine Ev.bind (put_ok x7 ca) (Ev.bind (put_ok y7 cb) ?_)
  have same := same_O x0 l x2 x3 x4 x5 x6 x7 x8 x9 y0 m y2 y3 y4 y5 y6 y7 y8 y9 hb
  have Bx := putO_byt x0 l x2 x3 x4 x5 x6 x7 x8 x9
  have By := putO_byt y0 m y2 y3 y4 y5 y6 y7 y8 y9
  have beg : ∀ q, putO y0 m y2 y3 y4 y5 y6 y7 y8 y9 = putO x0 l x2 x3 x4 x5 x6 x7 x8 x9 ++ q → sameB x0 l x2 x3 x4 x5 x6 x7 x8 x9 y0 m y2 y3 y4 y5 y6 y7 y8 y9 = true ∧ q = [] := fun q e => begin_O ca cb q e
  have eq : sameB x0 l x2 x3 x4 x5 x6 x7 x8 x9 y0 m y2 y3 y4 y5 y6 y7 y8 y9 = true → putO y0 m y2 y3 y4 y5 y6 y7 y8 y9 = putO x0 l x2 x3 x4 x5 x6 x7 x8 x9 := by
    intro h
    obtain ⟨f1, f2, f3, f4, f5, f6, f7, f8, f9, f10⟩ := of_decide_eq_true h
    subst f1; subst f2; subst f3; subst f4; subst f5; subst f6; subst f7; subst f8; subst f9; subst f10
    rfl
  generalize putO x0 l x2 x3 x4 x5 x6 x7 x8 x9 = X at *
  generalize putO y0 m y2 y3 y4 y5 y6 y7 y8 y9 = Y at *
  generalize sameB x0 l x2 x3 x4 x5 x6 x7 x8 x9 y0 m y2 y3 y4 y5 y6 y7 y8 y9 = S at *
  have last : ((strOfNums X).toList == (strOfNums Y).toList) = S := by
    rw [eqs]
    cases S with
    | true => exact decide_eq_true (by rw [eq rfl])
    | false =>
      refine decide_eq_false fun e => ?_
      have e2 := str_inj Bx By e
      exact absurd (beg [] (by rw [List.append_nil, e2])).1 (by decide)
  rw [strOfNums_size, strOfNums_size]
  by_cases c : (X.length : Int) ≤ (Y.length : Int)
  · refine Ev.ifp c (Ev.ifp (by omega) (Ev.bind same ?_))
    have hp : ((((strOfNums Y).extract 0 ((X.length : Int)).toNat).toList == (strOfNums X).toList) == S) = true := by
      rw [str_take, Int.toNat_natCast, eqs, beq_iff_eq]
      cases S with
      | true => exact decide_eq_true (by rw [eq rfl, List.take_length])
      | false =>
        refine decide_eq_false fun e => ?_
        have e2 := str_inj (byt_take _ By) Bx e
        have e3 : Y = X ++ Y.drop X.length := by
          conv => lhs; rw [← List.take_append_drop X.length Y]
          rw [e2]
        exact absurd (beg _ e3).1 (by decide)
    refine Ev.ifp hp (Ev.bind same ?_)
    rw [last, show (S == S) = true from by simp]
    exact Ev.now _
  · refine Ev.ifn c (Ev.bind same ?_)
    have hS : S = false := by
      cases S with
      | true => exact absurd (by rw [eq rfl]; omega) c
      | false => rfl
    refine Ev.ifp (by rw [hS]; rfl) (Ev.bind same ?_)
    rw [last, show (S == S) = true from by simp]
    exact Ev.now _
end Go.Proofs.YtmcdbjcbfjnfoaaDoor.Pure
