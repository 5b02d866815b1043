
import Derived.Test.YtmcdbjcbfjnfoaaDoorQOrderTakesOrdGo
set_option linter.unusedVariables false
namespace Go.Proofs.YtmcdbjcbfjnfoaaDoor.Pure
open Go.RowKit Go.Proofs.YtmcdbjcbfjnfoaaDoor Go.Proofs.YtmcdbjcbfjnfoaaDoor.PAll Go.Proofs.YtmcdbjcbfjnfoaaDoorW.PrintWords Go.Proofs.YtmcdbjcbfjnfoaaDoorW.PrintLast Go.Proofs.YtmcdbjcbfjnfoaaDoorW.PrintMore
theorem put_ok {i : ByteArray} {l : List S52} {c z s : ByteArray} {t p : Int} (g : Bool) {r b : Int} (h : okO i l c z s t p r b = true) : Ev (fun k => order_Put.f k ([] : List Int) i l c z s t p g r b) (putO i l c z s t p g r b) := by
  obtain ⟨h1, h2, h3, h4, h5, h6, h7, h8, h9⟩ := ok_lab h
  obtain ⟨hn, hl⟩ := linesB_ok h5
  exact put_O i l c z s t p g r b h1 h2 h3 h4 hn hl h6 ⟨by omega, h7.2⟩ h8 h9 [] (by simp)
theorem self_O (i : ByteArray) (l : List S52) (c z s : ByteArray) (t p : Int) (g : Bool) (r b : Int) (hb : l.length ≤ 9223372036854775806) : Ev (fun k => order_Same.f k i l c z s t p g r b i l c z s t p g r b) true := by
  have := same_O i l c z s t p g r b i l c z s t p g r b hb
  rwa [show sameB i l c z s t p g r b i l c z s t p g r b = true from decide_eq_true ⟨rfl, rfl, rfl, rfl, rfl, rfl, rfl, rfl, rfl, rfl⟩] at this
theorem bad_same : Ev (fun k => order_Same.f k (⟨#[]⟩ : ByteArray) ([] : List S52) (⟨#[]⟩ : ByteArray) (⟨#[]⟩ : ByteArray) (⟨#[]⟩ : ByteArray) 0 0 false 0 0 (⟨#[]⟩ : ByteArray) ([] : List S52) (⟨#[]⟩ : ByteArray) (⟨#[]⟩ : ByteArray) (⟨#[]⟩ : ByteArray) 0 0 false 0 0) true := self_O _ _ _ _ _ _ _ _ _ _ (by simp)
theorem alive : Ev (fun k => packhorselaw10_orderAlive.f k) true := Ev.of (packhorselaw10_orderAlive.mono ·) (k := 60) (by decide +kernel)
end Go.Proofs.YtmcdbjcbfjnfoaaDoor.Pure
