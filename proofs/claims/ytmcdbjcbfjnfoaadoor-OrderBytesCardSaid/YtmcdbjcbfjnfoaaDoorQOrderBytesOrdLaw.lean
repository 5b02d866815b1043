
import Derived.Test.YtmcdbjcbfjnfoaaDoorQOrderBytesOrdGo
set_option linter.unusedVariables false
namespace Go.Proofs.YtmcdbjcbfjnfoaaDoor.Pure
open Go.RowKit Go.Proofs.YtmcdbjcbfjnfoaaDoor Go.Proofs.YtmcdbjcbfjnfoaaDoor.PAll Go.Proofs.YtmcdbjcbfjnfoaaDoorW.PrintWords Go.Proofs.YtmcdbjcbfjnfoaaDoorW.PrintLast Go.Proofs.YtmcdbjcbfjnfoaaDoorW.PrintMore
theorem encL_byt (x : S52) : Byt (encL x) := byt_append.2 ⟨encT_byt _, byt_append.2 ⟨enc_byt _, enc_byt _⟩⟩
theorem lines_byt : ∀ l : List S52, Byt (l.flatMap encL) := by
  intro l
  induction l with
  | nil => intro x hx; exact absurd hx (by simp)
  | cons x l ih => rw [List.flatMap_cons]; exact byt_append.2 ⟨encL_byt x, ih⟩
theorem putO_byt (i : ByteArray) (l : List S52) (c z s : ByteArray) (t p : Int) (g : Bool) (r b : Int) : Byt (putO i l c z s t p g r b) := by
  unfold putO
  simp only [byt_append]
  exact ⟨encT_byt _, enc_byt _, lines_byt l, encT_byt _, encT_byt _, encT_byt _, enc_byt _, enc_byt _, enc_byt _, enc_byt _, enc_byt _⟩
theorem lines_len : ∀ l : List S52, (∀ x ∈ l, okL x) → (l.flatMap encL).length ≤ 60 * l.length := by
  intro l
  induction l with
  | nil => intro _; simp
  | cons x l ih =>
    intro h
    have h1 := encL_len (h x (by simp))
    have h2 := ih fun y hy => h y (by simp [hy])
    rw [List.flatMap_cons, List.length_append, List.length_cons]; omega
theorem putO_len {i : ByteArray} {l : List S52} {c z s : ByteArray} {t p : Int} (g : Bool) {r b : Int} (h : okO i l c z s t p r b = true) : (putO i l c z s t p g r b).length ≤ 1000 := by
  obtain ⟨h1, h2, h3, h4, h5, h6, h7, h8, h9⟩ := ok_lab h
  obtain ⟨hn, hl⟩ := linesB_ok h5
  have a1 := encT_len h1; have a2 := encT_len h2; have a3 := encT_len h3; have a4 := encT_len h4
  have a5 := lines_len l hl
  have a6 := enc_len10 (n := l.length) (by omega)
  have a7 := enc_len10 (n := t.toNat) (by omega)
  have a8 := enc_len10 (n := p.toNat) (by omega)
  have a9 := enc_len10 (n := tru g) (by cases g <;> decide)
  have a10 := enc_len10 (n := r.toNat) (by omega)
  have a11 := enc_len10 (n := b.toNat) (by omega)
  unfold putO
  simp only [List.length_append]
  omega
theorem put_ok {i : ByteArray} {l : List S52} {c z s : ByteArray} {t p : Int} (g : Bool) {r b : Int} (h : okO i l c z s t p r b = true) : Ev (fun k => order_Put.f k ([] : List Int) i l c z s t p g r b) (putO i l c z s t p g r b) := by
  obtain ⟨h1, h2, h3, h4, h5, h6, h7, h8, h9⟩ := ok_lab h
  obtain ⟨hn, hl⟩ := linesB_ok h5
  exact put_O i l c z s t p g r b h1 h2 h3 h4 hn hl h6 ⟨by omega, h7.2⟩ h8 h9 [] (by simp)
theorem self_O (i : ByteArray) (l : List S52) (c z s : ByteArray) (t p : Int) (g : Bool) (r b : Int) (hb : l.length ≤ 9223372036854775806) : Ev (fun k => order_Same.f k i l c z s t p g r b i l c z s t p g r b) true := by
  have := same_O i l c z s t p g r b i l c z s t p g r b hb
  rwa [show sameB i l c z s t p g r b i l c z s t p g r b = true from decide_eq_true ⟨rfl, rfl, rfl, rfl, rfl, rfl, rfl, rfl, rfl, rfl⟩] at this
theorem begin_O {i : ByteArray} {l : List S52} {c z s : ByteArray} {t p : Int} {g : Bool} {r b : Int} {i' : ByteArray} {l' : List S52} {c' z' s' : ByteArray} {t' p' : Int} {g' : Bool} {r' b' : Int}
    (h : okO i l c z s t p r b = true) (h' : okO i' l' c' z' s' t' p' r' b' = true) (q : List Int) (e : putO i' l' c' z' s' t' p' g' r' b' = putO i l c z s t p g r b ++ q) : sameB i l c z s t p g r b i' l' c' z' s' t' p' g' r' b' = true ∧ q = [] := by
  have e1 := take_put i l c z s t p g r b h q
  have e2 := take_put i' l' c' z' s' t' p' g' r' b' h' []
  rw [List.append_nil, e, e1] at e2
  simp only [Prod.mk.injEq] at e2
  obtain ⟨f1, f2, f3, f4, f5, f6, f7, f8, f9, f10, _, f11, _⟩ := e2
  exact ⟨decide_eq_true ⟨f1, f2, f3, f4, f5, f6, f7, f8, f9, f10⟩, f11⟩
theorem bad_same : Ev (fun k => order_Same.f k (⟨#[]⟩ : ByteArray) ([] : List S52) (⟨#[]⟩ : ByteArray) (⟨#[]⟩ : ByteArray) (⟨#[]⟩ : ByteArray) 0 0 false 0 0 (⟨#[]⟩ : ByteArray) ([] : List S52) (⟨#[]⟩ : ByteArray) (⟨#[]⟩ : ByteArray) (⟨#[]⟩ : ByteArray) 0 0 false 0 0) true := self_O _ _ _ _ _ _ _ _ _ _ (by simp)
theorem alive : Ev (fun k => packhorselaw10_orderAlive.f k) true := Ev.of (packhorselaw10_orderAlive.mono ·) (k := 60) (by decide +kernel)
end Go.Proofs.YtmcdbjcbfjnfoaaDoor.Pure
