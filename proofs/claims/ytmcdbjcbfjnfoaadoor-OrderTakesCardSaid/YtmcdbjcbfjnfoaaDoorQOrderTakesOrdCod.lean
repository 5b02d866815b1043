
import Derived.Test.YtmcdbjcbfjnfoaaDoorQOrderTakesLibGo
import Derived.Test.YtmcdbjcbfjnfoaaDoorQOrderTakesCodGo
import Derived.Test.YtmcdbjcbfjnfoaaDoorQOrderTakesLabSize
set_option linter.unusedVariables false
namespace Go.Proofs.YtmcdbjcbfjnfoaaDoor.Pure
open Go.RowKit Go.Proofs.YtmcdbjcbfjnfoaaDoor Go.Proofs.YtmcdbjcbfjnfoaaDoor.PAll Go.Proofs.YtmcdbjcbfjnfoaaDoorW.PrintWords Go.Proofs.YtmcdbjcbfjnfoaaDoorW.PrintLast Go.Proofs.YtmcdbjcbfjnfoaaDoorW.PrintMore
def encL (x : S52) : List Int := encT x.f0 ++ (enc x.f1.toNat ++ enc x.f2.toNat)
def tru (g : Bool) : Nat := if g = true then 1 else 0
def putO (i : ByteArray) (l : List S52) (c z s : ByteArray) (t p : Int) (g : Bool) (r b : Int) : List Int :=
  encT i ++ (enc l.length ++ (l.flatMap encL ++ (encT c ++ (encT z ++ (encT s ++ (enc t.toNat ++ (enc p.toNat ++ (enc (tru g) ++ (enc r.toNat ++ enc b.toNat)))))))))
def rdL (l : List Int) (bad : Bool) : S52 × List Int × Bool :=
  ((⟨(rdT 32 l bad).1, (rdN 1000 (rdT 32 l bad).2.1 (rdT 32 l bad).2.2).1, (rdN 100000 (rdN 1000 (rdT 32 l bad).2.1 (rdT 32 l bad).2.2).2.1 (rdN 1000 (rdT 32 l bad).2.1 (rdT 32 l bad).2.2).2.2).1⟩ : S52),
   (rdN 100000 (rdN 1000 (rdT 32 l bad).2.1 (rdT 32 l bad).2.2).2.1 (rdN 1000 (rdT 32 l bad).2.1 (rdT 32 l bad).2.2).2.2).2.1,
   (rdN 100000 (rdN 1000 (rdT 32 l bad).2.1 (rdT 32 l bad).2.2).2.1 (rdN 1000 (rdT 32 l bad).2.1 (rdT 32 l bad).2.2).2.2).2.2)
def rdLs : Nat → List Int → Bool → List S52 × List Int × Bool
  | 0, l, bad => ([], l, bad)
  | n + 1, l, bad => ((rdL l bad).1 :: (rdLs n (rdL l bad).2.1 (rdL l bad).2.2).1, (rdLs n (rdL l bad).2.1 (rdL l bad).2.2).2.1, (rdLs n (rdL l bad).2.1 (rdL l bad).2.2).2.2)
def okL (x : S52) : Prop := x.f0.size ≤ 32 ∧ 0 ≤ x.f1 ∧ x.f1 ≤ 1000 ∧ 0 ≤ x.f2 ∧ x.f2 ≤ 100000
theorem rdL_byt (l : List Int) (bad : Bool) (hb : Byt l) : Byt (rdL l bad).2.1 := rdN_byt _ _ _ (rdN_byt _ _ _ (rdT_byt _ _ _ hb))
theorem rdLs_byt : ∀ (n : Nat) (l : List Int) (bad : Bool), Byt l → Byt (rdLs n l bad).2.1 := by
  intro n
  induction n with
  | zero => intro l bad h; exact h
  | succ n ih => intro l bad h; exact ih _ _ (rdL_byt l bad h)
theorem rdL_len (l : List Int) (bad : Bool) : (rdL l bad).2.1.length ≤ l.length :=
  Nat.le_trans (rdN_len _ _ _) (Nat.le_trans (rdN_len _ _ _) (rdT_len _ _ _))
theorem rdLs_many : ∀ (n : Nat) (l : List Int) (bad : Bool), (rdLs n l bad).1.length = n := by
  intro n
  induction n with
  | zero => intro l bad; rfl
  | succ n ih => intro l bad; show ((rdLs n _ _).1.length + 1) = n + 1; rw [ih]
theorem rdL_got (l : List Int) (bad : Bool) (hb : Byt l) (h : (rdL l bad).2.2 = false) : bad = false ∧ okL (rdL l bad).1 ∧ l = encL (rdL l bad).1 ++ (rdL l bad).2.1 := by
  have b1 := rdT_byt 32 l bad hb
  have b2 := rdN_byt 1000 _ (rdT 32 l bad).2.2 b1
  obtain ⟨g3, q3, r3, v3, w3⟩ := rdN_got 100000 _ _ b2 h
  obtain ⟨g2, q2, r2, v2, w2⟩ := rdN_got 1000 _ _ b1 g3
  obtain ⟨g1, r1, w1⟩ := rdT_got 32 l bad hb g2
  refine ⟨g1, ⟨r1, ?_, ?_, ?_, ?_⟩, ?_⟩
  · show 0 ≤ (rdN 1000 _ _).1
    rw [show (rdN 1000 _ _).1 = _ from v2]; omega
  · show (rdN 1000 _ _).1 ≤ 1000
    rw [show (rdN 1000 _ _).1 = _ from v2]; omega
  · show 0 ≤ (rdN 100000 _ _).1
    rw [show (rdN 100000 _ _).1 = _ from v3]; omega
  · show (rdN 100000 _ _).1 ≤ 100000
    rw [show (rdN 100000 _ _).1 = _ from v3]; omega
  · show l = (encT (rdT 32 l bad).1 ++ (enc (rdN 1000 _ _).1.toNat ++ enc (rdN 100000 _ _).1.toNat)) ++ (rdN 100000 _ _).2.1
    rw [show (rdN 1000 _ _).1 = _ from v2, show (rdN 100000 _ _).1 = _ from v3, Int.toNat_natCast, Int.toNat_natCast, List.append_assoc, List.append_assoc]
    refine w1.trans (congrArg (encT _ ++ ·) ?_)
    exact w2.trans (congrArg (enc q2 ++ ·) w3)
theorem rdLs_got : ∀ (n : Nat) (l : List Int) (bad : Bool), Byt l → (rdLs n l bad).2.2 = false → bad = false ∧ (∀ x ∈ (rdLs n l bad).1, okL x) ∧ l = (rdLs n l bad).1.flatMap encL ++ (rdLs n l bad).2.1 := by
  intro n
  induction n with
  | zero => intro l bad hb h; exact ⟨h, fun x hx => absurd hx (by simp [rdLs]), rfl⟩
  | succ n ih =>
    intro l bad hb h
    obtain ⟨g1, o1, w1⟩ := ih _ _ (rdL_byt l bad hb) h
    obtain ⟨g2, o2, w2⟩ := rdL_got l bad hb g1
    refine ⟨g2, ?_, ?_⟩
    · intro x hx
      rcases List.mem_cons.1 (show x ∈ (rdL l bad).1 :: (rdLs n (rdL l bad).2.1 (rdL l bad).2.2).1 from hx) with e | e
      · rw [e]; exact o2
      · exact o1 x e
    · show l = ((rdL l bad).1 :: (rdLs n (rdL l bad).2.1 (rdL l bad).2.2).1).flatMap encL ++ (rdLs n (rdL l bad).2.1 (rdL l bad).2.2).2.1
      rw [List.flatMap_cons, List.append_assoc, ← w1]
      exact w2
end Go.Proofs.YtmcdbjcbfjnfoaaDoor.Pure
