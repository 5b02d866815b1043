
import Derived.Test.YtmcdbjcbfjnfoaaDoorQOrderTakesOrdCod
import Derived.Test.YtmcdbjcbfjnfoaaDoorQOrderTakesCodMore
set_option linter.unusedVariables false
namespace Go.Proofs.YtmcdbjcbfjnfoaaDoor.Pure
open Go.RowKit Go.Proofs.YtmcdbjcbfjnfoaaDoor Go.Proofs.YtmcdbjcbfjnfoaaDoor.PAll Go.Proofs.YtmcdbjcbfjnfoaaDoorW.PrintWords Go.Proofs.YtmcdbjcbfjnfoaaDoorW.PrintLast Go.Proofs.YtmcdbjcbfjnfoaaDoorW.PrintMore
theorem encL_len {x : S52} (h : okL x) : (encL x).length ≤ 60 := by
  obtain ⟨h0, h1, h2, h3, h4⟩ := h
  have a := encT_len h0
  have b := enc_len10 (n := x.f1.toNat) (by omega)
  have c := enc_len10 (n := x.f2.toNat) (by omega)
  unfold encL
  rw [List.length_append, List.length_append]; omega
theorem truth_eq (g : Bool) : order_truth.f g = some ((tru g : Nat) : Int) := by cases g <;> rfl
section
variable (id : ByteArray) (l : List S52) (c z s : ByteArray) (t p : Int) (g : Bool) (r b : Int) (hi : id.size ≤ 32) (hc : c.size ≤ 32) (hz : z.size ≤ 32) (hs : s.size ≤ 32) (hn : l.length ≤ 8) (hl : ∀ x ∈ l, okL x) (ht : 0 ≤ t ∧ t ≤ 1000000000000) (hp : 0 ≤ p ∧ p ≤ 12) (hr : 0 ≤ r ∧ r ≤ 1000000) (hb : 0 ≤ b ∧ b ≤ 1000000000000)
include hc hz hs ht hp hr hb
theorem put_end (o : List Int) (ho : o.length ≤ 1000) : ∀ (xs : List S52) (i n : Int), ¬ i < n → Ev (fun k => order_Put.l0 k o xs n i id l c z s t p g r b) (o ++ (encT c ++ (encT z ++ (encT s ++ (enc t.toNat ++ (enc p.toNat ++ (enc (tru g) ++ (enc r.toNat ++ enc b.toNat)))))))) := by
  intro xs i n h
  refine Ev.step (fun k => by rw [order_Put.l0, if_neg h]) ?_
  refine Ev.bind (putTs o [c, z, s] (by simp) (by intro q hq; simp at hq; rcases hq with e | e | e <;> rw [e] <;> assumption) (by omega)) ?_
  have e1 : (o ++ ([c, z, s] : List ByteArray).flatMap encT).length ≤ 2000 := by
    have := encT_len hc; have := encT_len hz; have := encT_len hs
    simp only [List.flatMap_cons, List.flatMap_nil, List.length_append, List.length_nil]; omega
  refine Ev.bindc (truth_eq g) ?_
  have tg : tru g ≤ 1 := by cases g <;> decide
  refine Ev.bind (putNs _ [t.toNat, p.toNat, tru g, r.toNat, b.toNat] _ ?_ (by simp) ?_ (by omega)) ?_
  · rw [wrapN t t.toNat (by omega) (by omega), wrapN p p.toNat (by omega) (by omega), wrapN r r.toNat (by omega) (by omega), wrapN b b.toNat (by omega) (by omega)]; rfl
  · intro q hq; simp at hq; rcases hq with e | e | e | e | e <;> omega
  · have e : (o ++ ([c, z, s] : List ByteArray).flatMap encT) ++ ([t.toNat, p.toNat, tru g, r.toNat, b.toNat] : List Nat).flatMap enc = (o ++ (encT c ++ (encT z ++ (encT s ++ (enc t.toNat ++ (enc p.toNat ++ (enc (tru g) ++ (enc r.toNat ++ enc b.toNat)))))))) := by simp
    rw [e]; exact Ev.now _
include hn hl
theorem put_lines (d : Nat) : ∀ (i : Nat) (o : List Int), i + d = l.length → o.length + 60 * d ≤ 1000 → Ev (fun k => order_Put.l0 k o l (l.length : Int) (i : Int) id l c z s t p g r b)
    (o ++ ((l.drop i).flatMap encL ++ (encT c ++ (encT z ++ (encT s ++ (enc t.toNat ++ (enc p.toNat ++ (enc (tru g) ++ (enc r.toNat ++ enc b.toNat))))))))) := by
  induction d with
  | zero =>
    intro i o h1 h2
    rw [List.drop_of_length_le (by omega)]
    exact put_end id l c z s t p g r b hc hz hs ht hp hr hb o (by omega) l i l.length (by omega)
  | succ d ih =>
    intro i o h1 h2
    have hlt : i < l.length := by omega
    have hx : okL l[i] := hl _ (List.getElem_mem hlt)
    have hx2 := hx
    obtain ⟨x0, x1, x2, x3, x4⟩ := hx2
    refine Ev.step (fun k => by rw [order_Put.l0, if_pos (by omega), if_pos (by omega), if_pos (by omega), rd_52 l i hlt]) ?_
    refine Ev.bind (putTs o [l[i].f0] (by simp) (by intro q hq; simp at hq; rw [hq]; exact x0) (by omega)) ?_
    have e1 := encT_len x0
    have e2 := encL_len hx
    refine Ev.bind (putNs _ [l[i].f1.toNat, l[i].f2.toNat] _ ?_ (by simp) ?_ ?_) ?_
    · rw [wrapN l[i].f1 l[i].f1.toNat (by omega) (by omega), wrapN l[i].f2 l[i].f2.toNat (by omega) (by omega)]; rfl
    · intro q hq; simp at hq; rcases hq with e | e <;> omega
    · simp only [List.flatMap_cons, List.flatMap_nil, List.length_append, List.length_nil]; omega
    have e : (o ++ ([l[i].f0] : List ByteArray).flatMap encT) ++ ([l[i].f1.toNat, l[i].f2.toNat] : List Nat).flatMap enc = o ++ encL l[i] := by simp [encL]
    rw [e]
    have k := ih (i + 1) (o ++ encL l[i]) (by omega) (by rw [List.length_append]; omega)
    rw [show wrap64 ((i : Int) + 1) = ((i + 1 : Nat) : Int) from w64 (by omega) (by omega)]
    rw [List.append_assoc] at k
    rw [List.drop_eq_getElem_cons hlt, List.flatMap_cons, List.append_assoc]
    exact k
include hi
theorem put_O (o : List Int) (ho : o.length ≤ 100) : Ev (fun k => order_Put.f k o id l c z s t p g r b) (o ++ putO id l c z s t p g r b) := by
  unfold order_Put.f
  refine Ev.bind (putTs o [id] (by simp) (by intro q hq; simp at hq; rw [hq]; exact hi) (by omega)) ?_
  have e1 := encT_len hi
  have e2 := enc_len10 (n := l.length) (by omega)
  refine Ev.bind (putNs _ [l.length] _ ?_ (by simp) ?_ ?_) ?_
  · rw [wrapN _ l.length rfl (by omega)]; rfl
  · intro q hq; simp at hq; omega
  · simp only [List.flatMap_cons, List.flatMap_nil, List.length_append, List.length_nil]; omega
  have e : (o ++ ([id] : List ByteArray).flatMap encT) ++ ([l.length] : List Nat).flatMap enc = o ++ (encT id ++ enc l.length) := by simp
  rw [e]
  have k := put_lines id l c z s t p g r b hc hz hs hn hl ht hp hr hb l.length 0 (o ++ (encT id ++ enc l.length)) (by omega) (by rw [List.length_append, List.length_append]; omega)
  rw [List.append_assoc, List.append_assoc] at k
  exact k
end
abbrev ResO : Type := ByteArray × (List S52) × ByteArray × ByteArray × ByteArray × Int × Int × Bool × Int × Int × Int × List Int × Bool
def badO (b : List Int) (bad : Bool) : ResO := (⟨#[]⟩, [], ⟨#[]⟩, ⟨#[]⟩, ⟨#[]⟩, 0, 0, false, 0, 0, 101, b, bad)
def endO (id : ByteArray) (l : List S52) (c z s : ByteArray) (t p g r : Int) (bt : Int × List Int × Bool) : ResO :=
  if bt.2.2 = true then badO bt.2.1 bt.2.2 else if okO id l c z s t p r bt.1 = true then (id, l, c, z, s, t, p, g == 1, r, bt.1, 0, bt.2.1, bt.2.2) else badO bt.2.1 bt.2.2
def tailO (id : ByteArray) (l : List S52) (b : List Int) (bad : Bool) : ResO :=
  let c := rdT 32 b bad
  let z := rdT 32 c.2.1 c.2.2
  let s := rdT 32 z.2.1 z.2.2
  let t := rdN 1000000000000 s.2.1 s.2.2
  let p := rdN 12 t.2.1 t.2.2
  let g := rdN 1 p.2.1 p.2.2
  let r := rdN 1000000 g.2.1 g.2.2
  endO id l c.1 z.1 s.1 t.1 p.1 g.1 r.1 (rdN 1000000000000 r.2.1 r.2.2)
def takeO (b : List Int) (bad : Bool) : ResO :=
  let a := rdT 32 b bad
  let m := rdN 8 a.2.1 a.2.2
  let q := rdLs m.1.toNat m.2.1 m.2.2
  tailO a.1 q.1 q.2.1 q.2.2
theorem tail_eq (n i : Int) (hni : ¬ i < n) (id : ByteArray) (l : List S52) (b : List Int) (bad : Bool) (x2 x3 x4 : ByteArray) (x5 x6 : Int) (x7 : Bool) (x8 x9 : Int) (hb : Byt b) (hl : b.length ≤ 140737488355328) (hi : id.size ≤ 32) (hn : l.length ≤ 8) (hs : ∀ x ∈ l, x.f0.size ≤ 32) :
    Ev (fun k => order_Take.l0 k n i b bad id l x2 x3 x4 x5 x6 x7 x8 x9) (tailO id l b bad) := by
  refine Ev.step (fun k => by rw [order_Take.l0, if_neg hni]) ?_
  have b1 := rdT_byt 32 b bad hb
  have l1 := rdT_len 32 b bad
  have b2 := rdT_byt 32 _ (rdT 32 b bad).2.2 b1
  have l2 := rdT_len 32 (rdT 32 b bad).2.1 (rdT 32 b bad).2.2
  have z1 : (rdT 32 b bad).1.size ≤ 32 := rdT_size 32 _ _ hb
  refine Ev.bind (rT_eq b bad hl hb 32 (by omega)) ?_
  simp only [show ((32 : Nat) : Int) = 32 from rfl]
  have z2 : (rdT 32 (rdT 32 b bad).2.1 (rdT 32 b bad).2.2).1.size ≤ 32 := rdT_size 32 _ _ b1
  unfold tailO
  generalize rdT 32 b bad = c at *
  refine Ev.bind (rT_eq _ _ (by omega) b1 32 (by omega)) ?_
  simp only [show ((32 : Nat) : Int) = 32 from rfl]
  have b3 := rdT_byt 32 _ (rdT 32 c.2.1 c.2.2).2.2 b2
  have l3 := rdT_len 32 (rdT 32 c.2.1 c.2.2).2.1 (rdT 32 c.2.1 c.2.2).2.2
  have z3 : (rdT 32 (rdT 32 c.2.1 c.2.2).2.1 (rdT 32 c.2.1 c.2.2).2.2).1.size ≤ 32 := rdT_size 32 _ _ b2
  generalize rdT 32 c.2.1 c.2.2 = z at *
  refine Ev.bind (rT_eq _ _ (by omega) b2 32 (by omega)) ?_
  simp only [show ((32 : Nat) : Int) = 32 from rfl]
  generalize rdT 32 z.2.1 z.2.2 = s at *
  have num : ∀ (most : Nat) (q : List Int) (f : Bool), Byt q → q.length ≤ 140737488355328 → most ≤ 1000000000000 → Ev (fun k => packet_Reader_Number.f k q f (most : Int)) (rdN most q f) ∧ wrap64 (rdN most q f).1 = (rdN most q f).1 ∧ Byt (rdN most q f).2.1 ∧ (rdN most q f).2.1.length ≤ 140737488355328 := by
    intro most q f h1 h2 h3
    have := rdN_range most q f h1
    exact ⟨rN_eq q f h2 h1 most (by omega), w64 (by omega) (by omega), rdN_byt _ _ _ h1, Nat.le_trans (rdN_len _ _ _) h2⟩
  obtain ⟨n1, w1, B1, L1⟩ := num 1000000000000 s.2.1 s.2.2 b3 (by omega) (by omega)
  refine Ev.bind n1 ?_
  simp only [show ((1000000000000 : Nat) : Int) = 1000000000000 from rfl] at *
  rw [w1]
  generalize rdN 1000000000000 s.2.1 s.2.2 = t at *
  obtain ⟨n2, w2, B2, L2⟩ := num 12 t.2.1 t.2.2 B1 L1 (by omega)
  refine Ev.bind n2 ?_
  simp only [show ((12 : Nat) : Int) = 12 from rfl] at *
  rw [w2]
  generalize rdN 12 t.2.1 t.2.2 = p at *
  obtain ⟨n3, _, B3, L3⟩ := num 1 p.2.1 p.2.2 B2 L2 (by omega)
  refine Ev.bind n3 ?_
  simp only [show ((1 : Nat) : Int) = 1 from rfl] at *
  generalize rdN 1 p.2.1 p.2.2 = g at *
  obtain ⟨n4, w4, B4, L4⟩ := num 1000000 g.2.1 g.2.2 B3 L3 (by omega)
  refine Ev.bind n4 ?_
  simp only [show ((1000000 : Nat) : Int) = 1000000 from rfl] at *
  rw [w4]
  generalize rdN 1000000 g.2.1 g.2.2 = r at *
  obtain ⟨n5, w5, B5, L5⟩ := num 1000000000000 r.2.1 r.2.2 B4 L4 (by omega)
  refine Ev.bind n5 ?_
  simp only [show ((1000000000000 : Nat) : Int) = 1000000000000 from rfl] at *
  rw [w5]
  generalize rdN 1000000000000 r.2.1 r.2.2 = bt at *
  refine Ev.bindc (a := (bt.2.2, bt.2.1, bt.2.2)) (by unfold packet_Reader_Bad.f; rfl) ?_
  simp only
  unfold endO
  refine Ev.ite fun _ => ?_
  refine Ev.bind (right_O id l c.1 z.1 s.1 t.1 p.1 (g.1 == 1) r.1 bt.1 (by omega) (by omega) (by omega) (by omega) (by omega) (fun x hx => by have := hs x hx; omega)) ?_
  cases okO id l c.1 z.1 s.1 t.1 p.1 r.1 bt.1
  · exact Ev.ifn (by decide) (Ev.now _)
  · exact Ev.ifp rfl (Ev.now _)
theorem take_l (x2 x3 x4 : ByteArray) (x5 x6 : Int) (x7 : Bool) (x8 x9 : Int) (id : ByteArray) (hi : id.size ≤ 32) (n : Nat) (hn : n ≤ 8) (d : Nat) : ∀ (i : Nat) (l : List S52) (b : List Int) (bad : Bool), i + d = n → l.length = i → Byt b → b.length ≤ 140737488355328 → (∀ x ∈ l, x.f0.size ≤ 32) →
    Ev (fun k => order_Take.l0 k (n : Int) (i : Int) b bad id l x2 x3 x4 x5 x6 x7 x8 x9) (tailO id (l ++ (rdLs d b bad).1) (rdLs d b bad).2.1 (rdLs d b bad).2.2) := by
  induction d with
  | zero =>
    intro i l b bad h1 h2 hb hl hs
    show Ev _ (tailO id (l ++ []) b bad)
    rw [List.append_nil]
    exact tail_eq n i (by omega) id l b bad _ _ _ _ _ _ _ _ hb hl hi (by omega) hs
  | succ d ih =>
    intro i l b bad h1 h2 hb hl hs
    refine Ev.step (fun k => by rw [order_Take.l0, if_pos (by omega)]) ?_
    have b1 := rdT_byt 32 b bad hb
    have l1 := rdT_len 32 b bad
    have z1 : (rdT 32 b bad).1.size ≤ 32 := rdT_size 32 _ _ hb
    have b2 := rdN_byt 1000 _ (rdT 32 b bad).2.2 b1
    have l2 := rdN_len 1000 (rdT 32 b bad).2.1 (rdT 32 b bad).2.2
    have r2 := rdN_range 1000 (rdT 32 b bad).2.1 (rdT 32 b bad).2.2 b1
    have r3 := rdN_range 100000 (rdN 1000 (rdT 32 b bad).2.1 (rdT 32 b bad).2.2).2.1 (rdN 1000 (rdT 32 b bad).2.1 (rdT 32 b bad).2.2).2.2 b2
    refine Ev.bind (rT_eq b bad hl hb 32 (by omega)) ?_
    refine Ev.bind (rN_eq _ _ (by have : (rdT (32 : Nat) b bad).2.1.length ≤ b.length := l1; omega) b1 1000 (by omega)) ?_
    refine Ev.bind (rN_eq _ _ (by have h1 : (rdT (32 : Nat) b bad).2.1.length ≤ b.length := l1; have h2 : (rdN (1000 : Nat) (rdT (32 : Nat) b bad).2.1 (rdT (32 : Nat) b bad).2.2).2.1.length ≤ (rdT (32 : Nat) b bad).2.1.length := l2; omega) b2 100000 (by omega)) ?_
    refine Ev.ifp (by omega) ?_
    simp only [show ((32 : Nat) : Int) = 32 from rfl, show ((1000 : Nat) : Int) = 1000 from rfl, show ((100000 : Nat) : Int) = 100000 from rfl] at *
    rw [w64 (by omega) (by omega), w64 (by omega) (by omega), show IntKind.u64.wrap ((i : Int) + 1) = ((i + 1 : Nat) : Int) from wrap_u (by omega) (by omega)]
    have k := ih (i + 1) (l ++ [(rdL b bad).1]) (rdL b bad).2.1 (rdL b bad).2.2 (by omega) (by simp [h2]) (rdL_byt b bad hb) (Nat.le_trans (rdL_len b bad) hl) (by
      intro x hx
      rcases List.mem_append.1 hx with e | e
      · exact hs x e
      · rw [List.mem_singleton.1 e]; exact z1)
    rw [List.append_assoc] at k
    exact k
theorem take_O (b : List Int) (bad : Bool) (hb : Byt b) (hl : b.length ≤ 140737488355328) : Ev (fun k => order_Take.f k b bad) (takeO b bad) := by
  unfold order_Take.f takeO
  have b1 := rdT_byt 32 b bad hb
  have l1 := rdT_len 32 b bad
  have z1 : (rdT 32 b bad).1.size ≤ 32 := rdT_size 32 _ _ hb
  refine Ev.bind (rT_eq b bad hl hb 32 (by omega)) ?_
  simp only [show ((32 : Nat) : Int) = 32 from rfl]
  generalize rdT 32 b bad = a at *
  refine Ev.bind (rN_eq _ _ (by omega) b1 8 (by omega)) ?_
  simp only [show ((8 : Nat) : Int) = 8 from rfl]
  have r := rdN_range 8 a.2.1 a.2.2 b1
  have b2 := rdN_byt 8 a.2.1 a.2.2 b1
  have l2 := rdN_len 8 a.2.1 a.2.2
  simp only [show ((8 : Nat) : Int) = 8 from rfl] at r
  have k := take_l ⟨#[]⟩ ⟨#[]⟩ ⟨#[]⟩ 0 0 false 0 0 a.1 z1 (rdN 8 a.2.1 a.2.2).1.toNat (by omega) (rdN 8 a.2.1 a.2.2).1.toNat 0 [] (rdN 8 a.2.1 a.2.2).2.1 (rdN 8 a.2.1 a.2.2).2.2 (by omega) rfl b2 (by omega) (by simp)
  rw [show (((rdN 8 a.2.1 a.2.2).1.toNat : Nat) : Int) = (rdN 8 a.2.1 a.2.2).1 from by omega] at k
  exact k
theorem ok_lab {id : ByteArray} {l : List S52} {c z s : ByteArray} {t p : Int} {r b : Int} (h : okO id l c z s t p r b = true) :
    id.size ≤ 32 ∧ c.size ≤ 32 ∧ z.size ≤ 32 ∧ s.size ≤ 32 ∧ linesB l = true ∧ (0 ≤ t ∧ t ≤ 1000000000000) ∧ (1 ≤ p ∧ p ≤ 12) ∧ (0 ≤ r ∧ r ≤ 1000000) ∧ (0 ≤ b ∧ b ≤ 1000000000000) := by
  simp only [okO, grp, Bool.and_eq_true, decide_eq_true_eq] at h
  obtain ⟨h1, ⟨h2, h3, h4⟩, h5, h6, h7, h8, _⟩ := h
  exact ⟨lab_size _ h1, lab_size _ h2, lab_size _ h3, lab_size _ h4, h5, h6, ⟨h7.1, h7.2.1⟩, h7.2.2, h8⟩
theorem rise_ok (l : List S52) : ∀ (d i : Nat), i + d = l.length → rise l d i = true → ∀ j, i ≤ j → (h : j < l.length) → lineB l[j] = true := by
  intro d
  induction d with
  | zero => intro i h1 _ j h2 h3; omega
  | succ d ih =>
    intro i h1 hr j h2 h3
    rw [rise, dif_pos (show i < l.length by omega), Bool.and_eq_true, Bool.and_eq_true] at hr
    by_cases c : j = i
    · subst c; exact hr.1
    · exact ih (i + 1) (by omega) hr.2.2 j (by omega) h3
theorem linesB_ok {l : List S52} (h : linesB l = true) : l.length ≤ 8 ∧ ∀ x ∈ l, okL x := by
  rw [linesB, Bool.and_eq_true, decide_eq_true_eq] at h
  refine ⟨h.2.2, fun x hx => ?_⟩
  obtain ⟨j, hj, e⟩ := List.mem_iff_getElem.1 hx
  have h1 := rise_ok l l.length 0 (by omega) h.1 j (by omega) hj
  rw [e, lineB, Bool.and_eq_true, decide_eq_true_eq] at h1
  obtain ⟨h2, h3, h4, h5, h6⟩ := h1
  exact ⟨lab_size _ h2, by omega, h4, h5, h6⟩
theorem take_got (q : List Int) (hb : Byt q) : (∃ r bad, takeO q false = badO r bad) ∨ ∃ id l c z s t p g r b u, okO id l c z s t p r b = true ∧ takeO q false = (id, l, c, z, s, t, p, g, r, b, 0, u, false) ∧ q = putO id l c z s t p g r b ++ u := by
  unfold takeO tailO
  simp only
  have B1 := rdT_byt 32 q false hb
  have B2 := rdN_byt 8 _ (rdT 32 q false).2.2 B1
  have G1 := rdT_got 32 q false hb
  simp only [show ((32 : Nat) : Int) = 32 from rfl] at *
  generalize rdT 32 q false = a at *
  have G2 := rdN_got 8 a.2.1 a.2.2 B1
  simp only [show ((8 : Nat) : Int) = 8 from rfl] at *
  generalize rdN 8 a.2.1 a.2.2 = m at *
  have B3 := rdLs_byt m.1.toNat m.2.1 m.2.2 B2
  have G3 := rdLs_got m.1.toNat m.2.1 m.2.2 B2
  have M3 := rdLs_many m.1.toNat m.2.1 m.2.2
  generalize rdLs m.1.toNat m.2.1 m.2.2 = v at *
  have B4 := rdT_byt 32 _ v.2.2 B3
  have G4 := rdT_got 32 _ v.2.2 B3
  simp only [show ((32 : Nat) : Int) = 32 from rfl] at *
  generalize rdT 32 v.2.1 v.2.2 = c at *
  have B5 := rdT_byt 32 _ c.2.2 B4
  have G5 := rdT_got 32 _ c.2.2 B4
  simp only [show ((32 : Nat) : Int) = 32 from rfl] at *
  generalize rdT 32 c.2.1 c.2.2 = z at *
  have B6 := rdT_byt 32 _ z.2.2 B5
  have G6 := rdT_got 32 _ z.2.2 B5
  simp only [show ((32 : Nat) : Int) = 32 from rfl] at *
  generalize rdT 32 z.2.1 z.2.2 = s at *
  have B7 := rdN_byt 1000000000000 _ s.2.2 B6
  have G7 := rdN_got 1000000000000 _ s.2.2 B6
  simp only [show ((1000000000000 : Nat) : Int) = 1000000000000 from rfl] at *
  generalize rdN 1000000000000 s.2.1 s.2.2 = t at *
  have B8 := rdN_byt 12 _ t.2.2 B7
  have G8 := rdN_got 12 _ t.2.2 B7
  simp only [show ((12 : Nat) : Int) = 12 from rfl] at *
  generalize rdN 12 t.2.1 t.2.2 = p at *
  have B9 := rdN_byt 1 _ p.2.2 B8
  have G9 := rdN_got 1 _ p.2.2 B8
  simp only [show ((1 : Nat) : Int) = 1 from rfl] at *
  generalize rdN 1 p.2.1 p.2.2 = g at *
  have B10 := rdN_byt 1000000 _ g.2.2 B9
  have G10 := rdN_got 1000000 _ g.2.2 B9
  simp only [show ((1000000 : Nat) : Int) = 1000000 from rfl] at *
  generalize rdN 1000000 g.2.1 g.2.2 = r at *
  have G11 := rdN_got 1000000000000 _ r.2.2 B10
  simp only [show ((1000000000000 : Nat) : Int) = 1000000000000 from rfl] at *
  generalize rdN 1000000000000 r.2.1 r.2.2 = bt at *
  unfold endO
  by_cases cb : bt.2.2 = true
  · rw [if_pos cb]; exact .inl ⟨_, _, rfl⟩
  rw [if_neg cb]
  by_cases co : okO a.1 v.1 c.1 z.1 s.1 t.1 p.1 r.1 bt.1 = true
  · rw [if_pos co]
    have cb : bt.2.2 = false := by simpa using cb
    obtain ⟨f11, q11, _, v11, w11⟩ := G11 cb
    obtain ⟨f10, q10, _, v10, w10⟩ := G10 f11
    obtain ⟨f9, q9, m9, v9, w9⟩ := G9 f10
    obtain ⟨f8, q8, _, v8, w8⟩ := G8 f9
    obtain ⟨f7, q7, _, v7, w7⟩ := G7 f8
    obtain ⟨f6, _, w6⟩ := G6 f7
    obtain ⟨f5, _, w5⟩ := G5 f6
    obtain ⟨f4, _, w4⟩ := G4 f5
    obtain ⟨f3, _, w3⟩ := G3 f4
    obtain ⟨f2, q2, _, v2, w2⟩ := G2 f3
    obtain ⟨_, _, w1⟩ := G1 f2
    refine .inr ⟨a.1, v.1, c.1, z.1, s.1, t.1, p.1, g.1 == 1, r.1, bt.1, bt.2.1, co, by rw [cb], ?_⟩
    unfold putO
    simp only [List.append_assoc]
    have tg : tru (g.1 == 1) = q9 := by
      rw [v9]
      have : q9 = 0 ∨ q9 = 1 := by omega
      rcases this with e | e <;> rw [e] <;> rfl
    rw [tg, M3, v2, v7, v8, v10, v11, Int.toNat_natCast, Int.toNat_natCast, Int.toNat_natCast, Int.toNat_natCast, Int.toNat_natCast, ← w11, ← w10, ← w9, ← w8, ← w7, ← w6, ← w5, ← w4, ← w3, ← w2]
    exact w1
  · rw [if_neg co]; exact .inl ⟨_, _, rfl⟩
end Go.Proofs.YtmcdbjcbfjnfoaaDoor.Pure
