
import Derived.Test.YtapfpdjcbeiibaaDoorQBatchBytesYLibGo
import Derived.Test.YtapfpdjcbeiibaaDoorQBatchBytesYCodMore
set_option linter.unusedVariables false
namespace Go.Proofs.YtapfpdjcbeiibaaDoor.Pure
open Go.RowKit Go.Proofs.YtapfpdjcbeiibaaDoor Go.Proofs.YtapfpdjcbeiibaaDoor.PByt Go.Proofs.YtapfpdjcbeiibaaDoorW.PrintWords Go.Proofs.YtapfpdjcbeiibaaDoorW.PrintLast Go.Proofs.YtapfpdjcbeiibaaDoorW.PrintMore
def putB (id wt born kind ph : Int) (c z s : ByteArray) (l : List ByteArray) : List Int :=
  enc id.toNat ++ (enc kind.toNat ++ (enc ph.toNat ++ (enc wt.toNat ++ (enc born.toNat ++ (encT c ++ (encT z ++ (encT s ++ (enc l.length ++ l.flatMap encT))))))))
theorem membs_ok (l : List ByteArray) (d : Nat) : ∀ i : Nat, i + d = l.length → membs l d i = true → ∀ (j : Nat) (h : j < l.length), i ≤ j → lab l[j] = true := by
  induction d with
  | zero => intro i h _ j h1 h2; omega
  | succ d ih =>
    intro i h hm j h1 h2
    rw [membs, dif_pos (show i < l.length by omega)] at hm
    simp only [Bool.and_eq_true] at hm
    by_cases c : j = i
    · subst c; exact hm.1
    · exact ih (i + 1) (by omega) hm.2.2 j h1 (by omega)
theorem okB_ok {id wt born kind ph : Int} {c z s : ByteArray} {l : List ByteArray} (h : okB id wt born kind ph c z s l = true) :
    (1 ≤ id ∧ id ≤ 1000000000000) ∧ (0 ≤ wt ∧ wt ≤ 1000000000000) ∧ (0 ≤ born ∧ born ≤ 1099511627776) ∧ (1 ≤ kind ∧ kind ≤ 2) ∧ (1 ≤ ph ∧ ph ≤ 3) ∧ c.size ≤ 32 ∧ z.size ≤ 32 ∧ s.size ≤ 32 ∧ l.length ≤ 64 ∧ ∀ x ∈ l, x.size ≤ 32 := by
  simp only [okB, grp, Bool.and_eq_true, decide_eq_true_eq] at h
  obtain ⟨⟨h1, h2, h3, h4, h5, h6, h7⟩, ⟨h8, h9, h10⟩, ⟨h11, h12, h13⟩, h14⟩ := h
  refine ⟨⟨h1, h2⟩, ⟨h3, h4⟩, ⟨h5, h6⟩, by omega, ⟨h12, h13⟩, lab_size _ h8, lab_size _ h9, lab_size _ h10, h7, fun x hx => ?_⟩
  obtain ⟨j, hj, e⟩ := List.mem_iff_getElem.1 hx
  rw [← e]
  exact lab_size _ (membs_ok l l.length 0 (by omega) h14 j hj (by omega))
theorem putB_byt (id wt born kind ph : Int) (c z s : ByteArray) (l : List ByteArray) : Byt (putB id wt born kind ph c z s l) := by
  unfold putB
  simp only [byt_append]
  exact ⟨enc_byt _, enc_byt _, enc_byt _, enc_byt _, enc_byt _, encT_byt _, encT_byt _, encT_byt _, enc_byt _, texts_byt l⟩
theorem putB_len {id wt born kind ph : Int} {c z s : ByteArray} {l : List ByteArray} (h : okB id wt born kind ph c z s l = true) : (putB id wt born kind ph c z s l).length ≤ 3000 := by
  obtain ⟨h1, h2, h3, h4, h5, h6, h7, h8, h9, h10⟩ := okB_ok h
  have a1 := enc_len10 (n := id.toNat) (by omega)
  have a2 := enc_len10 (n := wt.toNat) (by omega)
  have a3 := enc_len10 (n := born.toNat) (by omega)
  have a4 := enc_len10 (n := kind.toNat) (by omega)
  have a5 := enc_len10 (n := ph.toNat) (by omega)
  have a6 := enc_len10 (n := l.length) (by omega)
  have b1 := encT_len h6; have b2 := encT_len h7; have b3 := encT_len h8
  have b4 := texts_len l h10
  unfold putB
  simp only [List.length_append]
  omega
theorem put_Bo (o : List Int) (ho : o.length ≤ 100) {id wt born kind ph : Int} {c z s : ByteArray} {l : List ByteArray} (h : okB id wt born kind ph c z s l = true) : Ev (fun k => batch_Put.f k o id wt born kind ph c z s l) (o ++ putB id wt born kind ph c z s l) := by
  obtain ⟨h1, h2, h3, h4, h5, h6, h7, h8, h9, h10⟩ := okB_ok h
  have L := putB_len h
  unfold batch_Put.f
  refine Ev.bind (putNs o [id.toNat, kind.toNat, ph.toNat, wt.toNat, born.toNat] _ ?_ (by simp) ?_ (by omega)) ?_
  · rw [wrapN id id.toNat (by omega) (by omega), wrapN kind kind.toNat (by omega) (by omega), wrapN ph ph.toNat (by omega) (by omega), wrapN wt wt.toNat (by omega) (by omega), wrapN born born.toNat (by omega) (by omega)]; rfl
  · intro q hq; simp at hq; rcases hq with e | e | e | e | e <;> omega
  have b1 := encT_len h6; have b2 := encT_len h7; have b3 := encT_len h8
  have b4 := texts_len l h10
  have a1 := enc_len10 (n := id.toNat) (by omega)
  have a2 := enc_len10 (n := wt.toNat) (by omega)
  have a3 := enc_len10 (n := born.toNat) (by omega)
  have a4 := enc_len10 (n := kind.toNat) (by omega)
  have a5 := enc_len10 (n := ph.toNat) (by omega)
  have a6 := enc_len10 (n := l.length) (by omega)
  refine Ev.bind (putTs _ [c, z, s] (by simp) (by intro q hq; simp at hq; rcases hq with e | e | e <;> rw [e] <;> assumption) (by simp only [List.flatMap_cons, List.flatMap_nil, List.length_append, List.length_nil]; omega)) ?_
  refine Ev.bind (putNs _ [l.length] _ ?_ (by simp) ?_ (by simp only [List.flatMap_cons, List.flatMap_nil, List.length_append, List.length_nil]; omega)) ?_
  · rw [wrapN _ l.length rfl (by omega)]; rfl
  · intro q hq; simp at hq; omega
  refine Ev.bind (putTs _ l (by omega) h10 (by simp only [List.flatMap_cons, List.flatMap_nil, List.length_append, List.length_nil]; omega)) ?_
  have e : ((o ++ ([id.toNat, kind.toNat, ph.toNat, wt.toNat, born.toNat] : List Nat).flatMap enc) ++ ([c, z, s] : List ByteArray).flatMap encT) ++ ([l.length] : List Nat).flatMap enc ++ l.flatMap encT = o ++ putB id wt born kind ph c z s l := by simp [putB]
  rw [e]; exact Ev.now _
abbrev ResB : Type := Int × Int × Int × Int × Int × ByteArray × ByteArray × ByteArray × List ByteArray × Bool × List Int × Bool
def badB (b : List Int) (bad : Bool) : ResB := (0, 0, 0, 0, 0, ⟨#[]⟩, ⟨#[]⟩, ⟨#[]⟩, [], false, b, bad)
def endB (id wt born kind ph : Int) (c z s : ByteArray) (q : List ByteArray × List Int × Bool) : ResB :=
  if q.2.2 = true then badB q.2.1 q.2.2 else if okB id wt born kind ph c z s q.1 = true then (id, wt, born, kind, ph, c, z, s, q.1, true, q.2.1, q.2.2) else badB q.2.1 q.2.2
def takeB (b : List Int) (bad : Bool) : ResB :=
  let i := rdN 1000000000000 b bad
  let k := rdN 2 i.2.1 i.2.2
  let p := rdN 3 k.2.1 k.2.2
  let w := rdN 1000000000000 p.2.1 p.2.2
  let o := rdN 1099511627776 w.2.1 w.2.2
  let c := rdT 32 o.2.1 o.2.2
  let z := rdT 32 c.2.1 c.2.2
  let s := rdT 32 z.2.1 z.2.2
  let m := rdN 64 s.2.1 s.2.2
  endB i.1 w.1 o.1 k.1 p.1 c.1 z.1 s.1 (rdTs m.1.toNat m.2.1 m.2.2)
theorem takeB_l (id wt born kind ph : Int) (c z s : ByteArray) (hc : c.size ≤ 32) (hz : z.size ≤ 32) (hs : s.size ≤ 32) (n : Nat) (hn : n ≤ 64) (d : Nat) : ∀ (i : Nat) (l : List ByteArray) (b : List Int) (bad : Bool), i + d = n → l.length = i → Byt b → b.length ≤ 140737488355328 → (∀ x ∈ l, x.size ≤ 32) →
    Ev (fun k => batch_Take.l0 k (n : Int) (i : Int) b bad id wt born kind ph c z s l) (endB id wt born kind ph c z s (l ++ (rdTs d b bad).1, (rdTs d b bad).2.1, (rdTs d b bad).2.2)) := by
  induction d with
  | zero =>
    intro i l b bad h1 h2 hb hl hm
    refine Ev.step (fun k => by rw [batch_Take.l0, if_neg (by omega)]) ?_
    refine Ev.bindc (a := (bad, b, bad)) (by unfold packet_Reader_Bad.f; rfl) ?_
    unfold rdTs endB
    rw [List.append_nil]
    refine Ev.ite fun _ => ?_
    refine Ev.bind (right_B id wt born kind ph c z s l (by omega) (by omega) (by omega) (by omega) (fun x hx => by have := hm x hx; omega)) ?_
    cases okB id wt born kind ph c z s l
    · exact Ev.ifn (by decide) (Ev.now _)
    · exact Ev.ifp rfl (Ev.now _)
  | succ d ih =>
    intro i l b bad h1 h2 hb hl hm
    have z1 : (rdT 32 b bad).1.size ≤ 32 := rdT_size 32 _ _ hb
    have b1 : Byt (rdT 32 b bad).2.1 := rdT_byt 32 b bad hb
    have l1 : (rdT 32 b bad).2.1.length ≤ b.length := rdT_len 32 b bad
    refine Ev.step (fun k => by rw [batch_Take.l0, if_pos (by omega)]) ?_
    refine Ev.bind (rT_eq b bad hl hb 32 (by omega)) (Ev.ifp (by omega) ?_)
    rw [show IntKind.u64.wrap ((i : Int) + 1) = ((i + 1 : Nat) : Int) from wrap_u (by omega) (by omega)]
    have k := ih (i + 1) (l ++ [(rdT 32 b bad).1]) (rdT 32 b bad).2.1 (rdT 32 b bad).2.2 (by omega) (by simp [h2]) b1 (by omega) (by
      intro x hx
      rcases List.mem_append.1 hx with e | e
      · exact hm x e
      · rw [List.mem_singleton.1 e]; exact z1)
    rw [List.append_assoc] at k
    exact k
theorem take_B (b : List Int) (bad : Bool) (hb : Byt b) (hl : b.length ≤ 140737488355328) : Ev (fun k => batch_Take.f k b bad) (takeB b bad) := by
  unfold batch_Take.f takeB
  have num : ∀ (most : Nat) (q : List Int) (f : Bool), Byt q → q.length ≤ 140737488355328 → most ≤ 1099511627776 → Ev (fun k => packet_Reader_Number.f k q f (most : Int)) (rdN most q f) ∧ wrap64 (rdN most q f).1 = (rdN most q f).1 ∧ Byt (rdN most q f).2.1 ∧ (rdN most q f).2.1.length ≤ 140737488355328 ∧ 0 ≤ (rdN most q f).1 ∧ (rdN most q f).1 ≤ most := by
    intro most q f h1 h2 h3
    have := rdN_range most q f h1
    exact ⟨rN_eq q f h2 h1 most (by omega), w64 (by omega) (by omega), rdN_byt _ _ _ h1, Nat.le_trans (rdN_len _ _ _) h2, this⟩
  obtain ⟨n1, w1, B1, L1, _⟩ := num 1000000000000 b bad hb hl (by omega)
  refine Ev.bind n1 ?_
  simp only [show ((1000000000000 : Nat) : Int) = 1000000000000 from rfl] at *
  generalize rdN 1000000000000 b bad = i at *
  obtain ⟨n2, w2, B2, L2, _⟩ := num 2 i.2.1 i.2.2 B1 L1 (by omega)
  refine Ev.bind n2 ?_
  simp only [show ((2 : Nat) : Int) = 2 from rfl] at *
  generalize rdN 2 i.2.1 i.2.2 = kd at *
  obtain ⟨n3, w3, B3, L3, _⟩ := num 3 kd.2.1 kd.2.2 B2 L2 (by omega)
  refine Ev.bind n3 ?_
  simp only [show ((3 : Nat) : Int) = 3 from rfl] at *
  generalize rdN 3 kd.2.1 kd.2.2 = p at *
  obtain ⟨n4, w4, B4, L4, _⟩ := num 1000000000000 p.2.1 p.2.2 B3 L3 (by omega)
  refine Ev.bind n4 ?_
  simp only [show ((1000000000000 : Nat) : Int) = 1000000000000 from rfl] at *
  generalize rdN 1000000000000 p.2.1 p.2.2 = w at *
  obtain ⟨n5, w5, B5, L5, _⟩ := num 1099511627776 w.2.1 w.2.2 B4 L4 (by omega)
  refine Ev.bind n5 ?_
  simp only [show ((1099511627776 : Nat) : Int) = 1099511627776 from rfl] at *
  generalize rdN 1099511627776 w.2.1 w.2.2 = o at *
  have text : ∀ (q : List Int) (f : Bool), Byt q → q.length ≤ 140737488355328 → Ev (fun k => packet_Reader_Text.f k q f 32) (rdT 32 q f) ∧ Byt (rdT 32 q f).2.1 ∧ (rdT 32 q f).2.1.length ≤ 140737488355328 ∧ (rdT 32 q f).1.size ≤ 32 := by
    intro q f h1 h2
    exact ⟨rT_eq q f h2 h1 32 (by omega), rdT_byt _ _ _ h1, Nat.le_trans (rdT_len _ _ _) h2, rdT_size 32 _ _ h1⟩
  obtain ⟨t1, C1, M1, s1⟩ := text o.2.1 o.2.2 B5 L5
  refine Ev.bind t1 ?_
  generalize rdT 32 o.2.1 o.2.2 = c at *
  obtain ⟨t2, C2, M2, s2⟩ := text c.2.1 c.2.2 C1 M1
  refine Ev.bind t2 ?_
  generalize rdT 32 c.2.1 c.2.2 = z at *
  obtain ⟨t3, C3, M3, s3⟩ := text z.2.1 z.2.2 C2 M2
  refine Ev.bind t3 ?_
  generalize rdT 32 z.2.1 z.2.2 = s at *
  obtain ⟨n6, w6, B6, L6, r6, r7⟩ := num 64 s.2.1 s.2.2 C3 M3 (by omega)
  refine Ev.bind n6 ?_
  simp only [show ((64 : Nat) : Int) = 64 from rfl] at *
  generalize rdN 64 s.2.1 s.2.2 = m at *
  rw [w1, w2, w3, w4, w5]
  have k := takeB_l i.1 w.1 o.1 kd.1 p.1 c.1 z.1 s.1 s1 s2 s3 m.1.toNat (by omega) m.1.toNat 0 [] m.2.1 m.2.2 (by omega) rfl B6 L6 (by simp)
  rw [show ((m.1.toNat : Nat) : Int) = m.1 from by omega] at k
  exact k
theorem takeB_put {id wt born kind ph : Int} {c z s : ByteArray} {l : List ByteArray} (h : okB id wt born kind ph c z s l = true) (q : List Int) :
    takeB (putB id wt born kind ph c z s l ++ q) false = (id, wt, born, kind, ph, c, z, s, l, true, q, false) := by
  obtain ⟨h1, h2, h3, h4, h5, h6, h7, h8, h9, h10⟩ := okB_ok h
  unfold takeB putB
  simp only [List.append_assoc]
  rw [show (32 : Int) = ((32 : Nat) : Int) from rfl, show (64 : Int) = ((64 : Nat) : Int) from rfl, show (1099511627776 : Int) = ((1099511627776 : Nat) : Int) from rfl, show (1000000000000 : Int) = ((1000000000000 : Nat) : Int) from rfl]
  rw [rdN_put 1000000000000 id.toNat _ (by omega)]
  simp only
  rw [show ∀ r, rdN 2 (enc kind.toNat ++ r) false = (((kind.toNat : Nat) : Int), r, false) from fun r => rdN_put 2 kind.toNat r (by omega)]
  simp only
  rw [show ∀ r, rdN 3 (enc ph.toNat ++ r) false = (((ph.toNat : Nat) : Int), r, false) from fun r => rdN_put 3 ph.toNat r (by omega)]
  simp only
  rw [rdN_put 1000000000000 wt.toNat _ (by omega)]
  simp only
  rw [rdN_put 1099511627776 born.toNat _ (by omega)]
  simp only
  rw [rdT_put 32 c _ h6]
  simp only
  rw [rdT_put 32 z _ h7]
  simp only
  rw [rdT_put 32 s _ h8]
  simp only
  rw [rdN_put 64 l.length _ h9]
  simp only
  rw [Int.toNat_natCast, rdTs_put _ l h10]
  rw [show ((id.toNat : Nat) : Int) = id from by omega, show ((kind.toNat : Nat) : Int) = kind from by omega, show ((ph.toNat : Nat) : Int) = ph from by omega, show ((wt.toNat : Nat) : Int) = wt from by omega, show ((born.toNat : Nat) : Int) = born from by omega]
  unfold endB
  rw [if_neg (by simp), if_pos h]
theorem takeB_got (q : List Int) (hb : Byt q) : (∃ r bad, takeB q false = badB r bad) ∨ ∃ id wt born kind ph c z s l u, okB id wt born kind ph c z s l = true ∧ takeB q false = (id, wt, born, kind, ph, c, z, s, l, true, u, false) ∧ q = putB id wt born kind ph c z s l ++ u := by
  unfold takeB
  simp only
  have B1 := rdN_byt 1000000000000 q false hb
  have G1 := rdN_got 1000000000000 q false hb
  simp only [show ((1000000000000 : Nat) : Int) = 1000000000000 from rfl] at *
  generalize rdN 1000000000000 q false = i at *
  have B2 := rdN_byt 2 _ i.2.2 B1
  have G2 := rdN_got 2 _ i.2.2 B1
  simp only [show ((2 : Nat) : Int) = 2 from rfl] at *
  generalize rdN 2 i.2.1 i.2.2 = k at *
  have B3 := rdN_byt 3 _ k.2.2 B2
  have G3 := rdN_got 3 _ k.2.2 B2
  simp only [show ((3 : Nat) : Int) = 3 from rfl] at *
  generalize rdN 3 k.2.1 k.2.2 = p at *
  have B4 := rdN_byt 1000000000000 _ p.2.2 B3
  have G4 := rdN_got 1000000000000 _ p.2.2 B3
  simp only [show ((1000000000000 : Nat) : Int) = 1000000000000 from rfl] at *
  generalize rdN 1000000000000 p.2.1 p.2.2 = w at *
  have B5 := rdN_byt 1099511627776 _ w.2.2 B4
  have G5 := rdN_got 1099511627776 _ w.2.2 B4
  simp only [show ((1099511627776 : Nat) : Int) = 1099511627776 from rfl] at *
  generalize rdN 1099511627776 w.2.1 w.2.2 = o at *
  have B6 : Byt (rdT 32 o.2.1 o.2.2).2.1 := rdT_byt 32 _ o.2.2 B5
  have G6 : (rdT 32 o.2.1 o.2.2).2.2 = false → o.2.2 = false ∧ _ ∧ o.2.1 = encT (rdT 32 o.2.1 o.2.2).1 ++ (rdT 32 o.2.1 o.2.2).2.1 := rdT_got 32 _ o.2.2 B5
  generalize rdT 32 o.2.1 o.2.2 = c at *
  have B7 : Byt (rdT 32 c.2.1 c.2.2).2.1 := rdT_byt 32 _ c.2.2 B6
  have G7 : (rdT 32 c.2.1 c.2.2).2.2 = false → c.2.2 = false ∧ _ ∧ c.2.1 = encT (rdT 32 c.2.1 c.2.2).1 ++ (rdT 32 c.2.1 c.2.2).2.1 := rdT_got 32 _ c.2.2 B6
  generalize rdT 32 c.2.1 c.2.2 = z at *
  have B8 : Byt (rdT 32 z.2.1 z.2.2).2.1 := rdT_byt 32 _ z.2.2 B7
  have G8 : (rdT 32 z.2.1 z.2.2).2.2 = false → z.2.2 = false ∧ _ ∧ z.2.1 = encT (rdT 32 z.2.1 z.2.2).1 ++ (rdT 32 z.2.1 z.2.2).2.1 := rdT_got 32 _ z.2.2 B7
  generalize rdT 32 z.2.1 z.2.2 = s at *
  have B9 := rdN_byt 64 _ s.2.2 B8
  have G9 := rdN_got 64 _ s.2.2 B8
  simp only [show ((64 : Nat) : Int) = 64 from rfl] at *
  generalize rdN 64 s.2.1 s.2.2 = m at *
  have G10 := rdTs_got m.1.toNat m.2.1 m.2.2 B9
  have M10 := rdTs_many m.1.toNat m.2.1 m.2.2
  generalize rdTs m.1.toNat m.2.1 m.2.2 = v at *
  unfold endB
  by_cases cb : v.2.2 = true
  · rw [if_pos cb]; exact .inl ⟨_, _, rfl⟩
  rw [if_neg cb]
  by_cases co : okB i.1 w.1 o.1 k.1 p.1 c.1 z.1 s.1 v.1 = true
  · rw [if_pos co]
    have cb : v.2.2 = false := by simpa using cb
    obtain ⟨f10, w10⟩ := G10 cb
    obtain ⟨f9, q9, _, v9, w9⟩ := G9 f10
    obtain ⟨f8, _, w8⟩ := G8 f9
    obtain ⟨f7, _, w7⟩ := G7 f8
    obtain ⟨f6, _, w6⟩ := G6 f7
    obtain ⟨f5, q5, _, v5, w5⟩ := G5 f6
    obtain ⟨f4, q4, _, v4, w4⟩ := G4 f5
    obtain ⟨f3, q3, _, v3, w3⟩ := G3 f4
    obtain ⟨f2, q2, _, v2, w2⟩ := G2 f3
    obtain ⟨_, q1, _, v1, w1⟩ := G1 f2
    refine .inr ⟨i.1, w.1, o.1, k.1, p.1, c.1, z.1, s.1, v.1, v.2.1, co, by rw [cb], ?_⟩
    unfold putB
    simp only [List.append_assoc]
    rw [M10, v1, v2, v3, v4, v5, v9, Int.toNat_natCast, Int.toNat_natCast, Int.toNat_natCast, Int.toNat_natCast, Int.toNat_natCast, Int.toNat_natCast, ← w10, ← w9, ← w8, ← w7, ← w6, ← w5, ← w4, ← w3, ← w2]
    exact w1
  · rw [if_neg co]; exact .inl ⟨_, _, rfl⟩
end Go.Proofs.YtapfpdjcbeiibaaDoor.Pure
