
import Derived.Test.YtapfpdjcbeiibaaDoorQBatchBytesYBatGo
import Derived.Test.YtapfpdjcbeiibaaDoorQBatchBytesYCodRef
import Derived.Test.YtapfpdjcbeiibaaDoorQBatchBytesYLib0
set_option linter.unusedVariables false
namespace Go.Proofs.YtapfpdjcbeiibaaDoor.Pure
open Go.RowKit Go.Proofs.YtapfpdjcbeiibaaDoor Go.Proofs.YtapfpdjcbeiibaaDoor.PByt Go.Proofs.YtapfpdjcbeiibaaDoorW.PrintWords Go.Proofs.YtapfpdjcbeiibaaDoorW.PrintLast Go.Proofs.YtapfpdjcbeiibaaDoorW.PrintMore
theorem alive : Ev (fun k => packhorselaw11_batchAlive.f k) true := Ev.of (packhorselaw11_batchAlive.mono ·) (k := 40) (by decide +kernel)
def flipB (t : ResB) : ResB := (t.1, t.2.1, t.2.2.1, t.2.2.2.1, t.2.2.2.2.1, t.2.2.2.2.2.1, t.2.2.2.2.2.2.1, t.2.2.2.2.2.2.2.1, t.2.2.2.2.2.2.2.2.1, t.2.2.2.2.2.2.2.2.2.1, t.2.2.2.2.2.2.2.2.2.2.1, !t.2.2.2.2.2.2.2.2.2.2.2)
theorem rtake_l (id wt born kind ph : Int) (c z s : ByteArray) (hc : c.size ≤ 32) (hz : z.size ≤ 32) (hs : s.size ≤ 32) (n : Nat) (hn : n ≤ 64) (d : Nat) : ∀ (i : Nat) (l : List ByteArray) (b : List Int) (bad : Bool), i + d = n → l.length = i → Byt b → b.length ≤ 140737488355328 → (∀ x ∈ l, x.size ≤ 32) →
    Ev (fun k => packhorseref11_Take.l0 k (n : Int) (i : Int) b (!bad) id wt born kind ph c z s l) (flipB (endB id wt born kind ph c z s (l ++ (rdTs d b bad).1, (rdTs d b bad).2.1, (rdTs d b bad).2.2))) := by
  induction d with
  | zero =>
    intro i l b bad h1 h2 hb hl hm
    refine Ev.step (fun k => by rw [packhorseref11_Take.l0, if_neg (by omega)]) ?_
    unfold rdTs endB
    rw [List.append_nil]
    cases bad
    · refine Ev.ifp rfl ?_
      refine Ev.bind (right_R id wt born kind ph c z s l (by omega) (by omega) (by omega) (by omega) (fun x hx => by have := hm x hx; omega)) ?_
      cases okB id wt born kind ph c z s l
      · exact Ev.ifn (by decide) (Ev.now _)
      · exact Ev.ifp rfl (Ev.now _)
    · exact Ev.ifn (by decide) (Ev.now _)
  | succ d ih =>
    intro i l b bad h1 h2 hb hl hm
    have z1 : (rdT 32 b bad).1.size ≤ 32 := rdT_size 32 _ _ hb
    have b1 : Byt (rdT 32 b bad).2.1 := rdT_byt 32 b bad hb
    have l1 : (rdT 32 b bad).2.1.length ≤ b.length := rdT_len 32 b bad
    refine Ev.step (fun k => by rw [packhorseref11_Take.l0, if_pos (by omega)]) ?_
    refine Ev.bind (sT_eq b bad hl hb 32 (by omega)) (Ev.ifp (by omega) ?_)
    rw [w64 (x := (i : Int) + 1) (by omega) (by omega)]
    have k := ih (i + 1) (l ++ [(rdT 32 b bad).1]) (rdT 32 b bad).2.1 (rdT 32 b bad).2.2 (by omega) (by simp [h2]) b1 (by omega) (by
      intro x hx
      rcases List.mem_append.1 hx with e | e
      · exact hm x e
      · rw [List.mem_singleton.1 e]; exact z1)
    rw [List.append_assoc] at k
    exact k
theorem rtake_B (b : List Int) (bad : Bool) (hb : Byt b) (hl : b.length ≤ 140737488355328) : Ev (fun k => packhorseref11_Take.f k b (!bad)) (flipB (takeB b bad)) := by
  unfold packhorseref11_Take.f takeB
  have num : ∀ (most : Nat) (q : List Int) (f : Bool), Byt q → q.length ≤ 140737488355328 → most ≤ 1099511627776 → Ev (fun k => packhorseref10_Scan_Number.f k q (!f) (most : Int)) ((rdN most q f).1, (rdN most q f).2.1, !(rdN most q f).2.2) ∧ Byt (rdN most q f).2.1 ∧ (rdN most q f).2.1.length ≤ 140737488355328 ∧ 0 ≤ (rdN most q f).1 ∧ (rdN most q f).1 ≤ most := by
    intro most q f h1 h2 h3
    have := rdN_range most q f h1
    exact ⟨sN_eq q f h2 h1 most (by omega), rdN_byt _ _ _ h1, Nat.le_trans (rdN_len _ _ _) h2, this⟩
  obtain ⟨n1, B1, L1, _⟩ := num 1000000000000 b bad hb hl (by omega)
  refine Ev.bind n1 ?_
  simp only [show ((1000000000000 : Nat) : Int) = 1000000000000 from rfl] at *
  generalize rdN 1000000000000 b bad = i at *
  obtain ⟨n2, B2, L2, _⟩ := num 2 i.2.1 i.2.2 B1 L1 (by omega)
  refine Ev.bind n2 ?_
  simp only [show ((2 : Nat) : Int) = 2 from rfl] at *
  generalize rdN 2 i.2.1 i.2.2 = kd at *
  obtain ⟨n3, B3, L3, _⟩ := num 3 kd.2.1 kd.2.2 B2 L2 (by omega)
  refine Ev.bind n3 ?_
  simp only [show ((3 : Nat) : Int) = 3 from rfl] at *
  generalize rdN 3 kd.2.1 kd.2.2 = p at *
  obtain ⟨n4, B4, L4, _⟩ := num 1000000000000 p.2.1 p.2.2 B3 L3 (by omega)
  refine Ev.bind n4 ?_
  simp only [show ((1000000000000 : Nat) : Int) = 1000000000000 from rfl] at *
  generalize rdN 1000000000000 p.2.1 p.2.2 = w at *
  obtain ⟨n5, B5, L5, _⟩ := num 1099511627776 w.2.1 w.2.2 B4 L4 (by omega)
  refine Ev.bind n5 ?_
  simp only [show ((1099511627776 : Nat) : Int) = 1099511627776 from rfl] at *
  generalize rdN 1099511627776 w.2.1 w.2.2 = o at *
  have text : ∀ (q : List Int) (f : Bool), Byt q → q.length ≤ 140737488355328 → Ev (fun k => packhorseref10_Scan_Text.f k q (!f) 32) ((rdT 32 q f).1, (rdT 32 q f).2.1, !(rdT 32 q f).2.2) ∧ Byt (rdT 32 q f).2.1 ∧ (rdT 32 q f).2.1.length ≤ 140737488355328 ∧ (rdT 32 q f).1.size ≤ 32 := by
    intro q f h1 h2
    exact ⟨sT_eq q f h2 h1 32 (by omega), rdT_byt _ _ _ h1, Nat.le_trans (rdT_len _ _ _) h2, rdT_size 32 _ _ h1⟩
  obtain ⟨t1, C1, M1, s1⟩ := text o.2.1 o.2.2 B5 L5
  refine Ev.bind t1 ?_
  generalize rdT 32 o.2.1 o.2.2 = c at *
  obtain ⟨t2, C2, M2, s2⟩ := text c.2.1 c.2.2 C1 M1
  refine Ev.bind t2 ?_
  generalize rdT 32 c.2.1 c.2.2 = z at *
  obtain ⟨t3, C3, M3, s3⟩ := text z.2.1 z.2.2 C2 M2
  refine Ev.bind t3 ?_
  generalize rdT 32 z.2.1 z.2.2 = s at *
  obtain ⟨n6, B6, L6, r6, r7⟩ := num 64 s.2.1 s.2.2 C3 M3 (by omega)
  refine Ev.bind n6 ?_
  simp only [show ((64 : Nat) : Int) = 64 from rfl] at *
  generalize rdN 64 s.2.1 s.2.2 = m at *
  have k := rtake_l i.1 w.1 o.1 kd.1 p.1 c.1 z.1 s.1 s1 s2 s3 m.1.toNat (by omega) m.1.toNat 0 [] m.2.1 m.2.2 (by omega) rfl B6 L6 (by simp)
  rw [show ((m.1.toNat : Nat) : Int) = m.1 from by omega] at k
  exact k
section
variable (id wt born kind ph : Int) (c z s : ByteArray) (l : List ByteArray)
theorem rb_l2 (hl : ∀ x ∈ l, x.size ≤ 32) (hn : l.length ≤ 64) (d : Nat) : ∀ (i : Nat) (o : List Int), i + d = l.length → o.length ≤ 10000 + 40 * i → Ev (fun k => packhorseref11_Bytes.l2 k o l (l.length : Int) (i : Int)) (o ++ (l.drop i).flatMap encT) := by
  induction d with
  | zero =>
    intro i o h1 h2
    rw [List.drop_of_length_le (by omega)]
    refine Ev.step (f := fun _ => some (o ++ ([] : List ByteArray).flatMap encT)) (fun k => ?_) (Ev.now _)
    rw [packhorseref11_Bytes.l2, if_neg (by omega)]; simp
  | succ d ih =>
    intro i o h1 h2
    have hlt : i < l.length := by omega
    have hv := hl _ (List.getElem_mem hlt)
    have hL := encT_len hv
    refine Ev.step (fun k => by rw [packhorseref11_Bytes.l2, if_pos (by omega), if_pos (by omega), if_pos (by omega), rd_s l i hlt]) ?_
    refine Ev.bind (refT _ hv) (Ev.ifp (by omega) ?_)
    have k := ih (i + 1) (o ++ encT l[i]) (by omega) (by rw [List.length_append]; omega)
    rw [w64 (x := (i : Int) + 1) (by omega) (by omega), List.drop_eq_getElem_cons hlt, List.flatMap_cons]
    rw [List.append_assoc] at k
    exact k
theorem rb_l1 (hl : ∀ x ∈ l, x.size ≤ 32) (hn : l.length ≤ 64) (ss : List ByteArray) (hS : ∀ x ∈ ss, x.size ≤ 32) (hN : ss.length ≤ 3) (d : Nat) : ∀ (i : Nat) (o : List Int), i + d = ss.length → o.length ≤ 5000 + 40 * i → Ev (fun k => packhorseref11_Bytes.l1 k o ss (ss.length : Int) (i : Int) id wt born kind ph c z s l) (o ++ ((ss.drop i).flatMap encT ++ (enc l.length ++ l.flatMap encT))) := by
  induction d with
  | zero =>
    intro i o h1 h2
    rw [List.drop_of_length_le (by omega)]
    have a := enc_len10 (n := l.length) (by omega)
    refine Ev.step (fun k => by rw [packhorseref11_Bytes.l1, if_neg (by omega)]) ?_
    refine Ev.bind (refN _ l.length rfl (by omega)) (Ev.ifp (by omega) ?_)
    have k := rb_l2 l hl hn l.length 0 (o ++ enc l.length) (by omega) (by rw [List.length_append]; omega)
    rw [List.drop_zero, List.append_assoc] at k
    rw [List.flatMap_nil, List.nil_append]
    exact k
  | succ d ih =>
    intro i o h1 h2
    have hlt : i < ss.length := by omega
    have hv := hS _ (List.getElem_mem hlt)
    have hL := encT_len hv
    refine Ev.step (fun k => by rw [packhorseref11_Bytes.l1, if_pos (by omega), if_pos (by omega), if_pos (by omega), rd_s ss i hlt]) ?_
    refine Ev.bind (refT _ hv) (Ev.ifp (by omega) ?_)
    have k := ih (i + 1) (o ++ encT ss[i]) (by omega) (by rw [List.length_append]; omega)
    rw [w64 (x := (i : Int) + 1) (by omega) (by omega), List.drop_eq_getElem_cons hlt, List.flatMap_cons, List.append_assoc]
    rw [List.append_assoc] at k
    exact k
theorem rb_l0 (hl : ∀ x ∈ l, x.size ≤ 32) (hn : l.length ≤ 64) (hc : c.size ≤ 32) (hz : z.size ≤ 32) (hs : s.size ≤ 32) (ns : List Nat) (hm : ∀ n ∈ ns, n < 18446744073709551616) (hN : ns.length ≤ 10) (d : Nat) : ∀ (i : Nat) (o : List Int), i + d = ns.length → o.length ≤ 1000 + 10 * i → Ev (fun k => packhorseref11_Bytes.l0 k o (ns.map fun n : Nat => (n : Int)) (ns.length : Int) (i : Int) id wt born kind ph c z s l) (o ++ ((ns.drop i).flatMap enc ++ (encT c ++ (encT z ++ (encT s ++ (enc l.length ++ l.flatMap encT)))))) := by
  induction d with
  | zero =>
    intro i o h1 h2
    rw [List.drop_of_length_le (by omega)]
    have k := rb_l1 id wt born kind ph c z s l hl hn [c, z, s] (by intro q hq; simp at hq; rcases hq with e | e | e <;> rw [e] <;> assumption) (by simp) 3 0 o rfl (by omega)
    refine Ev.step (f := fun k => packhorseref11_Bytes.l1 k o ([c, z, s] : List ByteArray) (3 : Int) 0 id wt born kind ph c z s l) (fun k => by rw [packhorseref11_Bytes.l0, if_neg (by omega)]; rfl) ?_
    simp only [List.drop_zero, List.flatMap_cons, List.flatMap_nil, List.append_nil, List.append_assoc] at k
    simp only [List.flatMap_nil, List.nil_append]
    exact k
  | succ d ih =>
    intro i o h1 h2
    have hlt : i < ns.length := by omega
    have hv := hm _ (List.getElem_mem hlt)
    have hL := enc_len10 (n := ns[i]) (by omega)
    have e : rd (ns.map fun n : Nat => (n : Int)) (i : Int) = ((ns[i] : Nat) : Int) := by rw [rd_i _ i (by rw [List.length_map]; omega), List.getElem_map]
    refine Ev.step (fun k => by rw [packhorseref11_Bytes.l0, if_pos (by omega), if_pos (by omega), if_pos (by rw [List.length_map]; omega), e]) ?_
    refine Ev.bind (refN _ ns[i] rfl hv) (Ev.ifp (by omega) ?_)
    have k := ih (i + 1) (o ++ enc ns[i]) (by omega) (by rw [List.length_append]; omega)
    rw [w64 (x := (i : Int) + 1) (by omega) (by omega), List.drop_eq_getElem_cons hlt, List.flatMap_cons, List.append_assoc]
    rw [List.append_assoc] at k
    exact k
theorem rbytes (h : okB id wt born kind ph c z s l = true) : Ev (fun k => packhorseref11_Bytes.f k id wt born kind ph c z s l) (putB id wt born kind ph c z s l) := by
  obtain ⟨h1, h2, h3, h4, h5, h6, h7, h8, h9, h10⟩ := okB_ok h
  have k := rb_l0 id wt born kind ph c z s l h10 h9 h6 h7 h8 [id.toNat, kind.toNat, ph.toNat, wt.toNat, born.toNat] (by intro q hq; simp at hq; rcases hq with e | e | e | e | e <;> omega) (by simp) 5 0 [] rfl (by simp)
  have e : ([id.toNat, kind.toNat, ph.toNat, wt.toNat, born.toNat] : List Nat).map (fun n : Nat => (n : Int)) = [id, kind, ph, wt, born] := by
    simp only [List.map_cons, List.map_nil]
    rw [show ((id.toNat : Nat) : Int) = id from by omega, show ((kind.toNat : Nat) : Int) = kind from by omega, show ((ph.toNat : Nat) : Int) = ph from by omega, show ((wt.toNat : Nat) : Int) = wt from by omega, show ((born.toNat : Nat) : Int) = born from by omega]
  rw [e] at k
  unfold packhorseref11_Bytes.f
  refine Ev.bindc rfl ?_
  simp only [List.drop_zero, List.flatMap_cons, List.flatMap_nil, List.append_nil, List.nil_append, List.append_assoc] at k
  exact k
end
theorem same_ref (x0 x1 x2 x3 x4 : Int) (x5 x6 x7 : ByteArray) (l : List ByteArray) (hb : l.length ≤ 9223372036854775806) : Ev (fun k => packhorseref11_Same.f k x0 x1 x2 x3 x4 x5 x6 x7 l x0 x1 x2 x3 x4 x5 x6 x7 l) true := by
  unfold packhorseref11_Same.f
  refine Ev.ifp rfl (Ev.ifp rfl (Ev.ifp rfl (Ev.ifp rfl (Ev.ifp rfl (Ev.ifp ?_ (Ev.bind (same_eq l l hb) ?_))))))
  · rw [eqs, eqs, eqs]; simp
  · rw [decide_eq_true rfl]; exact Ev.now _
theorem nine (l : List Int) : strOfNums ([9] ++ l) = (⟨#[9]⟩ : ByteArray) ++ strOfNums l := by
  have h : (strOfNums ([9] ++ l)).data.toList = ((⟨#[9]⟩ : ByteArray) ++ strOfNums l).data.toList := by
    rw [ByteArray.data_append, Array.toList_append, strOfNums_data, strOfNums_data]
    rfl
  exact ByteArray.ext (Array.toList_inj.1 h)
theorem BatchBytes : packhorselaw11_BatchBytes.PureQ := by
  intro x0 x1 x2 x3 x4 x5 x6 x7 l q _ _ _ _ _ h5 h6 h7 hl hq
  have Bq : Byt q := fun x hx => by
    have := hq.2 x hx
    simp only [Lit.wf, Bool.and_eq_true, decide_eq_true_eq] at this
    have h1 : IntKind.u8.min = 0 := by decide
    have h2 : IntKind.u8.max = 255 := by decide
    omega
  refine Ev.rounds (g := fun k => packhorselaw11_BatchBytes.f k x0 x1 x2 x3 x4 x5 x6 x7 l q) ?_
  unfold packhorselaw11_BatchBytes.f
  refine Ev.bind alive (Ev.ifp rfl ?_)
  by_cases cq : (q.length : Int) > 2000
  · exact Ev.ifp cq (Ev.now _)
  refine Ev.ifn cq (Ev.bindc (new_R q (by omega)) ?_)
  refine Ev.bind (take_B q false Bq (by omega)) (Ev.bind (rtake_B q false Bq (by omega)) ?_)
  have rest : Ev (fun k => packhorselaw11_BatchBytes.j0 k (!true) x0 x1 x2 x3 x4 x5 x6 x7 l) true := by
    refine Ev.step (fun k => by rw [packhorselaw11_BatchBytes.j0, if_neg (by decide)]) ?_
    refine Ev.bind (right_R x0 x1 x2 x3 x4 x5 x6 x7 l h5 h6 h7 (by omega) hl.2) ?_
    by_cases ca : okB x0 x1 x2 x3 x4 x5 x6 x7 l = true
    rotate_left
    · exact Ev.ifn ca (Ev.now _)
    refine Ev.ifp ca (Ev.bind (put_Bo [9] (by simp) ca) (Ev.bind (rbytes x0 x1 x2 x3 x4 x5 x6 x7 l ca) ?_))
    have Lx := putB_len ca
    have Bx := putB_byt x0 x1 x2 x3 x4 x5 x6 x7 l
    have T := takeB_put ca []
    rw [List.append_nil] at T
    generalize putB x0 x1 x2 x3 x4 x5 x6 x7 l = X at *
    refine Ev.ifp (by rw [strOfNums_size]; omega) (Ev.ifp (by rw [nine]) (Ev.ifp (by simp; omega) ?_))
    rw [show (([9] : List Int) ++ X).drop 1 = X from rfl]
    refine Ev.bindc (new_R X (by omega)) (Ev.bind (take_B X false Bx (by omega)) ?_)
    rw [T]
    refine Ev.ifp rfl ?_
    refine Ev.bindc (a := (true, [], false)) (by unfold packet_Reader_Done.f; rfl) (Ev.ifp rfl ?_)
    exact Ev.bind (same_ref x0 x1 x2 x3 x4 x5 x6 x7 l (by omega)) (Ev.now _)
  rcases takeB_got q Bq with ⟨r, bad, e⟩ | ⟨id, wt, born, kind, ph, c, z, s, m, u, ok, e, _⟩
  · rw [e]
    refine Ev.ifn (by simp [badB, flipB]) ?_
    exact Ev.bind (same_ref 0 0 0 0 0 ⟨#[]⟩ ⟨#[]⟩ ⟨#[]⟩ [] (by simp)) rest
  · rw [e]
    obtain ⟨_, _, _, _, _, _, _, _, h9, _⟩ := okB_ok ok
    refine Ev.ifn (by simp [flipB]) ?_
    exact Ev.bind (same_ref id wt born kind ph c z s m (by omega)) rest
end Go.Proofs.YtapfpdjcbeiibaaDoor.Pure
