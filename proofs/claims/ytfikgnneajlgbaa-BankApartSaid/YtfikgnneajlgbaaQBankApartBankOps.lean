
import Derived.Test.YtfikgnneajlgbaaQBankApartBankAns
set_option linter.unusedVariables false
set_option linter.unusedSimpArgs false
namespace Go.Proofs.Ytfikgnneajlgbaa.PAll
open Go Go.Proofs Go.RowKit Go.Proofs.YtfikgnneajlgbaaW.PrintWords Go.Proofs.YtfikgnneajlgbaaW.PrintLast Go.Proofs.YtfikgnneajlgbaaW.PrintMore Go.Maps
def BankS (W : World) (B g n : Nat) (st : Bk) : Prop := ∃ m1 m2 vb fA fN, BankV W B g m1 m2 n vb fA fN st
theorem BankS.keep {W W1 : World} {B g n : Nat} {st : Bk} (h : BankS W B g n st) (hk : KeepO bankObj W W1) : BankS W1 B g n st := by
  obtain ⟨m1, m2, vb, fA, fN, h⟩ := h
  exact ⟨m1, m2, vb, fA, fN, h.keep hk⟩
theorem BankS.below {W W1 : World} {B g n : Nat} {st : Bk} (h : BankS W B g n st) (hb : Below W.heap.size W W1) : BankS W1 B g n st := h.keep (KeepO.of_below _ hb)
theorem blk_new' {W : World} {g : Nat} {o : Obj} (h : g = W.heap.size) : (W.alloc o).heap[g]? = some o := h ▸ blk_new W _
def bk0 : Bk := ⟨fun _ => acc0, fun _ => none, []⟩
section
variable {w : World} {B g n : Nat} {st : Bk}
set_option maxHeartbeats 4000000 in
set_option maxRecDepth 100000 in
theorem new_calls (w : World) : Calls Try.prog 7 #[] w fun e w' => ∃ g, e = .returned (ptr g) ∧ BankS w' w.heap.size g 0 bk0 ∧ Below w.heap.size w w' := by
  have hu60 := Try.underlying60
  have hmm := @run_makeMap Try.prog
  go_enter Try.func7, Try.ntmps7
  go_wp2
  go_ret
  refine ⟨_, rfl, ⟨w.heap.size, w.heap.size + 1, .slice none 0 0, fun _ => none, fun _ => none, ?_⟩, ?_⟩
  · have hw2 : ∀ o : Obj, (((w.alloc (.map #[] 0)).alloc (.map #[] 0)).alloc o).heap.size = w.heap.size + 3 := fun o => by simp
    refine ⟨blk_new' (by simp), by omega, Nat.le_refl _, by omega, by omega, ((MapV.made w 9 encS).alloc _).alloc _, ?_, Kd.R_nil _ _ _ _ _, fun id => ⟨fun _ => rfl, fun v hv => (by cases hv)⟩, fun _ _ _ h _ => (by cases h), fun k => ⟨fun _ => rfl, fun v hv => (by cases hv)⟩⟩
    have h := (MapV.made (w.alloc (.map #[] 0)) 2 encI).alloc (.cells #[.map (some w.heap.size), .map (some (w.heap.size + 1)), .slice none 0 0] 60 (0, 0))
    simpa using h
  · exact below_alloc (below_alloc (below_alloc (Below.refl _ _) _) _) _
set_option maxHeartbeats 4000000 in
set_option maxRecDepth 100000 in
theorem capture_calls (key : Int) (id : ByteArray) (hS : BankS w B g n st) (hn : n ≤ 1000000) (hk : (Lit.int .i64 key).wf = true) (hs : id.size ≤ maxLen) (hl : st.bad.length ≤ 1000000000) :
    Calls Try.prog 9 #[ptr g, .int .i64 key, .string id] w fun e w' => e = .returned (.bool (st.answer key 5 id askC).1) ∧ BankS w' B g (n + 2) (st.answer key 5 id askC).2 ∧ KeepO refObj w w' ∧ Below B w w' := by
  obtain ⟨m1, m2, vb, fA, fN, hV⟩ := hS
  have HV := Aside0.mk hV
  have HN := Aside0.mk hn
  have HK := Aside0.mk hk
  have HS := Aside0.mk hs
  have HL := Aside0.mk hl
  clear hV hn hk hs hl
  go_enter Try.func9, Try.ntmps9
  go_wp2_with (go_at_call 19; refine (answerC_calls key id HV.out HN.out HK.out HS.out HL.out).mono ?_; rintro e w1 ⟨fA2, fN2, rfl, h1, h2, h3⟩; have H1 := Aside0.mk h1; have H2 := Aside0.mk h2; have H3 := Aside0.mk h3; clear h1 h2 h3)
  go_ret
  exact ⟨rfl, ⟨m1, m2, vb, fA2, fN2, H1.out⟩, H2.out, H3.out⟩
set_option maxHeartbeats 4000000 in
set_option maxRecDepth 100000 in
theorem void_calls (key : Int) (id : ByteArray) (hS : BankS w B g n st) (hn : n ≤ 1000000) (hk : (Lit.int .i64 key).wf = true) (hs : id.size ≤ maxLen) (hl : st.bad.length ≤ 1000000000) :
    Calls Try.prog 12 #[ptr g, .int .i64 key, .string id] w fun e w' => e = .returned (.bool (st.answer key 6 id askV).1) ∧ BankS w' B g (n + 2) (st.answer key 6 id askV).2 ∧ KeepO refObj w w' ∧ Below B w w' := by
  obtain ⟨m1, m2, vb, fA, fN, hV⟩ := hS
  have HV := Aside0.mk hV
  have HN := Aside0.mk hn
  have HK := Aside0.mk hk
  have HS := Aside0.mk hs
  have HL := Aside0.mk hl
  clear hV hn hk hs hl
  go_enter Try.func12, Try.ntmps12
  go_wp2_with (go_at_call 19; refine (answerV_calls key id HV.out HN.out HK.out HS.out HL.out).mono ?_; rintro e w1 ⟨fA2, fN2, rfl, h1, h2, h3⟩; have H1 := Aside0.mk h1; have H2 := Aside0.mk h2; have H3 := Aside0.mk h3; clear h1 h2 h3)
  go_ret
  exact ⟨rfl, ⟨m1, m2, vb, fA2, fN2, H1.out⟩, H2.out, H3.out⟩
set_option maxHeartbeats 4000000 in
set_option maxRecDepth 100000 in
theorem authorise_calls (key t : Int) (id : ByteArray) (hS : BankS w B g n st) (hn : n ≤ 1000000) (hk : (Lit.int .i64 key).wf = true) (hs : id.size ≤ maxLen) (hl : st.bad.length ≤ 1000000000) :
    Calls Try.prog 8 #[ptr g, .int .i64 key, .string id, .int .i64 t] w fun e w' => e = .returned (.bool (st.answer key 2 id (askA t)).1) ∧ BankS w' B g (n + 2) (st.answer key 2 id (askA t)).2 ∧ KeepO refObj w w' ∧ Below B w w' := by
  obtain ⟨m1, m2, vb, fA, fN, hV⟩ := hS
  have HV := Aside0.mk hV
  have HN := Aside0.mk hn
  have HK := Aside0.mk hk
  have HS := Aside0.mk hs
  have HL := Aside0.mk hl
  clear hV hn hk hs hl
  go_enter Try.func8, Try.ntmps8
  go_wp2_with (first
    | ((with_reducible refine gate_dst (N := 7) rfl ?_); refine box_event ?hg (N := 7) ?hd (cs := #[.int .i64 t]) (t := 2) ?hr ?_; (case hd => rfl); (case hg => rfl); (case hr => first | (go_simp; done) | (go_simp; rfl)); intro b7 hb1 w1 hbx hb; have HBX := Aside0.mk hbx; have HB1 := Aside0.mk hb; have HV1 := Aside0.mk (HV.out.below hb); clear hbx hb hb1)
    | (go_at_call 19; refine (answerA_calls key id t b7 HBX.out HV1.out HN.out HK.out HS.out HL.out).mono ?_; rintro e w2 ⟨fA2, fN2, rfl, h1, h2, h3⟩; have H1 := Aside0.mk h1; have H2 := Aside0.mk h2; have H3 := Aside0.mk h3; clear h1 h2 h3))
  go_ret
  exact ⟨rfl, ⟨m1, m2, vb, fA2, fN2, H1.out⟩, (KeepO.of_below _ HB1.out).trans H2.out, (HB1.out.mono HV.out.base).trans H3.out⟩
set_option maxHeartbeats 4000000 in
set_option maxRecDepth 100000 in
theorem net_calls (id : ByteArray) (hS : BankS w B g n st) (hn : n ≤ 1000000) (hs : id.size ≤ maxLen) :
    Calls Try.prog 13 #[ptr g, .string id] w fun e w' => e = .returned (.int .i64 (st.acc id).paid) ∧ BankS w' B g (n + 1) st ∧ KeepO refObj w w' ∧ Below B w w' := by
  have hu65 := Try.underlying65
  obtain ⟨m1, m2, vb, fA, fN, hV⟩ := hS
  have HV := Aside0.mk hV
  have HN := Aside0.mk hn
  have HS := Aside0.mk hs
  clear hV hn hs
  go_enter Try.func13, Try.ntmps13
  go_wp2_with (go_at_call 23; refine (of_calls id HV.out (Nat.le_succ_of_le HN.out) HS.out).mono ?_; rintro e w2 ⟨b, fA2, rfl, hfa, hV2, hk2, hb2, hsame⟩; obtain ⟨b', eb', hBb, hblk⟩ := (hV2.acc id).2 _ hfa; have eb2 := ptr_inj eb'; subst eb2; obtain ⟨hd0, hd1, hd2, hd3⟩ := cells65 hblk; have H1 := Aside0.mk hV2; have H2 := Aside0.mk hk2; have H3 := Aside0.mk hb2; clear hfa hV2 hk2 hb2 hsame eb' hBb hblk)
  go_ret
  exact ⟨rfl, ⟨m1, m2, vb, fA2, fN, H1.out⟩, H2.out, H3.out⟩
set_option maxHeartbeats 4000000 in
set_option maxRecDepth 100000 in
theorem captures_calls (id : ByteArray) (hS : BankS w B g n st) (hn : n ≤ 1000000) (hs : id.size ≤ maxLen) :
    Calls Try.prog 10 #[ptr g, .string id] w fun e w' => e = .returned (.int .i64 (st.acc id).times) ∧ BankS w' B g (n + 1) st ∧ KeepO refObj w w' ∧ Below B w w' := by
  have hu65 := Try.underlying65
  obtain ⟨m1, m2, vb, fA, fN, hV⟩ := hS
  have HV := Aside0.mk hV
  have HN := Aside0.mk hn
  have HS := Aside0.mk hs
  clear hV hn hs
  go_enter Try.func10, Try.ntmps10
  go_wp2_with (go_at_call 23; refine (of_calls id HV.out (Nat.le_succ_of_le HN.out) HS.out).mono ?_; rintro e w2 ⟨b, fA2, rfl, hfa, hV2, hk2, hb2, hsame⟩; obtain ⟨b', eb', hBb, hblk⟩ := (hV2.acc id).2 _ hfa; have eb2 := ptr_inj eb'; subst eb2; obtain ⟨hd0, hd1, hd2, hd3⟩ := cells65 hblk; have H1 := Aside0.mk hV2; have H2 := Aside0.mk hk2; have H3 := Aside0.mk hb2; clear hfa hV2 hk2 hb2 hsame eb' hBb hblk)
  go_ret
  exact ⟨rfl, ⟨m1, m2, vb, fA2, fN, H1.out⟩, H2.out, H3.out⟩
set_option maxHeartbeats 8000000 in
set_option maxRecDepth 100000 in
theorem held_calls (id : ByteArray) (hS : BankS w B g n st) (hn : n ≤ 1000000) (hs : id.size ≤ maxLen) :
    Calls Try.prog 11 #[ptr g, .string id] w fun e w' => e = .returned (.tuple #[.int .i64 (st.acc id).amount, .bool (st.acc id).held]) ∧ BankS w' B g (n + 2) st ∧ KeepO refObj w w' ∧ Below B w w' := by
  have hu65 := Try.underlying65
  obtain ⟨m1, m2, vb, fA, fN, hV⟩ := hS
  have HV := Aside0.mk hV
  have HVd := Aside0.mk (hV.below (below_drew (Below.refl w.heap.size w)))
  have HN := Aside0.mk hn
  have HS := Aside0.mk hs
  clear hV hn hs
  go_enter Try.func11, Try.ntmps11
  go_upto_region 1 with fail
  go_region_with (first
    | (go_at_call 23; refine (of_calls id HVd.out (Nat.le_succ_of_le HN.out) HS.out).mono ?_; rintro e w2 ⟨b, fA2, rfl, hfa, hV2, hk2, hb2, hsame⟩; obtain ⟨b', eb', hBb, hblk⟩ := (hV2.acc id).2 _ hfa; have eb2 := ptr_inj eb'; subst eb2; obtain ⟨hd0, hd1, hd2, hd3⟩ := cells65 hblk; have HFA := Aside0.mk hfa; have H1 := Aside0.mk hV2; have H2 := Aside0.mk hk2; have H3 := Aside0.mk hb2; clear hfa hV2 hk2 hb2 hsame eb' hBb hblk)
    | (go_at_call 23; refine (of_calls id H1.out (Nat.succ_le_succ HN.out) HS.out).mono ?_; rintro e w3 ⟨b3, fA3, rfl, hfa, hV3, hk3, hb3, hsame3⟩; have eb3 := ptr_inj (hsame3 _ HFA.out); subst eb3; obtain ⟨b', eb', hBb, hblk⟩ := (hV3.acc id).2 _ hfa; have eb2 := ptr_inj eb'; subst eb2; obtain ⟨he0, he1, he2, he3⟩ := cells65 hblk; have G1 := Aside0.mk hV3; have G2 := Aside0.mk hk3; have G3 := Aside0.mk hb3; clear hfa hV3 hk3 hb3 hsame3 eb' hBb hblk))
  all_goals go_wp2
  all_goals go_ret2
  all_goals exact ⟨rfl, ⟨m1, m2, vb, fA3, fN, G1.out⟩, ((KeepO.refl refObj w).drew.trans H2.out).trans G2.out, ((below_drew (Below.refl B w)).trans H3.out).trans G3.out⟩
def notBad : Obj → Prop
  | .cells _ t _ => t ≠ 76
  | _ => True
theorem BankV.spoil {W W1 : World} {m1 m2 : Nat} {vb v1 : Value} {fA : ByteArray → Option Value} {fN : Int → Option Value} {bad' : List S76} (h : BankV W B g m1 m2 n vb fA fN st) (hk : KeepO notBad W W1) (hR : k76.R 76 W1 B (fun _ => True) v1 bad') :
    BankV (W1.setCell ⟨g, 2, none⟩ v1) B g m1 m2 n v1 fA fN { st with bad := bad' } := by
  have hbox := hk.2 _ _ h.box (show (60 : Nat) ≠ 76 by decide)
  have hc : ∀ {k : Nat} {cs : Array Value} {t : TypeId}, t ≠ 76 → t ≠ 60 → W.heap[k]? = some (.cells cs t (0, 0)) → (W1.setCell ⟨g, 2, none⟩ v1).heap[k]? = some (.cells cs t (0, 0)) := fun h1 h2 hb => by
    have hb1 := hk.2 _ _ hb h1
    exact blk_far hb1 (blk_ne hb1 hbox h2) _
  refine ⟨blk_put hbox 2 v1 rfl, h.geg, h.ge1, h.ge2, h.ne, ?_, ?_, Kd.R_set hR hbox (by decide) 2 v1, fun id => ⟨(h.acc id).1, fun v hv => ?_⟩, h.inj, fun k => ⟨(h.ans k).1, fun v hv => ?_⟩⟩
  · obtain ⟨es, c, hb⟩ := h.mA.obj
    have hm := h.mA.move ((hk.2 _ _ hb trivial).trans hb.symm)
    exact hm.setCell (p := ⟨g, 2, none⟩) hbox v1
  · obtain ⟨es, c, hb⟩ := h.mN.obj
    have hm := h.mN.move ((hk.2 _ _ hb trivial).trans hb.symm)
    exact hm.setCell (p := ⟨g, 2, none⟩) hbox v1
  · obtain ⟨b, q1, q2, q3⟩ := (h.acc id).2 v hv
    exact ⟨b, q1, q2, hc (by decide) (by decide) q3⟩
  · obtain ⟨b, x, q1, q2, q3, q4⟩ := (h.ans k).2 v hv
    exact ⟨b, x, q1, q2, q3, hc (by decide) (by decide) q4⟩
theorem info76 : (Try.prog.info? 76).map (fun i => (i.zero, i.size, i.bytes)) = some (some (.agg #[.int .i64 0, .string ⟨#[]⟩]), 2, 24) := by kernel_rfl
set_option maxHeartbeats 8000000 in
set_option maxRecDepth 100000 in
theorem spoil_calls (kind : Int) (A : Option Addr) (c : Nat) (ids : List ByteArray) (hS : BankS w B g n st) (hC : ∀ W', KeepO refObj w W' → Kd.C Kd.string W' A ids.length ids) (hl : st.bad.length + ids.length ≤ 1000000000) :
    Calls Try.prog 16 #[ptr g, .int .i64 kind, .slice A ids.length c] w fun e w' => e = .returned (.tuple #[]) ∧ BankS w' B g n { st with bad := st.bad ++ ids.map (fun id => ⟨kind, id⟩) } ∧ KeepO refObj w w' ∧ Below B w w' := by
  obtain ⟨m1, m2, vb, fA, fN, hV⟩ := hS
  have HV := Aside0.mk hV
  have HC := Aside0.mk hC
  have HL := Aside0.mk hl
  clear hV hC hl
  go_enter Try.func16, Try.ntmps16
  go_wp2
  go_loopg [10] ids.length (fun kq v10 w' => ∃ (i : Nat) (vb' : Value), v10 = .int .i64 (i : Int) ∧ Aside0 (kq + i = ids.length) ∧ Aside0 (BankV w' B g m1 m2 n vb' fA fN { st with bad := st.bad ++ (ids.take i).map (fun id => ⟨kind, id⟩) }) ∧ Aside0 (KeepO refObj w w') ∧ Aside0 (Below B w w'))
  case atStart => exact ⟨0, vb, rfl, ⟨by omega⟩, ⟨by simpa using HV.out⟩, ⟨KeepO.refl _ _⟩, ⟨Below.refl _ _⟩⟩
  case round =>
    obtain ⟨i, vb', rfl, HK, HVi, HKi, HBi⟩ := hrel
    by_cases ci : i < ids.length
    · have c0' : decide ((i : Int) < (ids.length : Int)) = true := decide_eq_true (by omega)
      have c0'' : decide (i < ids.length) = true := decide_eq_true ci
      obtain ⟨ad, cs, hA, _, hKs, hcell⟩ := Kd.C_get (HC.out _ HKi.out) ByteArray.empty (i : Int) (by omega) (by omega)
      subst hA
      have hin := hcell 0 (.string ids[i]) (by rw [show cs = _ from hKs]; simp [List.getD_eq_getElem?_getD, List.getElem?_eq_getElem ci])
      rw [show Kd.string.sz = 1 from rfl] at hin
      simp only [Int.toNat_natCast, Nat.mul_one, Nat.add_zero] at hin
      clear hcell hKs
      have HTK := Aside0.mk (show (ids.take (i + 1)).map (fun id => (⟨kind, id⟩ : S76)) = (ids.take i).map (fun id => (⟨kind, id⟩ : S76)) ++ [⟨kind, ids[i]⟩] by rw [List.take_add_one, List.getElem?_eq_getElem ci, List.map_append]; rfl)
      have HLB := Aside0.mk (show (st.bad ++ (ids.take i).map (fun id => (⟨kind, id⟩ : S76))).length ≤ 1000000000 by have := HL.out; simp; omega)
      generalize ids[i] = s at hin HTK
      have p0 : (0 : Int) ≤ (i : Int) := by omega
      have q0 : (i : Int) < (ids.length : Int) := by omega
      have w0 : wrap64 ((i : Int) + 1) = (i : Int) + 1 := by have := HL.out; unfold wrap64; omega
      obtain ⟨Ab, cb, evb⟩ := Kd.R_slice HVi.out.bad
      subst evb
      obtain ⟨hd0, hd1, hd2⟩ := HVi.out.cells
      obtain ⟨L, hL⟩ : ∃ L, st.bad ++ (ids.take i).map (fun id => (⟨kind, id⟩ : S76)) = L := ⟨_, rfl⟩
      rw [hL] at HLB hd2
      simp only [hL] at HVi
      have HLL := Aside0.mk hL
      clear hL
      go_wp2_with ((with_reducible refine gate_builtin (b := .append) (xs := #[.tmp 18, .tmp 22]) rfl ?_); at_builtin; refine Kd.R_append k76 (w0 := w) B rfl (.tmp 18) (.tmp 22) 58 76 (.agg #[.int .i64 0, .string ⟨#[]⟩]) 24 rfl Try.underlying58 info76 rfl (by decide) (by omega) (.slice Ab L.length cb) L ⟨kind, s⟩ [.int .i64 kind, .string s] (fun _ => True) (fun _ => False) rfl rfl (k76_mkM _ _ _ ⟨kind, s⟩) (fun _ h => h.elim) (fun _ _ => trivial) HVi.out.bad HBi.out HVi.out.base ?aL ?_; (case aL => have := HLB.out; omega); intro v1 w1 ho hb hg hat; obtain ⟨A1, n1, c1, ev⟩ : ∃ A n c, v1 = .slice A n c := (by obtain ⟨A, c, h⟩ := Kd.R_slice ho; exact ⟨A, _, c, h⟩); subst ev; have HR1 := Aside0.mk ho; have HKa := Aside0.mk ((KeepO.refl notBad wr).grown hg (fun k hk => by obtain ⟨cells, hcs⟩ := Kd.R_typed HVi.out.bad k hk; exact ⟨cells, 76, hcs, fun h => h rfl⟩)); have HKr := Aside0.mk (HKi.out.grown hg (fun k hk => by obtain ⟨cells, hcs⟩ := Kd.R_typed HVi.out.bad k hk; exact ⟨cells, 76, hcs, fun h => h.2.2 rfl⟩)); have HBr := Aside0.mk hb; have hbx1 := HKa.out.2 _ _ HVi.out.box (show (60 : Nat) ≠ 76 by decide); have HBX := Aside0.mk hbx1; have he2 : w1.cell? ⟨g, 2, none⟩ = some (.slice Ab L.length cb) := (blk_cell hbx1 2).trans rfl; have hf2 := blk_frozen hbx1 2; clear ho hb hg hat hbx1)
      go_roundg (ids.length - i - 1)
      case measure => have := HK.out; omega
      case rel =>
        refine ⟨i + 1, .slice A1 n1 c1, (by first | rfl | (simp [*]; done)), ⟨by have := HK.out; omega⟩, ⟨?_⟩, ⟨HKr.out.setCell (p := ⟨g, 2, none⟩) HBX.out (fun h => h.1 rfl) _⟩, ⟨HBr.out.setCell HVi.out.geg _⟩⟩
        have h := HVi.out.spoil HKa.out HR1.out
        have e : st.bad ++ (ids.take (i + 1)).map (fun id => (⟨kind, id⟩ : S76)) = L ++ [⟨kind, s⟩] := by rw [HTK.out, ← List.append_assoc, HLL.out]
        rw [e]
        exact h
    · have c0' : decide ((i : Int) < (ids.length : Int)) = false := decide_eq_false (by omega)
      have c0'' : decide (i < ids.length) = false := decide_eq_false ci
      have HTK := Aside0.mk (show ids.take i = ids from List.take_of_length_le (by omega))
      rw [HTK.out] at HVi
      clear ci
      go_wp2
      (try simp only [Exit.inBlock, Exit.then])
      refine bodyPost_end (results_none rfl _ _ _) rfl ?_
      exact ⟨rfl, ⟨m1, m2, vb', fA, fN, HVi.out⟩, HKi.out, HBi.out⟩
end
end Go.Proofs.Ytfikgnneajlgbaa.PAll
