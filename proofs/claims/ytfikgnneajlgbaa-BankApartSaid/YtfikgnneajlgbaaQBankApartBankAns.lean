
import Derived.Test.YtfikgnneajlgbaaQBankApartBankAsk
set_option linter.unusedVariables false
set_option linter.unusedSimpArgs false
namespace Go.Proofs.Ytfikgnneajlgbaa.PAll
open Go Go.Proofs Go.RowKit Go.Proofs.YtfikgnneajlgbaaW.PrintWords Go.Proofs.YtfikgnneajlgbaaW.PrintLast Go.Proofs.YtfikgnneajlgbaaW.PrintMore Go.Maps
theorem ptr_inj {a b : Nat} (h : ptr a = ptr b) : a = b := by
  simpa using h
theorem w64 {x : Int} (h0 : -9223372036854775808 ≤ x) (h1 : x ≤ 9223372036854775807) : wrap64 x = x := by
  unfold wrap64; omega
def isBad (kind : Int) (id : ByteArray) (b : S76) : Bool := kind == b.f0 && id.toList == b.f1.toList
def badIn (l : List S76) (kind : Int) (id : ByteArray) : Bool := l.any (isBad kind id)
theorem index_l (l : List S76) (hb : l.length ≤ 1000000000) (kind : Int) (id : ByteArray) (d : Nat) : ∀ i : Nat, i + d = l.length → ∃ r, Ev (fun k => bank_bad_30.l0 k l (l.length : Int) (i : Int) kind id) r ∧ decide (r ≥ 0) = (l.drop i).any (isBad kind id) := by
  induction d with
  | zero =>
    intro i h
    refine ⟨-1, Ev.step (f := fun _ => some (-1)) (fun k => ?_) (Ev.now _), ?_⟩
    · rw [bank_bad_30.l0, if_neg (by omega)]
    · rw [List.drop_of_length_le (by omega)]; rfl
  | succ d ih =>
    intro i h
    have hi : i < l.length := by omega
    have hrd : rd_T76 l (i : Int) = l[i] := by
      unfold rd_T76
      rw [List.getD_eq_getElem?_getD, Int.toNat_natCast, List.getElem?_eq_getElem hi]; rfl
    rw [List.drop_eq_getElem_cons hi, List.any_cons]
    by_cases c : isBad kind id l[i] = true
    · refine ⟨(i : Int), Ev.step (f := fun _ => some (i : Int)) (fun k => by rw [bank_bad_30.l0, if_pos (by omega), if_pos (by omega), if_pos (by omega), hrd, if_pos (show (kind == l[i].f0 && id.toList == l[i].f1.toList) = true from c)]) (Ev.now _), ?_⟩
      rw [c, Bool.true_or, decide_eq_true_eq]
      omega
    · obtain ⟨r, h1, h2⟩ := ih (i + 1) (by omega)
      refine ⟨r, Ev.step (fun k => by rw [bank_bad_30.l0, if_pos (by omega), if_pos (by omega), if_pos (by omega), hrd, if_neg (show ¬ (kind == l[i].f0 && id.toList == l[i].f1.toList) = true from c), w64 (by omega) (by omega), show (i : Int) + 1 = ((i + 1 : Nat) : Int) from rfl]) h1, ?_⟩
      rw [Bool.not_eq_true] at c
      rw [h2, c, Bool.false_or]
theorem contains_calls (A0 : Option Addr) (c0 : Nat) (l : List S76) (kind : Int) (id : ByteArray) (w : World) (hr0 : Kd.C k76 w A0 l.length l) (hc0 : l.length ≤ c0) (hb : l.length ≤ 1000000000) :
    Calls Try.prog 29 #[.slice A0 l.length c0, .agg #[.int .i64 kind, .string id]] w fun e w' => e = .returned (.bool (badIn l kind id)) ∧ Below w.heap.size w w' := by
  obtain ⟨r, h1, h2⟩ := index_l l hb kind id l.length 0 (by omega)
  obtain ⟨k, hk⟩ := h1.rounds
  refine bank_bad_29.calls k A0 c0 l kind id _ w hr0 hc0 ?_
  have e : bank_bad_30.f k l kind id = some r := by simpa [bank_bad_30.f] using hk
  rw [bank_bad_29.f, e]
  show some (decide (r ≥ 0)) = _
  rw [h2]; rfl
def Bk.answer (st : Bk) (key kind : Int) (id : ByteArray) (ask : Acc → Bool × Acc) : Bool × Bk :=
  match st.ans key with
  | some x => (x, st)
  | none => if badIn st.bad kind id = true then (false, { st with ans := fun k => if k = key then some false else st.ans k })
    else ((ask (st.acc id)).1, { st with acc := fun i => if i = id then (ask (st.acc id)).2 else st.acc i, ans := fun k => if k = key then some (ask (st.acc id)).1 else st.ans k })
section
variable {w W1 W2 : World} {B g m1 m2 n : Nat} {vb : Value} {fA : ByteArray → Option Value} {fN : Int → Option Value} {st : Bk}
theorem BankV.told {b : Nat} {key : Int} {x : Bool} (h : BankV w B g m1 m2 n vb fA fN st) (hb : b = w.heap.size) (hbx : W1.heap[b]? = some (.cells #[.bool x] 4 (0, 0))) (hB : Below w.heap.size w W1)
    (hm : MapV W2 2 encI m2 (n + 1) (upd fN key (ptr b))) (ht : W1.mapTurned W2 m2) : BankV W2 B g m1 m2 (n + 1) vb fA (upd fN key (ptr b)) { st with ans := fun k => if k = key then some x else st.ans k } := by
  have h1 := h.below hB
  have hk : KeepO isCells W1 W2 := (KeepO.refl _ _).turned ht (fun es c q => by obtain ⟨_, _, _, q⟩ := q; cases q)
  refine h1.maps hk ?_ hm (fun i => ⟨(h1.acc i).1, fun v hv => ?_⟩) h.inj (fun k => ⟨fun hi => ?_, fun v hv => ?_⟩)
  · obtain ⟨es, c, hb2⟩ := h1.mA.obj
    exact (h1.mA.move ((turned_blk ht hb2 h.ne).trans hb2.symm)).mono (Nat.le_succ _)
  · obtain ⟨b', q1, q2, q3⟩ := (h1.acc i).2 v hv
    exact ⟨b', q1, q2, turned_cells ht q3⟩
  · unfold upd at hi
    by_cases e : k = key
    · rw [if_pos e] at hi; cases hi
    · rw [if_neg e] at hi
      simp only
      rw [if_neg e]
      exact (h1.ans k).1 hi
  · by_cases e : k = key
    · subst e
      rw [upd_same] at hv
      injection hv with hv
      exact ⟨b, x, hv.symm, by rw [hb]; exact h.base, by simp, turned_cells ht hbx⟩
    · rw [upd_other _ _ e] at hv
      obtain ⟨b', x', q1, q2, q3, q4⟩ := (h1.ans k).2 v hv
      exact ⟨b', x', q1, q2, by simp only; rw [if_neg e]; exact q3, turned_cells ht q4⟩
set_option maxHeartbeats 8000000 in
set_option maxRecDepth 100000 in
theorem answerC_calls (key : Int) (id : ByteArray) (hV : BankV w B g m1 m2 n vb fA fN st) (hn : n ≤ 1000000) (hk : (Lit.int .i64 key).wf = true) (hs : id.size ≤ maxLen) (hl : st.bad.length ≤ 1000000000) :
    Calls Try.prog 19 #[ptr g, .int .i64 key, .int .i64 5, .string id, .func (.func 22) #[] #[]] w fun e w' => ∃ fA' fN', e = .returned (.bool (st.answer key 5 id askC).1) ∧ BankV w' B g m1 m2 (n + 2) vb fA' fN' (st.answer key 5 id askC).2 ∧ KeepO refObj w w' ∧ Below B w w' := by
  have HK := Aside0.mk (keyI hk)
  obtain ⟨hc0, hc1, hc2⟩ := hV.cells
  have HV := Aside0.mk hV
  have HN := Aside0.mk (show n ≤ 1000000 from hn)
  have HS := Aside0.mk hs
  have HL := Aside0.mk hl
  cases hf : fN key with
  | some v =>
    obtain ⟨b, x, rfl, _, hst, hb⟩ := (hV.ans key).2 v hf
    have HF := Aside0.mk hf
    have ha : st.answer key 5 id askC = (x, st) := by unfold Bk.answer; rw [hst]
    rw [ha]
    have hbc : w.cell? ⟨b, 0, none⟩ = some (.bool x) := (blk_cell hb 0).trans rfl
    clear hV hf hs hn hst ha hb hk hl
    go_enter Try.func19, Try.ntmps19
    go_wp2_with (at_lookup; refine MapV.look_wp HV.out.mN rfl (.tmp 16) (.tmp 17) 57 rfl (int_keyed Try.underlying2) 77 Try.underlying57 (.pointer none) (zero77 _) rfl (.int .i64 key) key rfl HK.out ?_; simp only [HF.out, Option.getD_some])
    go_ret
    exact ⟨fA, fN, rfl, HV.out.mono (by omega), KeepO.refl _ _, Below.refl _ _⟩
  | none =>
    have hst := (hV.ans key).1 hf
    have HF := Aside0.mk hf
    obtain ⟨Ab, cb, evb⟩ := Kd.R_slice hV.bad
    subst evb
    have HC := Aside0.mk (Kd.R_reads' hV.bad).2
    cases hbd : badIn st.bad 5 id with
    | true =>
      have HBD := Aside0.mk hbd
      have ha : st.answer key 5 id askC = (false, { st with ans := fun k => if k = key then some false else st.ans k }) := by unfold Bk.answer; rw [hst]; simp only [hbd, if_true]
      rw [ha]
      clear hV hf hs hn hst ha hk hl hbd
      go_enter Try.func19, Try.ntmps19
      go_wp2_with (first
        | (at_lookup; refine MapV.look_wp HV.out.mN rfl (.tmp 16) (.tmp 17) 57 rfl (int_keyed Try.underlying2) 77 Try.underlying57 (.pointer none) (zero77 _) rfl (.int .i64 key) key rfl HK.out ?_; simp only [HF.out, Option.getD_none])
        | (go_at_call 29; refine (contains_calls Ab cb st.bad 5 id _ HC.out.2 HC.out.1 HL.out).mono ?_; rintro e w1 ⟨rfl, hb⟩; rw [HBD.out]; have HB1 := Aside0.mk hb; have HV1 := Aside0.mk (HV.out.below hb); obtain ⟨hd0, hd1, hd2⟩ := HV1.out.cells; have hnc : (w1.alloc (.cells #[.bool false] 4)).cell? ⟨g, 1, none⟩ = some (.map (some m2)) := (World.cell?_alloc_some _ _ _ (by rw [hd1]; rfl)).trans hd1; clear hb)
        | (at_mapUpdate; refine MapV.store_wp (enc := encI) (MapV.alloc HV1.out.mN _) encI_inj rfl (.tmp 43) (.tmp 44) (.tmp 12) 57 rfl (int_keyed Try.underlying2) 77 Try.underlying57 (by have := HN.out; unfold maxLen; omega) rfl (.int .i64 key) (ptr w1.heap.size) key rfl rfl HK.out ?_; intro w2 hm ht; have HM := Aside0.mk hm; have HT := Aside0.mk ht; have hcb : w2.cell? ⟨w1.heap.size, 0, none⟩ = some (.bool false) := (blk_cell (turned_cells ht (blk_new w1 _)) 0).trans rfl; clear hm ht))
      go_ret
      exact ⟨fA, upd fN key (ptr w1.heap.size), rfl, (HV1.out.told rfl (blk_new w1 _) (below_alloc (Below.refl _ _) _) HM.out HT.out).mono (by omega), ((KeepO.of_below _ HB1.out).alloc _).turned HT.out (fun _ _ h => h), turned_below ((HB1.out.mono HV.out.base).trans ((below_alloc (Below.refl _ _) _).mono HV1.out.base)) HT.out HV.out.ge2 (Nat.lt_of_lt_of_le HV1.out.mN.lt (below_alloc (Below.refl w1.heap.size w1) _).size)⟩
    | false =>
      have HBD := Aside0.mk hbd
      obtain ⟨rx, rst, hr⟩ : ∃ rx rst, askC (st.acc id) = (rx, rst) := ⟨_, _, rfl⟩
      have ha : st.answer key 5 id askC = (rx, { st with acc := fun i => if i = id then rst else st.acc i, ans := fun k => if k = key then some rx else st.ans k }) := by unfold Bk.answer; rw [hst]; simp only [hbd, hr]; rfl
      rw [ha]
      have HR := Aside0.mk hr
      clear hV hf hs hn hst ha hk hl hbd hr
      go_enter Try.func19, Try.ntmps19
      go_wp2_with (first
        | (at_lookup; refine MapV.look_wp HV.out.mN rfl (.tmp 16) (.tmp 17) 57 rfl (int_keyed Try.underlying2) 77 Try.underlying57 (.pointer none) (zero77 _) rfl (.int .i64 key) key rfl HK.out ?_; simp only [HF.out, Option.getD_none])
        | (go_at_call 29; refine (contains_calls Ab cb st.bad 5 id _ HC.out.2 HC.out.1 HL.out).mono ?_; rintro e w1 ⟨rfl, hb⟩; rw [HBD.out]; have HB1 := Aside0.mk hb; have HV1 := Aside0.mk (HV.out.below hb); clear hb)
        | (go_at_call 23; refine (of_calls id HV1.out (Nat.le_succ_of_le HN.out) HS.out).mono ?_; rintro e w2 ⟨b, fA2, rfl, hfa, hV2, hk2, hb2, hsame⟩; have HFA := Aside0.mk hfa; have HV2 := Aside0.mk hV2; have HK2 := Aside0.mk ((KeepO.of_below refObj HB1.out).trans hk2); have HB2 := Aside0.mk ((HB1.out.mono HV.out.base).trans hb2); obtain ⟨b', eb', hBb, hblk⟩ := (hV2.acc id).2 _ hfa; have eb2 := ptr_inj eb'; subst eb2; have HBK := Aside0.mk hblk; have HBB := Aside0.mk hBb; clear hfa hV2 hk2 hb2 hsame eb' hBb hblk)
        | (go_at_call 22; refine (askC_calls b (st.acc id) _ HBK.out).mono ?_; rintro e w3 ⟨rfl, h3, ho⟩; rw [HR.out] at h3 ⊢; have HV3 := Aside0.mk (HV2.out.turn (cs := #[]) HFA.out h3 (fun k o hk => ho.keep k o hk)); have HK3 := Aside0.mk (show KeepO refObj w w3 from HK2.out.trans ⟨Nat.le_of_eq ho.size.symm, fun k o hk hp => ho.keep k o (fun e => by rw [e, HBK.out] at hk; injection hk with hk; subst hk; exact hp.2.1 rfl) hk⟩); have HB3 := Aside0.mk (HB2.out.trans (ho.below B HBB.out)); obtain ⟨hd0, hd1, hd2⟩ := HV3.out.cells; have hnc : (w3.alloc (.cells #[.bool rx] 4)).cell? ⟨g, 1, none⟩ = some (.map (some m2)) := (World.cell?_alloc_some _ _ _ (by rw [hd1]; rfl)).trans hd1; clear h3 ho)
        | (at_mapUpdate; refine MapV.store_wp (enc := encI) (MapV.alloc HV3.out.mN _) encI_inj rfl (.tmp 43) (.tmp 44) (.tmp 12) 57 rfl (int_keyed Try.underlying2) 77 Try.underlying57 (by have := HN.out; unfold maxLen; omega) rfl (.int .i64 key) (ptr w3.heap.size) key rfl rfl HK.out ?_; intro w4 hm ht; have HM := Aside0.mk hm; have HT := Aside0.mk ht; have hcb : w4.cell? ⟨w3.heap.size, 0, none⟩ = some (.bool rx) := (blk_cell (turned_cells ht (blk_new w3 _)) 0).trans rfl; clear hm ht))
      go_ret
      exact ⟨fA2, upd fN key (ptr w3.heap.size), rfl, HV3.out.told rfl (blk_new w3 _) (below_alloc (Below.refl _ _) _) HM.out HT.out, (HK3.out.alloc _).turned HT.out (fun _ _ h => h), turned_below (HB3.out.trans ((below_alloc (Below.refl _ _) _).mono HV3.out.base)) HT.out HV.out.ge2 (Nat.lt_of_lt_of_le HV3.out.mN.lt (below_alloc (Below.refl w3.heap.size w3) _).size)⟩
set_option maxHeartbeats 8000000 in
set_option maxRecDepth 100000 in
theorem answerV_calls (key : Int) (id : ByteArray) (hV : BankV w B g m1 m2 n vb fA fN st) (hn : n ≤ 1000000) (hk : (Lit.int .i64 key).wf = true) (hs : id.size ≤ maxLen) (hl : st.bad.length ≤ 1000000000) :
    Calls Try.prog 19 #[ptr g, .int .i64 key, .int .i64 6, .string id, .func (.func 24) #[] #[]] w fun e w' => ∃ fA' fN', e = .returned (.bool (st.answer key 6 id askV).1) ∧ BankV w' B g m1 m2 (n + 2) vb fA' fN' (st.answer key 6 id askV).2 ∧ KeepO refObj w w' ∧ Below B w w' := by
  have HK := Aside0.mk (keyI hk)
  obtain ⟨hc0, hc1, hc2⟩ := hV.cells
  have HV := Aside0.mk hV
  have HN := Aside0.mk (show n ≤ 1000000 from hn)
  have HS := Aside0.mk hs
  have HL := Aside0.mk hl
  cases hf : fN key with
  | some v =>
    obtain ⟨b, x, rfl, _, hst, hb⟩ := (hV.ans key).2 v hf
    have HF := Aside0.mk hf
    have ha : st.answer key 6 id askV = (x, st) := by unfold Bk.answer; rw [hst]
    rw [ha]
    have hbc : w.cell? ⟨b, 0, none⟩ = some (.bool x) := (blk_cell hb 0).trans rfl
    clear hV hf hs hn hst ha hb hk hl
    go_enter Try.func19, Try.ntmps19
    go_wp2_with (at_lookup; refine MapV.look_wp HV.out.mN rfl (.tmp 16) (.tmp 17) 57 rfl (int_keyed Try.underlying2) 77 Try.underlying57 (.pointer none) (zero77 _) rfl (.int .i64 key) key rfl HK.out ?_; simp only [HF.out, Option.getD_some])
    go_ret
    exact ⟨fA, fN, rfl, HV.out.mono (by omega), KeepO.refl _ _, Below.refl _ _⟩
  | none =>
    have hst := (hV.ans key).1 hf
    have HF := Aside0.mk hf
    obtain ⟨Ab, cb, evb⟩ := Kd.R_slice hV.bad
    subst evb
    have HC := Aside0.mk (Kd.R_reads' hV.bad).2
    cases hbd : badIn st.bad 6 id with
    | true =>
      have HBD := Aside0.mk hbd
      have ha : st.answer key 6 id askV = (false, { st with ans := fun k => if k = key then some false else st.ans k }) := by unfold Bk.answer; rw [hst]; simp only [hbd, if_true]
      rw [ha]
      clear hV hf hs hn hst ha hk hl hbd
      go_enter Try.func19, Try.ntmps19
      go_wp2_with (first
        | (at_lookup; refine MapV.look_wp HV.out.mN rfl (.tmp 16) (.tmp 17) 57 rfl (int_keyed Try.underlying2) 77 Try.underlying57 (.pointer none) (zero77 _) rfl (.int .i64 key) key rfl HK.out ?_; simp only [HF.out, Option.getD_none])
        | (go_at_call 29; refine (contains_calls Ab cb st.bad 6 id _ HC.out.2 HC.out.1 HL.out).mono ?_; rintro e w1 ⟨rfl, hb⟩; rw [HBD.out]; have HB1 := Aside0.mk hb; have HV1 := Aside0.mk (HV.out.below hb); obtain ⟨hd0, hd1, hd2⟩ := HV1.out.cells; have hnc : (w1.alloc (.cells #[.bool false] 4)).cell? ⟨g, 1, none⟩ = some (.map (some m2)) := (World.cell?_alloc_some _ _ _ (by rw [hd1]; rfl)).trans hd1; clear hb)
        | (at_mapUpdate; refine MapV.store_wp (enc := encI) (MapV.alloc HV1.out.mN _) encI_inj rfl (.tmp 43) (.tmp 44) (.tmp 12) 57 rfl (int_keyed Try.underlying2) 77 Try.underlying57 (by have := HN.out; unfold maxLen; omega) rfl (.int .i64 key) (ptr w1.heap.size) key rfl rfl HK.out ?_; intro w2 hm ht; have HM := Aside0.mk hm; have HT := Aside0.mk ht; have hcb : w2.cell? ⟨w1.heap.size, 0, none⟩ = some (.bool false) := (blk_cell (turned_cells ht (blk_new w1 _)) 0).trans rfl; clear hm ht))
      go_ret
      exact ⟨fA, upd fN key (ptr w1.heap.size), rfl, (HV1.out.told rfl (blk_new w1 _) (below_alloc (Below.refl _ _) _) HM.out HT.out).mono (by omega), ((KeepO.of_below _ HB1.out).alloc _).turned HT.out (fun _ _ h => h), turned_below ((HB1.out.mono HV.out.base).trans ((below_alloc (Below.refl _ _) _).mono HV1.out.base)) HT.out HV.out.ge2 (Nat.lt_of_lt_of_le HV1.out.mN.lt (below_alloc (Below.refl w1.heap.size w1) _).size)⟩
    | false =>
      have HBD := Aside0.mk hbd
      obtain ⟨rx, rst, hr⟩ : ∃ rx rst, askV (st.acc id) = (rx, rst) := ⟨_, _, rfl⟩
      have ha : st.answer key 6 id askV = (rx, { st with acc := fun i => if i = id then rst else st.acc i, ans := fun k => if k = key then some rx else st.ans k }) := by unfold Bk.answer; rw [hst]; simp only [hbd, hr]; rfl
      rw [ha]
      have HR := Aside0.mk hr
      clear hV hf hs hn hst ha hk hl hbd hr
      go_enter Try.func19, Try.ntmps19
      go_wp2_with (first
        | (at_lookup; refine MapV.look_wp HV.out.mN rfl (.tmp 16) (.tmp 17) 57 rfl (int_keyed Try.underlying2) 77 Try.underlying57 (.pointer none) (zero77 _) rfl (.int .i64 key) key rfl HK.out ?_; simp only [HF.out, Option.getD_none])
        | (go_at_call 29; refine (contains_calls Ab cb st.bad 6 id _ HC.out.2 HC.out.1 HL.out).mono ?_; rintro e w1 ⟨rfl, hb⟩; rw [HBD.out]; have HB1 := Aside0.mk hb; have HV1 := Aside0.mk (HV.out.below hb); clear hb)
        | (go_at_call 23; refine (of_calls id HV1.out (Nat.le_succ_of_le HN.out) HS.out).mono ?_; rintro e w2 ⟨b, fA2, rfl, hfa, hV2, hk2, hb2, hsame⟩; have HFA := Aside0.mk hfa; have HV2 := Aside0.mk hV2; have HK2 := Aside0.mk ((KeepO.of_below refObj HB1.out).trans hk2); have HB2 := Aside0.mk ((HB1.out.mono HV.out.base).trans hb2); obtain ⟨b', eb', hBb, hblk⟩ := (hV2.acc id).2 _ hfa; have eb2 := ptr_inj eb'; subst eb2; have HBK := Aside0.mk hblk; have HBB := Aside0.mk hBb; clear hfa hV2 hk2 hb2 hsame eb' hBb hblk)
        | (go_at_call 24; refine (askV_calls b (st.acc id) _ HBK.out).mono ?_; rintro e w3 ⟨rfl, h3, ho⟩; rw [HR.out] at h3 ⊢; have HV3 := Aside0.mk (HV2.out.turn (cs := #[]) HFA.out h3 (fun k o hk => ho.keep k o hk)); have HK3 := Aside0.mk (show KeepO refObj w w3 from HK2.out.trans ⟨Nat.le_of_eq ho.size.symm, fun k o hk hp => ho.keep k o (fun e => by rw [e, HBK.out] at hk; injection hk with hk; subst hk; exact hp.2.1 rfl) hk⟩); have HB3 := Aside0.mk (HB2.out.trans (ho.below B HBB.out)); obtain ⟨hd0, hd1, hd2⟩ := HV3.out.cells; have hnc : (w3.alloc (.cells #[.bool rx] 4)).cell? ⟨g, 1, none⟩ = some (.map (some m2)) := (World.cell?_alloc_some _ _ _ (by rw [hd1]; rfl)).trans hd1; clear h3 ho)
        | (at_mapUpdate; refine MapV.store_wp (enc := encI) (MapV.alloc HV3.out.mN _) encI_inj rfl (.tmp 43) (.tmp 44) (.tmp 12) 57 rfl (int_keyed Try.underlying2) 77 Try.underlying57 (by have := HN.out; unfold maxLen; omega) rfl (.int .i64 key) (ptr w3.heap.size) key rfl rfl HK.out ?_; intro w4 hm ht; have HM := Aside0.mk hm; have HT := Aside0.mk ht; have hcb : w4.cell? ⟨w3.heap.size, 0, none⟩ = some (.bool rx) := (blk_cell (turned_cells ht (blk_new w3 _)) 0).trans rfl; clear hm ht))
      go_ret
      exact ⟨fA2, upd fN key (ptr w3.heap.size), rfl, HV3.out.told rfl (blk_new w3 _) (below_alloc (Below.refl _ _) _) HM.out HT.out, (HK3.out.alloc _).turned HT.out (fun _ _ h => h), turned_below (HB3.out.trans ((below_alloc (Below.refl _ _) _).mono HV3.out.base)) HT.out HV.out.ge2 (Nat.lt_of_lt_of_le HV3.out.mN.lt (below_alloc (Below.refl w3.heap.size w3) _).size)⟩
set_option maxHeartbeats 8000000 in
set_option maxRecDepth 100000 in
theorem answerA_calls (key : Int) (id : ByteArray) (t : Int) (b7 : Nat) (h7 : w.heap[b7]? = some (.cells #[.int .i64 t] 2 (0, 0))) (hV : BankV w B g m1 m2 n vb fA fN st) (hn : n ≤ 1000000) (hk : (Lit.int .i64 key).wf = true) (hs : id.size ≤ maxLen) (hl : st.bad.length ≤ 1000000000) :
    Calls Try.prog 19 #[ptr g, .int .i64 key, .int .i64 2, .string id, .func (.func 20) #[] #[ptr b7]] w fun e w' => ∃ fA' fN', e = .returned (.bool (st.answer key 2 id (askA t)).1) ∧ BankV w' B g m1 m2 (n + 2) vb fA' fN' (st.answer key 2 id (askA t)).2 ∧ KeepO refObj w w' ∧ Below B w w' := by
  have HK := Aside0.mk (keyI hk)
  obtain ⟨hc0, hc1, hc2⟩ := hV.cells
  have HV := Aside0.mk hV
  have HN := Aside0.mk (show n ≤ 1000000 from hn)
  have HS := Aside0.mk hs
  have HL := Aside0.mk hl
  cases hf : fN key with
  | some v =>
    obtain ⟨b, x, rfl, _, hst, hb⟩ := (hV.ans key).2 v hf
    have HF := Aside0.mk hf
    have ha : st.answer key 2 id (askA t) = (x, st) := by unfold Bk.answer; rw [hst]
    rw [ha]
    have hbc : w.cell? ⟨b, 0, none⟩ = some (.bool x) := (blk_cell hb 0).trans rfl
    clear hV hf hs hn hst ha hb hk hl
    go_enter Try.func19, Try.ntmps19
    go_wp2_with (at_lookup; refine MapV.look_wp HV.out.mN rfl (.tmp 16) (.tmp 17) 57 rfl (int_keyed Try.underlying2) 77 Try.underlying57 (.pointer none) (zero77 _) rfl (.int .i64 key) key rfl HK.out ?_; simp only [HF.out, Option.getD_some])
    go_ret
    exact ⟨fA, fN, rfl, HV.out.mono (by omega), KeepO.refl _ _, Below.refl _ _⟩
  | none =>
    have hst := (hV.ans key).1 hf
    have HF := Aside0.mk hf
    obtain ⟨Ab, cb, evb⟩ := Kd.R_slice hV.bad
    subst evb
    have HC := Aside0.mk (Kd.R_reads' hV.bad).2
    cases hbd : badIn st.bad 2 id with
    | true =>
      have HBD := Aside0.mk hbd
      have ha : st.answer key 2 id (askA t) = (false, { st with ans := fun k => if k = key then some false else st.ans k }) := by unfold Bk.answer; rw [hst]; simp only [hbd, if_true]
      rw [ha]
      clear hV hf hs hn hst ha hk hl hbd
      go_enter Try.func19, Try.ntmps19
      go_wp2_with (first
        | (at_lookup; refine MapV.look_wp HV.out.mN rfl (.tmp 16) (.tmp 17) 57 rfl (int_keyed Try.underlying2) 77 Try.underlying57 (.pointer none) (zero77 _) rfl (.int .i64 key) key rfl HK.out ?_; simp only [HF.out, Option.getD_none])
        | (go_at_call 29; refine (contains_calls Ab cb st.bad 2 id _ HC.out.2 HC.out.1 HL.out).mono ?_; rintro e w1 ⟨rfl, hb⟩; rw [HBD.out]; have HB1 := Aside0.mk hb; have HV1 := Aside0.mk (HV.out.below hb); obtain ⟨hd0, hd1, hd2⟩ := HV1.out.cells; have hnc : (w1.alloc (.cells #[.bool false] 4)).cell? ⟨g, 1, none⟩ = some (.map (some m2)) := (World.cell?_alloc_some _ _ _ (by rw [hd1]; rfl)).trans hd1; clear hb)
        | (at_mapUpdate; refine MapV.store_wp (enc := encI) (MapV.alloc HV1.out.mN _) encI_inj rfl (.tmp 43) (.tmp 44) (.tmp 12) 57 rfl (int_keyed Try.underlying2) 77 Try.underlying57 (by have := HN.out; unfold maxLen; omega) rfl (.int .i64 key) (ptr w1.heap.size) key rfl rfl HK.out ?_; intro w2 hm ht; have HM := Aside0.mk hm; have HT := Aside0.mk ht; have hcb : w2.cell? ⟨w1.heap.size, 0, none⟩ = some (.bool false) := (blk_cell (turned_cells ht (blk_new w1 _)) 0).trans rfl; clear hm ht))
      go_ret
      exact ⟨fA, upd fN key (ptr w1.heap.size), rfl, (HV1.out.told rfl (blk_new w1 _) (below_alloc (Below.refl _ _) _) HM.out HT.out).mono (by omega), ((KeepO.of_below _ HB1.out).alloc _).turned HT.out (fun _ _ h => h), turned_below ((HB1.out.mono HV.out.base).trans ((below_alloc (Below.refl _ _) _).mono HV1.out.base)) HT.out HV.out.ge2 (Nat.lt_of_lt_of_le HV1.out.mN.lt (below_alloc (Below.refl w1.heap.size w1) _).size)⟩
    | false =>
      have HBD := Aside0.mk hbd
      obtain ⟨rx, rst, hr⟩ : ∃ rx rst, (askA t) (st.acc id) = (rx, rst) := ⟨_, _, rfl⟩
      have ha : st.answer key 2 id (askA t) = (rx, { st with acc := fun i => if i = id then rst else st.acc i, ans := fun k => if k = key then some rx else st.ans k }) := by unfold Bk.answer; rw [hst]; simp only [hbd, hr]; rfl
      rw [ha]
      have HR := Aside0.mk hr
      clear hV hf hs hn hst ha hk hl hbd hr
      go_enter Try.func19, Try.ntmps19
      go_wp2_with (first
        | (at_lookup; refine MapV.look_wp HV.out.mN rfl (.tmp 16) (.tmp 17) 57 rfl (int_keyed Try.underlying2) 77 Try.underlying57 (.pointer none) (zero77 _) rfl (.int .i64 key) key rfl HK.out ?_; simp only [HF.out, Option.getD_none])
        | (go_at_call 29; refine (contains_calls Ab cb st.bad 2 id _ HC.out.2 HC.out.1 HL.out).mono ?_; rintro e w1 ⟨rfl, hb⟩; rw [HBD.out]; have HB1 := Aside0.mk hb; have HV1 := Aside0.mk (HV.out.below hb); clear hb)
        | (go_at_call 23; refine (of_calls id HV1.out (Nat.le_succ_of_le HN.out) HS.out).mono ?_; rintro e w2 ⟨b, fA2, rfl, hfa, hV2, hk2, hb2, hsame⟩; have HFA := Aside0.mk hfa; have HV2 := Aside0.mk hV2; have HK2 := Aside0.mk ((KeepO.of_below refObj HB1.out).trans hk2); have HB2 := Aside0.mk ((HB1.out.mono HV.out.base).trans hb2); obtain ⟨b', eb', hBb, hblk⟩ := (hV2.acc id).2 _ hfa; have eb2 := ptr_inj eb'; subst eb2; have HBK := Aside0.mk hblk; have HBB := Aside0.mk hBb; clear hfa hV2 hk2 hb2 hsame eb' hBb hblk)
        | (go_at_call 20; refine (askA_calls b b7 t (st.acc id) _ HBK.out ((blk_cell (HK2.out.2 _ _ h7 ⟨by decide, by decide, by decide⟩) 0).trans rfl) (blk_ne (HK2.out.2 _ _ h7 ⟨by decide, by decide, by decide⟩) HBK.out (by decide))).mono ?_; rintro e w3 ⟨rfl, h3, ho⟩; rw [HR.out] at h3 ⊢; have HV3 := Aside0.mk (HV2.out.turn (cs := #[]) HFA.out h3 (fun k o hk => ho.keep k o hk)); have HK3 := Aside0.mk (show KeepO refObj w w3 from HK2.out.trans ⟨Nat.le_of_eq ho.size.symm, fun k o hk hp => ho.keep k o (fun e => by rw [e, HBK.out] at hk; injection hk with hk; subst hk; exact hp.2.1 rfl) hk⟩); have HB3 := Aside0.mk (HB2.out.trans (ho.below B HBB.out)); obtain ⟨hd0, hd1, hd2⟩ := HV3.out.cells; have hnc : (w3.alloc (.cells #[.bool rx] 4)).cell? ⟨g, 1, none⟩ = some (.map (some m2)) := (World.cell?_alloc_some _ _ _ (by rw [hd1]; rfl)).trans hd1; clear h3 ho)
        | (at_mapUpdate; refine MapV.store_wp (enc := encI) (MapV.alloc HV3.out.mN _) encI_inj rfl (.tmp 43) (.tmp 44) (.tmp 12) 57 rfl (int_keyed Try.underlying2) 77 Try.underlying57 (by have := HN.out; unfold maxLen; omega) rfl (.int .i64 key) (ptr w3.heap.size) key rfl rfl HK.out ?_; intro w4 hm ht; have HM := Aside0.mk hm; have HT := Aside0.mk ht; have hcb : w4.cell? ⟨w3.heap.size, 0, none⟩ = some (.bool rx) := (blk_cell (turned_cells ht (blk_new w3 _)) 0).trans rfl; clear hm ht))
      go_ret
      exact ⟨fA2, upd fN key (ptr w3.heap.size), rfl, HV3.out.told rfl (blk_new w3 _) (below_alloc (Below.refl _ _) _) HM.out HT.out, (HK3.out.alloc _).turned HT.out (fun _ _ h => h), turned_below (HB3.out.trans ((below_alloc (Below.refl _ _) _).mono HV3.out.base)) HT.out HV.out.ge2 (Nat.lt_of_lt_of_le HV3.out.mN.lt (below_alloc (Below.refl w3.heap.size w3) _).size)⟩
end
end Go.Proofs.Ytfikgnneajlgbaa.PAll
