
import Derived.Test.YtalcopjlofbfaaaDoorQLinesNamesIdx
import Derived.Lib.SliceRun
import Derived.Test.YtalcopjlofbfaaaDoorQLinesNamesEvents
import Derived.Test.YtalcopjlofbfaaaDoorQLinesNamesPAllx2
set_option linter.unusedVariables false
set_option linter.unusedSimpArgs false
namespace Go.Proofs.YtalcopjlofbfaaaDoor.PAll
open Go Go.Proofs Go.RowKit Go.Proofs.YtalcopjlofbfaaaDoorW.PrintWords Go.Proofs.YtalcopjlofbfaaaDoorW.PrintLast Go.Proofs.YtalcopjlofbfaaaDoorW.PrintMore
set_option maxHeartbeats 4000000 in
set_option maxRecDepth 100000 in
theorem clone_calls (A0 : Option Addr) (c0 : Nat) (l0 : List S37) (w : World) (hr0 : Kd.C k37 w A0 l0.length l0) (hc0 : l0.length ≤ c0) (hl : l0.length < 4398046511104) :
    Calls Tryd.prog 35 #[.slice A0 l0.length c0] w fun e w' => ∃ v0_ : Value, e = .returned (v0_) ∧ Kd.R k37 37 w' w.heap.size (fun _ => True) v0_ l0 ∧ Below w.heap.size w w' := by
  have HC := Aside0.mk hr0
  cases A0 with
  | none =>
    have h0 : l0 = [] := by
      cases l0 with
      | nil => rfl
      | cons x t =>
        obtain ⟨ad, c, hA, _⟩ := Kd.C_get hr0 x 0 (by omega) (by simp)
        cases hA
    subst h0
    clear hr0
    have heq := fun W => Lib.run_eql_slice_nil (P := Tryd.prog) W 22 37 none 0 c0 0 0 Tryd.underlying22
    go_enter Tryd.func35, Tryd.ntmps35
    go_wp2_with fail
    go_ret
    exact ⟨.slice none 0 0, rfl, Kd.R_nil _ _ _ _ _, Below.refl _ _⟩
  | some ad =>
    clear hr0
    have LM := Aside0.mk hl
    clear hl
    have heq := fun W => Lib.run_eql_slice_nil (P := Tryd.prog) W 22 37 (some ad) l0.length c0 0 0 Tryd.underlying22
    go_enter Tryd.func35, Tryd.ntmps35
    go_wp2_with (first | ((with_reducible refine gate_dst (N := 5) rfl ?_); refine Kd.R_lit k37 w.heap.size 37 ?hg (N := 5) ?hd (xs := ([] : List S37)) (inner := []) (ok := fun _ => True) (okp := fun _ => True) ?hr ?hp (fun _ hk => hk) trivial (Below.refl _ _) (Nat.le_refl _) (by simp) ?_; (case hd => rfl); (case hg => rfl); (case hr => first | (go_simp; done) | (go_simp; rfl)); (case hp => exact (Reps.none _ _)); intro v1 w1 ho1 hb1 hg1 hn1; have HO := Aside0.mk ho1; have HB := Aside0.mk hb1; have HC1 := Aside0.mk (Kd.C_below HC.out hb1); clear ho1 hb1 hg1 hn1) | ((with_reducible refine gate_builtin (b := .append) (xs := #[.tmp 5, .tmp 6]) rfl ?_); at_builtin; refine Kd.R_append_rows k37 (w0 := w) w.heap.size rfl (.tmp 5) (.tmp 6) 22 37 (.agg #[(.string ⟨#[]⟩), (.int .i64 0), (.int .i64 0)]) 32 rfl Tryd.underlying22 info37 rfl (by decide) (by omega) v1 [] l0 _ _ _ (fun _ => True) (fun _ => False) rfl rfl ?aO ?aR (fun _ _ h => h) (fun _ h => h.elim) ?aF ?aB ?aS ?aL ?_; (case aR => exact HC1.out); (case aB => exact HB.out); (case aF => exact (fun _ _ => trivial)); (case aO => exact HO.out); (case aS => exact HB.out.size); (case aL => have := LM.out; simp; omega); intro v2 w2 ho hb hg hat; have HO2 := Aside0.mk ho; have HB2 := Aside0.mk hb; clear ho hb hg hat))
    go_ret
    exact ⟨_, rfl, HO2.out, HB2.out⟩
theorem gate_store {P : Program} {ops : Array Oper} {Q : Exit → Act → World → Prop} {rest : List Oper} {o : Oper} {a : Act} {W : World} {ty : TypeId} {x y : Operand} (_ho : o.op = .store ty x y) (h : wpList P ops Q (o :: rest) a W) : wpList P ops Q (o :: rest) a W := h
def tak (l : List S37) (i : Nat) (q : Int) : List S37 :=
  let x := rd_T37 l (i : Int)
  if wrap64 (x.f1 - q) = 0 then l.take i ++ l.drop (i + 1) else l.set i ⟨x.f0, wrap64 (x.f1 - q), x.f2⟩
def lines_Take.f (k : Nat) (l0 : List S37) (a1 : ByteArray) (a2 : Int) : Option (List S37 × Int) :=
  (lines_Right.f k l0).bind fun b => if b = true ∧ 0 ≤ idxS a1 l0 0 ∧ 1 ≤ a2 ∧ a2 ≤ (rd_T37 l0 (idxS a1 l0 0)).f1 then
    (if l0.length < 4398046511104 then (lines_Right.f k (tak l0 (idxS a1 l0 0).toNat a2)).bind fun c => (if c = true then some (tak l0 (idxS a1 l0 0).toNat a2, 0) else some (([] : List S37), 41)) else none)
    else some (([] : List S37), 41)
theorem idxS_rng (s : ByteArray) : ∀ (l : List S37) (i : Nat), idxS s l i = -1 ∨ ((i : Int) ≤ idxS s l i ∧ idxS s l i < (i : Int) + l.length) := by
  intro l
  induction l with
  | nil => intro i; exact .inl rfl
  | cons x t ih =>
    intro i
    unfold idxS
    by_cases c : (x.f0.toList == s.toList) = true
    · rw [if_pos c, List.length_cons]; exact .inr (by omega)
    · rw [if_neg c, List.length_cons]
      rcases ih (i + 1) with h | h
      · exact .inl h
      · exact .inr (by omega)
set_option maxHeartbeats 8000000 in
set_option maxRecDepth 100000 in
theorem take_no (k : Nat) (A0 : Option Addr) (c0 : Nat) (l0 : List S37) (a1 : ByteArray) (a2 : Int) (b : Bool) (w : World) (hr0 : Kd.C k37 w A0 l0.length l0) (hc0 : l0.length ≤ c0) (hT : Tabs w) (hb : lines_Right.f k l0 = some b)
    (hno : ¬ (b = true ∧ 0 ≤ idxS a1 l0 0 ∧ 1 ≤ a2 ∧ a2 ≤ (rd_T37 l0 (idxS a1 l0 0)).f1)) :
    Calls Tryd.prog 20 #[.slice A0 l0.length c0, .string a1, .int .i64 a2] w fun e w' => ∃ v0_ : Value, e = .returned (.tuple #[v0_, .int .i64 41]) ∧ Kd.R k37 37 w' w.heap.size (fun _ => True) v0_ [] ∧ Below w.heap.size w w' := by
  have hu37 := Tryd.underlying37
  have HR0 := Aside0.mk hr0
  have HC0 := Aside0.mk hc0
  have HT := Aside0.mk hT
  have A2 := Aside0.mk hb
  have rng := idxS_rng a1 l0 0
  have hlen : l0.length ≤ 9223372036854775807 := hr0.2.1
  clear hr0 hc0 hT hb
  have HB := Aside0.mk (Below.refl w.heap.size w)
  obtain ⟨j, hj⟩ : ∃ j, j = idxS a1 l0 0 := ⟨_, rfl⟩
  rw [← hj] at hno rng
  have HJ := Aside0.mk hj
  clear hj
  have walk : b = false ∨ (b = true ∧ j < 0) ∨ (b = true ∧ 0 ≤ j ∧ a2 < 1) ∨ (b = true ∧ 0 ≤ j ∧ 1 ≤ a2 ∧ (rd_T37 l0 j).f1 < a2) := by
    cases b
    · exact .inl rfl
    · by_cases h1 : j < 0
      · exact .inr (.inl ⟨rfl, h1⟩)
      · by_cases h2 : a2 < 1
        · exact .inr (.inr (.inl ⟨rfl, by omega, h2⟩))
        · refine .inr (.inr (.inr ⟨rfl, by omega, by omega, ?_⟩))
          by_cases h3 : (rd_T37 l0 j).f1 < a2
          · exact h3
          · exact absurd ⟨rfl, by omega, by omega, by omega⟩ hno
  clear hno
  have arms : ∀ (P : Prop), P → P := fun _ h => h
  rcases walk with rfl | ⟨rfl, h1⟩ | ⟨rfl, h1, h2⟩ | ⟨rfl, h1, h2, h3⟩
  rotate_left 3
  · have p122 : 0 ≤ j := h1
    have q122 : j < (l0.length : Int) := by omega
    obtain ⟨ad122, e122, hx122_0, hx122_1, hx122_2⟩ := at_T37 HR0.out j p122 q122
    cases e122
    have hlt : w.heap.size ≤ w.heap.size := Nat.le_refl _
    have n1 : ¬ (j < 0) := by omega
    have n2 : ¬ (a2 < 1) := by omega
    have HX := Aside0.mk hx122_1
    clear hx122_0 hx122_1 hx122_2
    go_enter Tryd.func20, Tryd.ntmps20
    go_wp2_with (first
      | ((with_reducible refine gate_dst (N := 4) rfl ?_); refine box_event ?hg (N := 4) ?hd (cs := #[.string a1]) (t := 9) ?hr ?_; (case hd => rfl); (case hg => rfl); (case hr => first | (go_simp; done) | (go_simp; rfl)); intro gb hg w1 hbox hb; have HB1 := Aside0.mk (below_step HB.out hb); have BK := Aside0.mk hbox; have HR1 := Aside0.mk (Kd.C_below HR0.out hb); clear hb hbox hg)
      | ((with_reducible refine gate_callee (f := 33) rfl ?_); refine goesL_ (some 12) rfl rfl Tryd.func33 (by kernel_rfl) rfl #[.slice (some ad122) l0.length c0, .func (.func 34) #[] #[.pointer (some ⟨gb, 0, none⟩)]] rfl (by (try simp only [List.map_toArray, List.map_cons, List.map_nil]); first | done | rfl) ?_; refine (idx_calls (some ad122) c0 l0 a1 gb _ HR1.out HC0.out BK.out).mono ?_; rintro e w2 ⟨rfl, hb⟩; refine ⟨_, rfl, ?_⟩; rw [← HJ.out]; have HB2 := Aside0.mk (below_step HB1.out hb); have HR2 := Aside0.mk (Kd.C_below HR1.out hb); clear hb)
      | ((with_reducible refine gate_callee (f := 14) rfl ?_); refine goesL_ (some 14) rfl rfl Tryd.func14 (by kernel_rfl) rfl #[.slice (some ad122) l0.length c0] rfl (by (try simp only [List.map_toArray, List.map_cons, List.map_nil]); first | done | rfl) ?_; refine (lines_Right.calls k (some ad122) c0 l0 true _ HR2.out HC0.out (Tabs.below HT.out HB2.out) A2.out).mono ?_; rintro e w3 ⟨rfl, hb⟩; refine ⟨_, rfl, ?_⟩; have HB3 := Aside0.mk (below_step HB2.out hb); have hx3 := (HB3.out.cell (World.block_lt_of_cell? w _ HX.out)).trans HX.out; clear hb))
    go_ret2
    exact ⟨.slice none 0 0, rfl, Kd.R_nil _ _ _ _ _, HB3.out⟩
  all_goals
    go_enter Tryd.func20, Tryd.ntmps20
    go_wp2_with (first
      | ((with_reducible refine gate_dst (N := 4) rfl ?_); refine box_event ?hg (N := 4) ?hd (cs := #[.string a1]) (t := 9) ?hr ?_; (case hd => rfl); (case hg => rfl); (case hr => first | (go_simp; done) | (go_simp; rfl)); intro gb hg w1 hbox hb; have HB1 := Aside0.mk (below_step HB.out hb); have BK := Aside0.mk hbox; have HR1 := Aside0.mk (Kd.C_below HR0.out hb); clear hb hbox hg)
      | ((with_reducible refine gate_callee (f := 33) rfl ?_); refine goesL_ (some 12) rfl rfl Tryd.func33 (by kernel_rfl) rfl #[.slice A0 l0.length c0, .func (.func 34) #[] #[.pointer (some ⟨gb, 0, none⟩)]] rfl (by (try simp only [List.map_toArray, List.map_cons, List.map_nil]); first | done | rfl) ?_; refine (idx_calls A0 c0 l0 a1 gb _ HR1.out HC0.out BK.out).mono ?_; rintro e w2 ⟨rfl, hb⟩; refine ⟨_, rfl, ?_⟩; rw [← HJ.out]; have HB2 := Aside0.mk (below_step HB1.out hb); have HR2 := Aside0.mk (Kd.C_below HR1.out hb); clear hb)
      | ((with_reducible refine gate_callee (f := 14) rfl ?_); refine goesL_ (some 14) rfl rfl Tryd.func14 (by kernel_rfl) rfl #[.slice A0 l0.length c0] rfl (by (try simp only [List.map_toArray, List.map_cons, List.map_nil]); first | done | rfl) ?_; refine (lines_Right.calls k A0 c0 l0 _ _ HR2.out HC0.out (Tabs.below HT.out HB2.out) A2.out).mono ?_; rintro e w3 ⟨rfl, hb⟩; refine ⟨_, rfl, ?_⟩; have HB3 := Aside0.mk (below_step HB2.out hb); clear hb))
    go_ret2
    exact ⟨.slice none 0 0, rfl, Kd.R_nil _ _ _ _ _, HB3.out⟩
theorem ln_cells {x : S37} {cs : List Value} (h : Ln x cs) : ∀ u ∈ cs, u.oneCell' = true := by
  rw [show cs = _ from h]
  intro u hu
  simp only [List.mem_cons, List.not_mem_nil, or_false] at hu
  rcases hu with rfl | rfl | rfl <;> rfl
theorem reps_at {xs : List S37} {inner : List Value} (h : Reps Ln 3 xs inner) (i : Nat) (hi : i < xs.length) : inner[i * 3]? = some (.string xs[i].f0) ∧ inner[i * 3 + 1]? = some (.int .i64 xs[i].f1) ∧ inner[i * 3 + 2]? = some (.int .i64 xs[i].f2) := by
  have g := h.2 i xs[i] (List.getElem?_eq_getElem hi)
  have e : ∀ j, j < 3 → ((inner.drop (i * 3)).take 3)[j]? = inner[i * 3 + j]? := fun j hj => by rw [List.getElem?_take, if_pos hj, List.getElem?_drop]
  rw [show (inner.drop (i * 3)).take 3 = _ from g] at e
  exact ⟨(e 0 (by omega)).symm, (e 1 (by omega)).symm, (e 2 (by omega)).symm⟩
theorem reps_set {xs : List S37} {inner : List Value} (h : Reps Ln 3 xs inner) (i : Nat) (hi : i < xs.length) (q : Int) : Reps Ln 3 (xs.set i ⟨xs[i].f0, q, xs[i].f2⟩) (inner.set (i * 3 + 1) (.int .i64 q)) := by
  refine ⟨by rw [List.length_set, List.length_set]; exact h.1, fun j p hj => ?_⟩
  by_cases c : j = i
  · subst c
    rw [List.getElem?_set_self hi] at hj
    injection hj with hj
    subst hj
    obtain ⟨e0, e1, e2⟩ := reps_at h j hi
    have hl : j * 3 + 1 < inner.length := by rw [h.1]; omega
    have l3 : (((inner.set (j * 3 + 1) (.int .i64 q)).drop (j * 3)).take 3).length = 3 := by rw [List.length_take, List.length_drop, List.length_set, h.1]; omega
    apply List.ext_getElem?
    intro n
    by_cases hn : n < 3
    · rw [List.getElem?_take, if_pos hn, List.getElem?_drop]
      have : n = 0 ∨ n = 1 ∨ n = 2 := by omega
      rcases this with rfl | rfl | rfl
      · rw [List.getElem?_set_ne (by omega), Nat.add_zero, e0]; rfl
      · rw [List.getElem?_set_self hl]; rfl
      · rw [List.getElem?_set_ne (by omega), e2]; rfl
    · rw [List.getElem?_eq_none (by omega), List.getElem?_eq_none (by simp; omega)]
  · rw [List.getElem?_set_ne (fun e => c e.symm)] at hj
    have hj3 := (List.getElem?_eq_some_iff.1 hj).1
    have := h.2 j p hj
    have e : ((inner.set (i * 3 + 1) (.int .i64 q)).drop (j * 3)).take 3 = (inner.drop (j * 3)).take 3 := by
      apply List.ext_getElem?
      intro n
      by_cases hn : n < 3
      · rw [List.getElem?_take, if_pos hn, List.getElem?_drop, List.getElem?_take, if_pos hn, List.getElem?_drop, List.getElem?_set_ne (by omega)]
      · rw [List.getElem?_take, if_neg hn, List.getElem?_take, if_neg hn]
    rw [e]; exact this
set_option maxHeartbeats 8000000 in
set_option maxRecDepth 100000 in
theorem take_yes (k : Nat) (A0 : Option Addr) (c0 : Nat) (l0 : List S37) (a1 : ByteArray) (a2 : Int) (i : Nat) (c : Bool) (w : World) (hr0 : Kd.C k37 w A0 l0.length l0) (hc0 : l0.length ≤ c0) (hT : Tabs w) (hb : lines_Right.f k l0 = some true)
    (hi : idxS a1 l0 0 = (i : Int)) (hil : i < l0.length) (h1 : 1 ≤ a2) (h2 : a2 ≤ (rd_T37 l0 (i : Int)).f1) (hcl : l0.length < 4398046511104) (hc : lines_Right.f k (tak l0 i a2) = some c) :
    Calls Tryd.prog 20 #[.slice A0 l0.length c0, .string a1, .int .i64 a2] w fun e w' => ∃ v0_ : Value, e = .returned (.tuple #[v0_, .int .i64 (if c = true then 0 else 41)]) ∧ Kd.R k37 37 w' w.heap.size (fun _ => True) v0_ (if c = true then tak l0 i a2 else []) ∧ Below w.heap.size w w' := by
  have hu37 := Tryd.underlying37
  have HR0 := Aside0.mk hr0
  have HC0 := Aside0.mk hc0
  have HT := Aside0.mk hT
  have A2 := Aside0.mk hb
  have A3 := Aside0.mk hc
  have HI := Aside0.mk hi
  have HCL := Aside0.mk hcl
  have hlen : l0.length ≤ 9223372036854775807 := hr0.2.1
  have q122 : (i : Int) < (l0.length : Int) := by omega
  have p122 : 0 ≤ (i : Int) := by omega
  have hx : rd_T37 l0 (i : Int) = l0[i] := by
    unfold rd_T37
    rw [List.getD_eq_getElem?_getD, Int.toNat_natCast, List.getElem?_eq_getElem hil]; rfl
  obtain ⟨ad122, e122, hx122_0, hx122_1, hx122_2⟩ := at_T37 hr0 (i : Int) p122 q122
  cases e122
  simp only [Int.toNat_natCast] at hx122_1
  have HX := Aside0.mk hx122_1
  rw [hx] at h2 HX
  have htk : tak l0 i a2 = if wrap64 (l0[i].f1 - a2) = 0 then l0.take i ++ l0.drop (i + 1) else l0.set i ⟨l0[i].f0, wrap64 (l0[i].f1 - a2), l0[i].f2⟩ := by unfold tak; simp only [hx]
  have TK := Aside0.mk htk
  clear hr0 hc0 hT hb hc hi hcl hx122_0 hx122_1 hx122_2 htk hx
  have HB := Aside0.mk (Below.refl w.heap.size w)
  obtain ⟨x1, hx1⟩ : ∃ x1, x1 = l0[i].f1 := ⟨_, rfl⟩
  rw [← hx1] at h2 HX TK
  have HX1 := Aside0.mk hx1
  clear hx1
  obtain ⟨q, hq⟩ : ∃ q, q = wrap64 (x1 - a2) := ⟨_, rfl⟩
  rw [← hq] at TK
  have HQ := Aside0.mk hq
  clear hq
  have n1 : ¬ ((i : Int) < 0) := by omega
  have n2 : ¬ (a2 < 1) := by omega
  have n3 : ¬ (x1 < a2) := by omega
  go_enter Tryd.func20, Tryd.ntmps20
  go_upto_region 5 with (first
      | ((with_reducible refine gate_dst (N := 4) rfl ?_); refine box_event ?hg (N := 4) ?hd (cs := #[.string a1]) (t := 9) ?hr ?_; (case hd => rfl); (case hg => rfl); (case hr => first | (go_simp; done) | (go_simp; rfl)); intro gb hg w1 hbox hb; have HB1 := Aside0.mk (below_step HB.out hb); have BK := Aside0.mk hbox; have HR1 := Aside0.mk (Kd.C_below HR0.out hb); clear hb hbox hg)
      | ((with_reducible refine gate_callee (f := 33) rfl ?_); refine goesL_ (some 12) rfl rfl Tryd.func33 (by kernel_rfl) rfl #[.slice (some ad122) l0.length c0, .func (.func 34) #[] #[.pointer (some ⟨gb, 0, none⟩)]] rfl (by (try simp only [List.map_toArray, List.map_cons, List.map_nil]); first | done | rfl) ?_; refine (idx_calls (some ad122) c0 l0 a1 gb _ HR1.out HC0.out BK.out).mono ?_; rintro e w2 ⟨rfl, hb⟩; refine ⟨_, rfl, ?_⟩; rw [HI.out]; have HB2 := Aside0.mk (below_step HB1.out hb); have HR2 := Aside0.mk (Kd.C_below HR1.out hb); clear hb)
      | ((with_reducible refine gate_callee (f := 14) rfl ?_); refine goesL_ (some 14) rfl rfl Tryd.func14 (by kernel_rfl) rfl #[.slice (some ad122) l0.length c0] rfl (by (try simp only [List.map_toArray, List.map_cons, List.map_nil]); first | done | rfl) ?_; refine (lines_Right.calls k (some ad122) c0 l0 true _ HR2.out HC0.out (Tabs.below HT.out HB2.out) A2.out).mono ?_; rintro e w3 ⟨rfl, hb⟩; refine ⟨_, rfl, ?_⟩; have HB3 := Aside0.mk (below_step HB2.out hb); have HR3 := Aside0.mk (Kd.C_below HR2.out hb); have hx3 := (HB3.out.cell (World.block_lt_of_cell? w _ HX.out)).trans HX.out; clear hb)
      | ((with_reducible refine gate_callee (f := 35) rfl ?_); refine goesL_ (some 34) rfl rfl Tryd.func35 (by kernel_rfl) rfl #[.slice (some ad122) l0.length c0] rfl (by (try simp only [List.map_toArray, List.map_cons, List.map_nil]); first | done | rfl) ?_; refine (clone_calls (some ad122) c0 l0 _ HR3.out HC0.out HCL.out).mono ?_; rintro e w4 ⟨v4, rfl, hR, hb⟩; refine ⟨_, rfl, ?_⟩; have HB4 := Aside0.mk (below_step HB3.out hb); have HO4 := Aside0.mk (Kd.R_lower hR HB3.out.size); clear hb hR))
  obtain ⟨hok4, inner4, ⟨hil4, hcase4⟩, hr4⟩ := HO4.out
  have k3 : k37.sz = 3 := rfl
  rw [k3] at hil4 hcase4 hr4
  have hr4' : Reps Ln 3 l0 inner4 := hr4.imp_ (fun x c h => k37_openM h)
  rcases hcase4 with ⟨_, h0⟩ | ⟨g4, cap4, cur4, rfl, hgb4, hg4, hNc4, hcm4, hsz4, htk4⟩
  · omega
  have hcap4 : cap4 ≤ 9223372036854775807 := by unfold maxLen at hcm4; omega
  have hcur4 : cur4.toList.length = cap4 * 3 := by simpa using hsz4
  obtain ⟨e0, e1, e2⟩ := reps_at hr4' i hil
  have hin4 : cur4[i * 3 + 1]? = some (.int .i64 x1) := by
    rw [← htk4, List.getElem?_take, if_pos (by omega), ← HX1.out] at e1
    rw [← e1]; simp
  have hcz4 : w4.cell? ⟨g4, i * 3 + 1, none⟩ = some (.int .i64 x1) := (blk_cell hg4 _).trans hin4
  have hfz4 := blk_frozen hg4 (i * 3 + 1)
  have hG4 := Aside0.mk hg4
  have hIN := Aside0.mk hr4'
  have hTK4 := Aside0.mk htk4
  have hGB4 := Aside0.mk hgb4
  have hSZ4 := Aside0.mk hcur4
  have hIL4 := Aside0.mk hil4
  have hCM4 := Aside0.mk hcm4
  clear hok4 hr4 hr4' hg4 htk4 hgb4 hsz4 hcur4 hil4 hcm4 e0 e1 e2 hin4 HO4 k3
  have hq1 : wrap64 (x1 - a2) = q := HQ.out.symm
  have hti : (i : Int).toNat = i := Int.toNat_natCast i
  have h5 := Aside0.mk (reps_set hIN.out i hil q)
  have hins : (cur4.toList.set (i * 3 + 1) (.int .i64 q)).take (l0.length * 3) = inner4.set (i * 3 + 1) (.int .i64 q) := by rw [List.take_set, hTK4.out]
  have hINS := Aside0.mk hins
  have hl5 : (cur4.toList.set (i * 3 + 1) (.int .i64 q)).length = cap4 * 3 := by rw [List.length_set]; exact hSZ4.out
  have hL5 := Aside0.mk hl5
  clear hins hl5
  by_cases hq0 : q = 0
  · have TK0 := Aside0.mk (TK.out.trans (if_pos hq0))
    have hq00 : (q == 0) = true := by rw [hq0]; rfl
    have hON : (l0.take i ++ l0.drop (i + 1)).length = l0.length - 1 := by simp; omega
    have hON' := Aside0.mk hON
    have w1 : wrap64 ((i : Int) + 1) = (i : Int) + 1 := by unfold wrap64; omega
    clear hON
    go_upto_region 8 with (first
      | ((with_reducible refine gate_store (x := .tmp 43) (y := .tmp 41) rfl ?_); refine Go.Proofs.YtalcopjlofbfaaaDoor.Ev.store_ev (g := g4) (off := i * 3 + 1) ?hgd 2 (.tmp 43) (.tmp 41) ?ho ?hx [.int .i64 q] ?hy 37 cur4 hG4.out ?hi ?hl ?h1 ((cur4.toList.set (i * 3 + 1) (.int .i64 q)).toArray) ?hn ?_; (case hgd => rfl); (case ho => rfl); (case hx => rfl); (case hy => exact (show _ = #[Value.int .i64 (wrap64 (x1 - a2))] from rfl).trans (by rw [hq1])); (case hi => kernel_rfl); (case hl => have := hSZ4.out; simp only [Array.length_toList] at this; simp only [List.length_singleton]; omega); (case h1 => rfl); (case hn => (have := hSZ4.out; rw [List.set_eq_take_append_cons_drop, if_pos (by omega)]; simp)); intro w5 hh5 hs5 ho5 hb5; have HB5 := Aside0.mk (hb5 _ _ hGB4.out HB4.out); have HG5 := Aside0.mk hh5; have hcz5 : w5.cell? ⟨g4, i * 3 + 1, none⟩ = some (.int .i64 q) := (blk_cell hh5 _).trans (by have := hSZ4.out; rw [List.getElem?_toArray, List.getElem?_set_self (by omega)]); have hfz5 := blk_frozen hh5 (i * 3 + 1); clear hh5 hs5 ho5 hb5)
      | ((with_reducible refine gate_callee (f := 36) rfl ?_); refine goesL_ (some 54) rfl rfl Tryd.func36 (by kernel_rfl) rfl #[.slice (some ⟨g4, 0, none⟩) l0.length cap4, .int .i64 (i : Int), .int .i64 ((i : Int) + 1)] rfl (by (try simp only [List.map_toArray, List.map_cons, List.map_nil]); first | done | rfl) ?_; refine (del_any g4 l0.length cap4 i _ _ hil hNc4 hcap4 (by have := hL5.out; simpa using this) HG5.out (by simp only [List.toList_toArray]; rw [hINS.out]; exact reps_one h5.out (fun p c h => ln_cells h))).mono ?_; rintro e w6 ⟨row, rfl, hr1, hr2, hr3⟩; refine ⟨_, rfl, ?_⟩; have HG6 := Aside0.mk (show w6.heap[g4]? = some (.cells row.toArray 37 (0, 0)) from by rw [hr3]; exact setRow_heap w5.drew g4 _ _ 37 _ HG5.out); have HB6 := Aside0.mk (show Below w.heap.size w w6 from by rw [hr3]; exact below_setRow (Below.drew HB5.out) hGB4.out _); have HR1' := Aside0.mk hr1; have HR2' := Aside0.mk hr2; clear hr1 hr2 hr3))
    have R9 : Kd.R k37 37 w6 w.heap.size (fun _ => True) (.slice (some ⟨g4, 0, none⟩) (l0.length - 1) cap4) (tak l0 i a2) := by
      rw [TK0.out]
      have hrp : Reps Ln 3 (l0.take i ++ l0.drop (i + 1)) (row.take ((l0.length - 1) * 3)) := by
        rw [HR2'.out, List.toList_toArray, hINS.out, List.take_set_of_le (by omega), List.drop_set_of_lt (by omega)]
        have : cur4.toList.take (i * 3) = inner4.take (i * 3) := by rw [← hTK4.out, List.take_take, Nat.min_eq_left (by omega)]
        rw [this]
        exact Kd.reps_append (reps_take hIN.out i (by omega)) (reps_drop hIN.out (i + 1))
      refine R_made (fun _ _ => trivial) ⟨by rw [hrp.1], .inr ⟨g4, cap4, row.toArray, by rw [hON'.out], hGB4.out, HG6.out, by rw [hON'.out]; omega, hCM4.out, by rw [List.size_toArray]; exact HR1'.out, by rw [List.toList_toArray, hON'.out]⟩⟩ hrp
    have hN9 : (tak l0 i a2).length = l0.length - 1 := by rw [TK0.out, hON'.out]
    have HR9 := Aside0.mk R9
    have hC9 : Kd.C k37 w6 (some ⟨g4, 0, none⟩) (tak l0 i a2).length (tak l0 i a2) := by
      obtain ⟨A, cc, he, _, hC⟩ := Kd.R_reads R9
      injection he with he1 _ _
      rw [he1]; exact hC
    have hle9 : (tak l0 i a2).length ≤ cap4 := by rw [hN9]; omega
    have call := Aside0.mk (lines_Right.calls k _ cap4 (tak l0 i a2) c w6 hC9 hle9 (Tabs.below HT.out HB6.out) A3.out)
    rw [hN9] at call
    clear R9 hC9 hle9 hN9
    cases c
    · go_wp2_with (first
      | ((with_reducible refine gate_callee (f := 14) rfl ?_); refine goesL_ (some 56) rfl rfl Tryd.func14 (by kernel_rfl) rfl #[.slice (some ⟨g4, 0, none⟩) (l0.length - 1) cap4] rfl (by (try simp only [List.map_toArray, List.map_cons, List.map_nil]); first | done | rfl) ?_; refine call.out.mono ?_; rintro e w10 ⟨rfl, hb⟩; refine ⟨_, rfl, ?_⟩; have HB10 := Aside0.mk (below_step HB6.out hb); clear hb))
      go_ret2
      exact ⟨.slice none 0 0, rfl, Kd.R_nil _ _ _ _ _, HB10.out⟩
    · go_wp2_with (first
      | ((with_reducible refine gate_callee (f := 14) rfl ?_); refine goesL_ (some 56) rfl rfl Tryd.func14 (by kernel_rfl) rfl #[.slice (some ⟨g4, 0, none⟩) (l0.length - 1) cap4] rfl (by (try simp only [List.map_toArray, List.map_cons, List.map_nil]); first | done | rfl) ?_; refine call.out.mono ?_; rintro e w10 ⟨rfl, hb⟩; refine ⟨_, rfl, ?_⟩; have HB10 := Aside0.mk (below_step HB6.out hb); have HR10 := Aside0.mk (Kd.R_below HR9.out hb); clear hb))
      go_ret2
      exact ⟨_, rfl, HR10.out, HB10.out⟩
  · have TK0 := Aside0.mk (TK.out.trans (if_neg hq0))
    have hq00 : (q == 0) = false := by simpa using hq0
    go_upto_region 8 with (first
      | ((with_reducible refine gate_store (x := .tmp 43) (y := .tmp 41) rfl ?_); refine Go.Proofs.YtalcopjlofbfaaaDoor.Ev.store_ev (g := g4) (off := i * 3 + 1) ?hgd 2 (.tmp 43) (.tmp 41) ?ho ?hx [.int .i64 q] ?hy 37 cur4 hG4.out ?hi ?hl ?h1 ((cur4.toList.set (i * 3 + 1) (.int .i64 q)).toArray) ?hn ?_; (case hgd => rfl); (case ho => rfl); (case hx => rfl); (case hy => exact (show _ = #[Value.int .i64 (wrap64 (x1 - a2))] from rfl).trans (by rw [hq1])); (case hi => kernel_rfl); (case hl => have := hSZ4.out; simp only [Array.length_toList] at this; simp only [List.length_singleton]; omega); (case h1 => rfl); (case hn => (have := hSZ4.out; rw [List.set_eq_take_append_cons_drop, if_pos (by omega)]; simp)); intro w5 hh5 hs5 ho5 hb5; have HB5 := Aside0.mk (hb5 _ _ hGB4.out HB4.out); have HG5 := Aside0.mk hh5; have hcz5 : w5.cell? ⟨g4, i * 3 + 1, none⟩ = some (.int .i64 q) := (blk_cell hh5 _).trans (by have := hSZ4.out; rw [List.getElem?_toArray, List.getElem?_set_self (by omega)]); have hfz5 := blk_frozen hh5 (i * 3 + 1); clear hh5 hs5 ho5 hb5))
    have R9 : Kd.R k37 37 w5 w.heap.size (fun _ => True) (.slice (some ⟨g4, 0, none⟩) l0.length cap4) (tak l0 i a2) := by
      rw [TK0.out]
      have hN : (l0.set i ⟨l0[i].f0, q, l0[i].f2⟩).length = l0.length := List.length_set ..
      refine R_made (fun _ _ => trivial) ⟨by rw [h5.out.1], .inr ⟨g4, cap4, _, by rw [hN], hGB4.out, HG5.out, by rw [hN]; exact hNc4, hCM4.out, by have := hL5.out; simpa using this, by rw [hN, List.toList_toArray, hINS.out]⟩⟩ h5.out
    have hN9 : (tak l0 i a2).length = l0.length := by rw [TK0.out]; exact List.length_set ..
    have HR9 := Aside0.mk R9
    have hC9 : Kd.C k37 w5 (some ⟨g4, 0, none⟩) (tak l0 i a2).length (tak l0 i a2) := by
      obtain ⟨A, cc, he, _, hC⟩ := Kd.R_reads R9
      injection he with he1 _ _
      rw [he1]; exact hC
    have hle9 : (tak l0 i a2).length ≤ cap4 := by rw [hN9]; omega
    have call := Aside0.mk (lines_Right.calls k _ cap4 (tak l0 i a2) c w5 hC9 hle9 (Tabs.below HT.out HB5.out) A3.out)
    rw [hN9] at call
    clear R9 hC9 hle9 hN9
    cases c
    · go_wp2_with (first
      | ((with_reducible refine gate_callee (f := 14) rfl ?_); refine goesL_ (some 56) rfl rfl Tryd.func14 (by kernel_rfl) rfl #[.slice (some ⟨g4, 0, none⟩) l0.length cap4] rfl (by (try simp only [List.map_toArray, List.map_cons, List.map_nil]); first | done | rfl) ?_; refine call.out.mono ?_; rintro e w10 ⟨rfl, hb⟩; refine ⟨_, rfl, ?_⟩; have HB10 := Aside0.mk (below_step HB5.out hb); clear hb))
      go_ret2
      exact ⟨.slice none 0 0, rfl, Kd.R_nil _ _ _ _ _, HB10.out⟩
    · go_wp2_with (first
      | ((with_reducible refine gate_callee (f := 14) rfl ?_); refine goesL_ (some 56) rfl rfl Tryd.func14 (by kernel_rfl) rfl #[.slice (some ⟨g4, 0, none⟩) l0.length cap4] rfl (by (try simp only [List.map_toArray, List.map_cons, List.map_nil]); first | done | rfl) ?_; refine call.out.mono ?_; rintro e w10 ⟨rfl, hb⟩; refine ⟨_, rfl, ?_⟩; have HB10 := Aside0.mk (below_step HB5.out hb); have HR10 := Aside0.mk (Kd.R_below HR9.out hb); clear hb))
      go_ret2
      exact ⟨_, rfl, HR10.out, HB10.out⟩
theorem lines_Take.calls (k : Nat) (A0 : Option Addr) (c0 : Nat) (l0 : List (S37)) (a1 : ByteArray) (a2 : Int) (r1 : List (S37)) (r2 : Int) (w : World) (hr0 : Kd.C k37 w A0 l0.length l0) (hc0 : l0.length ≤ c0) (hT : Tabs w) (h : lines_Take.f k l0 a1 a2 = some (r1, r2)) :
    Calls Tryd.prog 20 #[.slice A0 l0.length c0, .string a1, .int .i64 a2] w fun e w' => ∃ v0_ : Value, e = .returned (.tuple #[v0_, .int .i64 r2]) ∧ Kd.R k37 37 w' w.heap.size (fun _ => True) v0_ r1 ∧ Below w.heap.size w w' := by
  unfold lines_Take.f at h
  obtain ⟨b, hb, h⟩ := Option.bind_eq_some_iff.mp h
  by_cases c : b = true ∧ 0 ≤ idxS a1 l0 0 ∧ 1 ≤ a2 ∧ a2 ≤ (rd_T37 l0 (idxS a1 l0 0)).f1
  · rw [if_pos c] at h
    by_cases hl : l0.length < 4398046511104
    · rw [if_pos hl] at h
      obtain ⟨d, hd, h⟩ := Option.bind_eq_some_iff.mp h
      obtain ⟨rfl, h1, h2, h3⟩ := c
      obtain ⟨i, hi⟩ := Int.eq_ofNat_of_zero_le h1
      have rng := idxS_rng a1 l0 0
      have hil : i < l0.length := by omega
      rw [hi] at h3 hd h
      rw [Int.toNat_natCast] at hd h
      have k1 := take_yes k A0 c0 l0 a1 a2 i d w hr0 hc0 hT hb hi hil h2 h3 hl hd
      have e : r1 = (if d = true then tak l0 i a2 else []) ∧ r2 = (if d = true then 0 else 41) := by
        cases d
        · rw [if_neg (by decide)] at h ⊢; rw [if_neg (by decide)]; injection h with h; injection h with h5 h6; exact ⟨h5.symm, h6.symm⟩
        · rw [if_pos rfl] at h ⊢; rw [if_pos rfl]; injection h with h; injection h with h5 h6; exact ⟨h5.symm, h6.symm⟩
      rw [e.1, e.2]; exact k1
    · rw [if_neg hl] at h; cases h
  · rw [if_neg c] at h
    injection h with h
    injection h with h5 h6
    subst h5; subst h6
    exact take_no k A0 c0 l0 a1 a2 b w hr0 hc0 hT hb c
end Go.Proofs.YtalcopjlofbfaaaDoor.PAll
