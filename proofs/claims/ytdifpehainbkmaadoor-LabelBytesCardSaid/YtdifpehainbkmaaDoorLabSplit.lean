/- Layer 01 (label): what label.Split, label.Join and the reference's answer: the same, plain. -/
import Derived.Test.YtdifpehainbkmaaDoorLabEq
import Derived.Lib.Split
import Derived.Lib.Join
set_option linter.unusedVariables false
namespace Go.Proofs.YtdifpehainbkmaaDoor.Pure
open Go.RowKit Go.Proofs.YtdifpehainbkmaaDoor Go.Proofs.YtdifpehainbkmaaDoor.PAll Go.Proofs.YtdifpehainbkmaaDoorW.PrintWords Go.Proofs.YtdifpehainbkmaaDoorW.PrintLast Go.Proofs.YtdifpehainbkmaaDoorW.PrintMore

/-- Bytes of a list. -/
def mk (l : List UInt8) : ByteArray := ⟨l.toArray⟩
theorem mk_append (a b : List UInt8) : mk a ++ mk b = mk (a ++ b) := by
  apply ByteArray.ext; simp [mk]
theorem mk_list (s : ByteArray) : mk s.data.toList = s := by
  apply ByteArray.ext; simp [mk]
theorem mk_size (l : List UInt8) : (mk l).size = l.length := by
  show l.toArray.size = _; simp
theorem len_size (s : ByteArray) : s.data.toList.length = s.size := by rw [Array.length_toList]; rfl
theorem get_list (s : ByteArray) (i : Nat) (h : i < s.size) : s.data.toList[i]'(by rw [len_size]; exact h) = s.get! i := by
  show _ = s.data[i]!
  rw [getElem!_pos s.data i h, Array.getElem_toList]
theorem ext_list (s : ByteArray) (a w : Nat) : (s.extract a (a + w)).data.toList = (s.data.toList.drop a).take w := by
  rw [Lib.extract_data]
  simp

/-! pieces between blanks -/
def spl : List UInt8 → List UInt8 → List (List UInt8)
  | w, [] => [w]
  | w, c :: l => if c = 32 then w :: spl [] l else spl (w ++ [c]) l
theorem spl_none : ∀ (l w : List UInt8), (32 : UInt8) ∉ l → spl w l = [w ++ l] := by
  intro l
  induction l with
  | nil => intro w _; rw [spl, List.append_nil]
  | cons c l ih =>
    intro w h
    rw [spl, if_neg (fun e => h (by rw [e]; exact List.mem_cons_self)), ih _ (fun q => h (List.mem_cons_of_mem _ q)), List.append_assoc]; rfl
theorem spl_hit : ∀ (p q w : List UInt8), (32 : UInt8) ∉ p → spl w (p ++ 32 :: q) = (w ++ p) :: spl [] q := by
  intro p
  induction p with
  | nil => intro q w _; rw [List.nil_append, spl, if_pos rfl, List.append_nil]
  | cons c p ih =>
    intro q w h
    rw [List.cons_append, spl, if_neg (fun e => h (by rw [e]; exact List.mem_cons_self)), ih _ _ (fun q => h (List.mem_cons_of_mem _ q)), List.append_assoc]; rfl
theorem spl_len : ∀ (l w x : List UInt8), x ∈ spl w l → x.length ≤ w.length + l.length := by
  intro l
  induction l with
  | nil => intro w x h; rw [spl, List.mem_singleton] at h; rw [h]; omega
  | cons c l ih =>
    intro w x h
    rw [spl] at h
    split at h
    · rcases List.mem_cons.1 h with q | q
      · rw [q]; omega
      · have := ih _ _ q; simp only [List.length_nil, List.length_cons] at *; omega
    · have := ih _ _ h; simp only [List.length_append, List.length_nil, List.length_cons] at *; omega
theorem spl_many : ∀ (l w : List UInt8), (spl w l).length ≤ l.length + 1 := by
  intro l
  induction l with
  | nil => intro w; rw [spl]; simp
  | cons c l ih =>
    intro w
    rw [spl]
    split
    · have := ih []; simp only [List.length_cons]; omega
    · have := ih (w ++ [c]); simp only [List.length_cons]; omega

theorem index_none_ (l : List UInt8) (h : (32 : UInt8) ∉ l) : Lib.index l [32] = -1 := by
  refine Lib.index_none (fun j _ => ?_)
  cases q : Lib.occAt l [32] j with
  | false => rfl
  | true => exact absurd (List.mem_of_getElem? (Lib.occAt_head rfl q)) h
theorem index_hit_ (p q : List UInt8) (h : (32 : UInt8) ∉ p) : Lib.index (p ++ 32 :: q) [32] = p.length := by
  refine Lib.index_first (by rw [List.length_append]; omega) ?_ (fun j hj => ?_)
  · unfold Lib.occAt
    rw [List.drop_left' rfl]; rfl
  · cases e : Lib.occAt (p ++ 32 :: q) [32] j with
    | false => rfl
    | true =>
      have := Lib.occAt_head rfl e
      rw [List.getElem?_append_left hj] at this
      exact absurd (List.mem_of_getElem? this) h
theorem splitK_spl : ∀ (n : Nat) (l : List UInt8), l.length ≤ n → Lib.splitK [32] 0 (Lib.count l [32]) l = spl [] l := by
  intro n
  induction n with
  | zero =>
    intro l h
    have : l = [] := List.length_eq_zero_iff.1 (by omega)
    subst this
    rfl
  | succ n ih =>
    intro l h
    by_cases c : (32 : UInt8) ∈ l
    · obtain ⟨p, q, rfl, hp⟩ := List.eq_append_cons_of_mem c
      have hi := index_hit_ p q hp
      have hd : (p ++ 32 :: q).drop (p.length + [(32 : UInt8)].length) = q := by
        rw [List.drop_append]; simp
      rw [Lib.count_hit (by decide) hi, hd, Nat.add_comm 1, Lib.splitK, hi, if_neg (by rw [beq_iff_eq]; omega), Int.toNat_natCast, hd, Nat.add_zero, List.take_left' rfl, spl_hit p q [] hp, ih q (by rw [List.length_append, List.length_cons] at h; omega)]
      rfl
    · have hi := index_none_ l c
      rw [Lib.count_miss hi, Lib.splitK, spl_none l [] c]; rfl
theorem split_spl (s : ByteArray) : Lib.splitB ⟨#[32]⟩ 0 (Lib.countB s ⟨#[32]⟩) s = (spl [] s.data.toList).map mk := by
  have h := Lib.splitB_data ⟨#[32]⟩ 0 (Lib.countB s ⟨#[32]⟩) s
  have e : Lib.splitK [32] 0 (Lib.countB s ⟨#[32]⟩) s.data.toList = spl [] s.data.toList := splitK_spl _ _ (Nat.le_refl _)
  have h2 : (Lib.splitB ⟨#[32]⟩ 0 (Lib.countB s ⟨#[32]⟩) s).map (·.data.toList) = spl [] s.data.toList := h.trans e
  rw [← h2, List.map_map]
  conv => lhs; rw [← List.map_id (Lib.splitB ⟨#[32]⟩ 0 (Lib.countB s ⟨#[32]⟩) s)]
  exact List.map_congr_left fun x _ => (mk_list x).symm

/-- What is answered: the pieces, if all are labels. -/
def chk (out : List ByteArray) (l : List ByteArray) : List ByteArray × Int := if l.all lab = true then (out ++ l, 0) else ([], 11)
def spS (s : ByteArray) : List ByteArray × Int := if s.data.toList = [] then ([], 0) else chk [] ((spl [] s.data.toList).map mk)
theorem chk_yes (out : List ByteArray) (x : ByteArray) (l : List ByteArray) (h : lab x = true) : chk out (x :: l) = chk (out ++ [x]) l := by
  unfold chk
  rw [List.all_cons, h, Bool.true_and, List.append_assoc]; rfl
theorem chk_no (out : List ByteArray) (x : ByteArray) (l : List ByteArray) (h : ¬ lab x = true) : chk out (x :: l) = ([], 11) := by
  unfold chk
  rw [if_neg]
  rw [List.all_cons, Bool.not_eq_true _ |>.mp h, Bool.false_and]; decide

theorem rdOf_get (l : List ByteArray) (i : Nat) (h : i < l.length) : rdOf ByteArray.empty l (i : Int) = l[i] := by
  unfold rdOf
  rw [Int.toNat_natCast, List.getD_eq_getElem?_getD, List.getElem?_eq_getElem h]; rfl

theorem split_l (x4 l : List ByteArray) (hl : l.length ≤ 4294967296) (hs : ∀ x ∈ l, x.size ≤ 4294967296) : ∀ (g i : Nat), l.length = i + g →
    Ev (fun k => label_Split.l0 k x4 l (l.length : Int) (i : Int)) (if (l.drop i).all lab = true then (x4, 0) else ([], 11)) := by
  intro g
  induction g with
  | zero =>
    intro i h
    rw [List.drop_of_length_le (by omega), List.all_nil, if_pos rfl]
    refine Ev.step (f := fun _ => some (x4, 0)) (fun k => ?_) (Ev.now _)
    rw [label_Split.l0, if_neg (by omega)]
  | succ g ih =>
    intro i h
    have hi : i < l.length := by omega
    have := hs _ (List.getElem_mem hi)
    refine Ev.step (fun k => rfl) (Ev.ifp (by omega) (Ev.ifp (by omega) (Ev.ifp (by omega) ?_)))
    rw [rdOf_get l i hi, w64 (by omega) (by omega), List.drop_eq_getElem_cons hi, List.all_cons]
    refine Ev.bindc (right_eq _ (by omega)) ?_
    by_cases c : lab l[i] = true
    · refine Ev.ifp c ?_
      rw [c, Bool.true_and]
      exact ih (i + 1) (by omega)
    · refine Ev.ifn c ?_
      rw [Bool.not_eq_true _ |>.mp c, Bool.false_and]
      exact Ev.now _
theorem split_eq (s : ByteArray) (h : s.size ≤ 100000) : Ev (fun k => label_Split.f k s) (spS s) := by
  unfold label_Split.f spS
  by_cases c : s.data.toList = []
  · rw [if_pos c]
    exact Ev.ifp (by rw [Lib.toList_data]; exact c) (Ev.now _)
  · rw [if_neg c]
    refine Ev.ifn (by rw [Lib.toList_data]; exact c) ?_
    have e : strings_Split.f s ⟨#[32]⟩ = some ((spl [] s.data.toList).map mk) := by
      unfold strings_Split.f
      rw [if_pos ⟨by omega, by decide⟩, split_spl]
    refine Ev.bindc e ?_
    have hn := spl_many s.data.toList []
    have hl := len_size s
    have key := split_l ((spl [] s.data.toList).map mk) ((spl [] s.data.toList).map mk) (by rw [List.length_map]; omega) (fun x hx => by
      obtain ⟨y, hy, rfl⟩ := List.mem_map.1 hx
      have := spl_len _ _ _ hy
      rw [mk_size]; simp only [List.length_nil] at this; omega) _ 0 (Nat.zero_add _).symm
    rw [List.drop_zero] at key
    exact key

theorem rsplit_l (s : ByteArray) (h : s.size ≤ 100000) : ∀ (g i : Nat) (out : List ByteArray) (w : List UInt8), s.size = i + g → out.length ≤ i → w.length ≤ i →
    Ev (fun k => packhorseref01_Split.l0 k s out (mk w) (i : Int)) (chk out ((spl w (s.data.toList.drop i)).map mk)) := by
  have hl := len_size s
  intro g
  induction g with
  | zero =>
    intro i out w hi ho hw
    rw [List.drop_of_length_le (by omega), spl, List.map_cons, List.map_nil]
    refine Ev.step (fun k => rfl) (Ev.ifp (by omega) (Ev.ifn (by omega) ?_))
    refine Ev.step (fun k => by rw [packhorseref01_Split.j1, if_neg (by decide)]) ?_
    refine Ev.bind (right_ref (mk w) (by rw [mk_size]; omega)) ?_
    by_cases c : lab (mk w) = true
    · rw [chk_yes out (mk w) [] c]
      refine Ev.ifp c (Ev.ifp (by omega) ?_)
      refine Ev.step (f := fun _ => some (out ++ [mk w], 0)) (fun k => ?_) ?_
      · rw [packhorseref01_Split.l0, w64 (by omega) (by omega), if_neg (by omega)]
      · have : chk (out ++ [mk w]) [] = (out ++ [mk w], 0) := by
          unfold chk; rw [List.append_nil]; rfl
        rw [this]; exact Ev.now _
    · rw [chk_no out (mk w) [] c]
      exact Ev.ifn c (Ev.now _)
  | succ g ih =>
    intro i out w hi ho hw
    have hlt : i < s.data.toList.length := by omega
    have hg := get_list s i (by omega)
    rw [List.drop_eq_getElem_cons hlt, spl]
    refine Ev.step (fun k => rfl) (Ev.ifp (by omega) (Ev.ifp (by omega) (Ev.ifp (by omega) ?_)))
    rw [bt_eq s i (by omega), hg]
    by_cases c : s.get! i = 32
    · rw [if_pos c, c, List.map_cons]
      refine Ev.step (fun k => by rw [packhorseref01_Split.j1, if_neg (by decide)]) ?_
      refine Ev.bind (right_ref (mk w) (by rw [mk_size]; omega)) ?_
      by_cases d : lab (mk w) = true
      · rw [chk_yes _ _ _ d]
        refine Ev.ifp d (Ev.ifp (by omega) ?_)
        rw [w64 (by omega) (by omega)]
        exact ih (i + 1) (out ++ [mk w]) [] (by omega) (by rw [List.length_append]; simp only [List.length_cons, List.length_nil]; omega) (by simp)
      · rw [chk_no _ _ _ d]
        exact Ev.ifn d (Ev.now _)
    · rw [if_neg c]
      have hb : ((((s.get! i).toNat : Nat) : Int) != 32) = true := by
        refine bne_iff_ne.2 (fun q => c ?_)
        apply UInt8.toNat_inj.1
        show _ = 32
        omega
      rw [hb]
      have e1 : wrap64 ((i : Int) + 1) = ((i + 1 : Nat) : Int) := by rw [w64 (by omega) (by omega)]; omega
      have e2 : s.extract i (i + 1) = mk [s.get! i] := by
        rw [← mk_list (s.extract i (i + 1)), ext_list, List.drop_eq_getElem_cons hlt, hg]; rfl
      refine Ev.step (fun k => by rw [packhorseref01_Split.j1, if_pos rfl]) ?_
      rw [e1, Int.toNat_natCast, Int.toNat_natCast, e2, mk_append, mk_size, mk_size]
      refine Ev.ifp (by omega) (Ev.ifp (by omega) (Ev.ifp (by omega) (Ev.ifp (by simp only [List.length_cons, List.length_nil]; omega) ?_)))
      exact ih (i + 1) out (w ++ [s.get! i]) (by omega) (by omega) (by rw [List.length_append]; simp only [List.length_cons, List.length_nil]; omega)
theorem split_ref (s : ByteArray) (h : s.size ≤ 100000) : Ev (fun k => packhorseref01_Split.f k s) (spS s) := by
  unfold packhorseref01_Split.f spS
  refine Ev.bindc rfl ?_
  by_cases c : s.data.toList = []
  · rw [if_pos c]
    exact Ev.ifp (by rw [Lib.toList_data]; exact c) (Ev.now _)
  · rw [if_neg c]
    refine Ev.ifn (by rw [Lib.toList_data]; exact c) ?_
    have := rsplit_l s h s.size 0 [] [] (by omega) (by simp) (by simp)
    rw [List.drop_zero] at this
    exact this

theorem same_l (a : List ByteArray) (ha : a.length ≤ 4294967296) : ∀ (g i : Nat), a.length = i + g → Ev (fun k => packhorseref01_Same.l0 k a a (a.length : Int) (i : Int)) true := by
  intro g
  induction g with
  | zero =>
    intro i h
    refine Ev.step (f := fun _ => some true) (fun k => ?_) (Ev.now _)
    rw [packhorseref01_Same.l0, if_neg (by omega)]
  | succ g ih =>
    intro i h
    refine Ev.step (fun k => rfl) (Ev.ifp (by omega) (Ev.ifp (by omega) (Ev.ifp (by omega) (Ev.ifp (by omega) (Ev.ifp rfl ?_)))))
    rw [w64 (by omega) (by omega)]
    exact ih (i + 1) (by omega)
theorem same_refl (a : List ByteArray) (ha : a.length ≤ 4294967296) : Ev (fun k => packhorseref01_Same.f k a a) true :=
  Ev.ifp rfl (same_l a ha a.length 0 (by omega))

/-! Join -/
def jn (l : List ByteArray) : List UInt8 := Lib.join (l.map (·.data.toList)) [32]
theorem jn_snoc (l : List ByteArray) (y : ByteArray) : jn (l ++ [y]) = if l = [] then y.data.toList else jn l ++ [32] ++ y.data.toList := by
  unfold jn
  cases l with
  | nil => rw [if_pos rfl]; exact Lib.join_one _ _
  | cons x r =>
    rw [if_neg (by simp), List.cons_append, List.map_cons, List.map_cons, Lib.join_cons, Lib.join_cons, List.map_append]
    unfold Lib.joinTail
    simp
theorem jn_cons (x y : ByteArray) (r : List ByteArray) : jn (x :: y :: r) = x.data.toList ++ 32 :: jn (y :: r) := by
  unfold jn
  rw [List.map_cons, List.map_cons, Lib.join_cons, Lib.join_cons]
  unfold Lib.joinTail
  simp
theorem jn_one (x : ByteArray) : jn [x] = x.data.toList := Lib.join_one _ _
theorem jn_len (l : List ByteArray) (n : Nat) (h : ∀ x ∈ l, x.size ≤ n) : (jn l).length ≤ l.length * (n + 1) := by
  induction l with
  | nil => exact Nat.zero_le _
  | cons x r ih =>
    have hx := h x List.mem_cons_self
    have ih := ih (fun y hy => h y (List.mem_cons_of_mem _ hy))
    cases r with
    | nil => rw [jn_one, len_size]; simp only [List.length_cons, List.length_nil]; omega
    | cons y r =>
      rw [jn_cons, List.length_append, List.length_cons, len_size]
      rw [List.length_cons, Nat.succ_mul]
      omega
theorem spl_jn (l : List ByteArray) (hne : l ≠ []) (h : ∀ x ∈ l, (32 : UInt8) ∉ x.data.toList) : (spl [] (jn l)).map mk = l := by
  induction l with
  | nil => exact absurd rfl hne
  | cons x r ih =>
    have hx := h x List.mem_cons_self
    cases r with
    | nil => rw [jn_one, spl_none _ _ hx, List.map_cons, List.nil_append, mk_list]; rfl
    | cons y r => rw [jn_cons, spl_hit _ _ _ hx, List.map_cons, List.nil_append, mk_list, ih (by simp) (fun z hz => h z (List.mem_cons_of_mem _ hz))]

theorem join_eq (l : List ByteArray) (h : l.length ≤ 1000) (hs : ∀ x ∈ l, x.size ≤ 1000) : label_Join.f l = some (mk (jn l)) := by
  have hj := jn_len l 1000 hs
  have h2 : (jn l).length ≤ 140737488355328 := Nat.le_trans hj (Nat.le_trans (Nat.mul_le_mul_right _ h) (by decide))
  unfold label_Join.f strings_Join.f
  have e : l.length ≤ 140737488355328 ∧ (Lib.join (l.map (·.data.toList)) (⟨#[32]⟩ : ByteArray).data.toList).length ≤ 140737488355328 := ⟨by omega, h2⟩
  rw [if_pos e]; rfl

theorem rjoin_l (l : List ByteArray) (h : l.length ≤ 1000) (hs : ∀ x ∈ l, x.size ≤ 1000) : ∀ (g i : Nat), l.length = i + g →
    Ev (fun k => packhorseref01_Join.l0 k (mk (jn (l.take i))) l (l.length : Int) (i : Int)) (mk (jn l)) := by
  intro g
  induction g with
  | zero =>
    intro i hi
    rw [List.take_of_length_le (by omega)]
    refine Ev.step (f := fun _ => some (mk (jn l))) (fun k => ?_) (Ev.now _)
    rw [packhorseref01_Join.l0, if_neg (by omega)]
  | succ g ih =>
    intro i hi
    have hlt : i < l.length := by omega
    have hx := hs _ (List.getElem_mem hlt)
    have hj := jn_len (l.take i) 1000 (fun x hx => hs x (List.mem_of_mem_take hx))
    have hj2 : (jn (l.take i)).length ≤ 1000 * 1001 := Nat.le_trans hj (Nat.mul_le_mul_right _ (by rw [List.length_take]; omega))
    have key := ih (i + 1) (by omega)
    rw [List.take_succ_eq_append_getElem hlt, jn_snoc] at key
    refine Ev.step (fun k => rfl) (Ev.ifp (by omega) (Ev.ifp (by omega) (Ev.ifp (by omega) ?_)))
    rw [rdOf_get l i hlt, w64 (by omega) (by omega)]
    by_cases c : i = 0
    · subst c
      refine Ev.ifn (by omega) (Ev.ifp (by rw [mk_size]; omega) ?_)
      rw [List.take_zero, if_pos rfl] at key
      have e : mk (jn (l.take 0)) ++ l[0] = mk l[0].data.toList := by
        conv => lhs; rw [← mk_list l[0]]
        rw [mk_append]; rfl
      rw [e]
      exact key
    · refine Ev.ifp (by omega) ?_
      have hne : l.take i ≠ [] := by
        intro q
        have := congrArg List.length q
        rw [List.length_take, List.length_nil] at this; omega
      rw [if_neg hne] at key
      have e1 : mk (jn (l.take i)) ++ (⟨#[32]⟩ : ByteArray) = mk (jn (l.take i) ++ [32]) := by rw [← mk_append]; rfl
      rw [e1, mk_size, mk_size]
      refine Ev.ifp (by omega) (Ev.ifp (by rw [List.length_append]; simp only [List.length_cons, List.length_nil]; omega) ?_)
      have e2 : mk (jn (l.take i) ++ [32]) ++ l[i] = mk (jn (l.take i) ++ [32] ++ l[i].data.toList) := by
        conv => lhs; rw [← mk_list l[i]]
        rw [mk_append]
      rw [e2]
      exact key
theorem join_ref (l : List ByteArray) (h : l.length ≤ 1000) (hs : ∀ x ∈ l, x.size ≤ 1000) : Ev (fun k => packhorseref01_Join.f k l) (mk (jn l)) := by
  have := rjoin_l l h hs l.length 0 (by omega)
  rw [List.take_zero] at this
  exact this

/-! a label has no blank; a sign has one byte or two -/
def rl (s : ByteArray) : List ByteArray := Lab.rlist s s.size 0 []
theorem signs_rl (s : ByteArray) : Lab.signs s = if (rl s).length = 0 then -1 else ((rl s).length : Int) := Lab.rlist_signs s
theorem lab_rl (s : ByteArray) (h : lab s = true) : rl s ≠ [] := by
  unfold lab at h
  rw [decide_eq_true_eq, signs_rl] at h
  intro e
  rw [e] at h
  exact absurd h (by decide)
theorem sign_blank (s : ByteArray) (p : Nat) (h : 0 < (Lab.sign s p).1) : ∀ j, p ≤ j → j < p + (Lab.sign s p).1 → s.get! j ≠ 32 := by
  intro j h1 h2 e
  have e32 : ∀ x : UInt8, x = 32 → x.toNat = 32 := fun x q => by rw [q]; rfl
  unfold Lab.sign at h h2
  by_cases c1 : 97 ≤ (s.get! p).toNat ∧ (s.get! p).toNat ≤ 122
  · rw [if_pos c1] at h2
    obtain rfl : j = p := by simp only at h2; omega
    have := e32 _ e; omega
  rw [if_neg c1] at h h2
  by_cases c2 : (48 ≤ (s.get! p).toNat ∧ (s.get! p).toNat ≤ 57) ∨ (s.get! p).toNat = 45
  · rw [if_pos c2] at h2
    obtain rfl : j = p := by simp only at h2; omega
    have := e32 _ e; omega
  rw [if_neg c2] at h h2
  by_cases c3 : s.size ≤ p + 1
  · rw [if_pos c3] at h; exact absurd h (by decide)
  rw [if_neg c3] at h h2
  by_cases c4 : ((s.get! p).toNat = 206 ∧ 177 ≤ (s.get! (p + 1)).toNat ∧ (s.get! (p + 1)).toNat ≤ 191) ∨ ((s.get! p).toNat = 207 ∧ 128 ≤ (s.get! (p + 1)).toNat ∧ (s.get! (p + 1)).toNat ≤ 137)
  · rw [if_pos c4] at h2
    have := e32 _ e
    have hj : j = p ∨ j = p + 1 := by simp only at h2; omega
    rcases hj with rfl | rfl <;> omega
  · rw [if_neg c4] at h; exact absurd h (by decide)
theorem rlist_all (s : ByteArray) : ∀ (g pos : Nat) (out : List ByteArray), s.size ≤ pos + g → pos ≤ s.size → out.length ≤ pos → pos ≤ 2 * out.length → Lab.rlist s g pos out ≠ [] →
    (∀ j, pos ≤ j → j < s.size → s.get! j ≠ 32) ∧ (Lab.rlist s g pos out).length ≤ s.size ∧ s.size ≤ 2 * (Lab.rlist s g pos out).length := by
  intro g
  induction g with
  | zero =>
    intro pos out h hp h1 h2 _
    rw [Lab.rlist_end s 0 pos out (by omega)]
    exact ⟨fun j q1 q2 => by omega, by omega, by omega⟩
  | succ g ih =>
    intro pos out h hp h1 h2 hne
    by_cases c : pos < s.size
    · rw [Lab.rlist, if_pos c] at hne ⊢
      by_cases d : (Lab.sign s pos).1 = 0 ∨ (out.length = 0 ∧ (Lab.sign s pos).2 = false) ∨ out.length = 16
      · rw [if_pos d] at hne; exact absurd rfl hne
      · rw [if_neg d] at hne ⊢
        have h0 : 0 < (Lab.sign s pos).1 := by omega
        have hf := ((Lab.decode_sign s pos c).2.2 h0).2.1
        have hw : (Lab.sign s pos).1 ≤ 2 := by rcases Lab.sign_cases s pos with q | q | q | q <;> rw [q] <;> simp
        obtain ⟨k1, k2, k3⟩ := ih _ _ (by omega) hf (by rw [List.length_append]; simp only [List.length_cons, List.length_nil]; omega) (by rw [List.length_append]; simp only [List.length_cons, List.length_nil]; omega) hne
        refine ⟨fun j q1 q2 => ?_, k2, k3⟩
        by_cases q3 : j < pos + (Lab.sign s pos).1
        · exact sign_blank s pos h0 j q1 q3
        · exact k1 j (by omega) q2
    · rw [Lab.rlist_end s _ pos out c] at hne ⊢
      exact ⟨fun j q1 q2 => by omega, by omega, by omega⟩
theorem lab_facts (s : ByteArray) (h : lab s = true) : (32 : UInt8) ∉ s.data.toList ∧ Lab.signs s = ((rl s).length : Int) ∧ (rl s).length ≤ s.size ∧ s.size ≤ 2 * (rl s).length ∧ 0 < (rl s).length ∧ (rl s).length ≤ 16 := by
  have hne := lab_rl s h
  obtain ⟨k1, k2, k3⟩ := rlist_all s s.size 0 [] (by omega) (by omega) (by simp) (by simp) hne
  have hl := List.length_pos_iff.2 hne
  refine ⟨fun q => ?_, by rw [signs_rl, if_neg (by omega)], k2, k3, hl, ?_⟩
  · obtain ⟨j, hj, e⟩ := List.getElem_of_mem q
    rw [len_size] at hj
    refine k1 j (Nat.zero_le _) hj ?_
    rw [← get_list s j hj]; exact e
  · have e1 := Lab.signs_eq s
    rw [signs_rl, if_neg (by omega)] at e1
    split at e1 <;> omega
end Go.Proofs.YtdifpehainbkmaaDoor.Pure
