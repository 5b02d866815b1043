/- Layer 01 (label): what label.Next and the reference's Next answer: the same, plain. -/
import Derived.Test.YtdifpehainbkmaaDoorLabEq
import Derived.Lib.SlTrimSet
import Derived.Lib.Repeat
set_option linter.unusedVariables false
namespace Go.Proofs.YtdifpehainbkmaaDoor.Pure
open Go.RowKit Go.Proofs.YtdifpehainbkmaaDoor Go.Proofs.YtdifpehainbkmaaDoor.PAll Go.Proofs.YtdifpehainbkmaaDoorW.PrintWords Go.Proofs.YtdifpehainbkmaaDoorW.PrintLast Go.Proofs.YtdifpehainbkmaaDoorW.PrintMore

theorem O.b {α β : Type} {o : Option α} {f : α → Option β} {a : α} {r : Option β} (h : o = some a) (k : f a = r) : o.bind f = r := by subst h; exact k
theorem O.p {α : Type} {c : Prop} [Decidable c] {x y r : Option α} (h : c) (k : x = r) : (if c then x else y) = r := by rw [if_pos h]; exact k
theorem O.n {α : Type} {c : Prop} [Decidable c] {x y r : Option α} (h : ¬c) (k : y = r) : (if c then x else y) = r := by rw [if_neg h]; exact k

/-- Bytes of a list. -/
def mk (l : List UInt8) : ByteArray := ⟨l.toArray⟩
theorem mk_append (a b : List UInt8) : mk a ++ mk b = mk (a ++ b) := by
  apply ByteArray.ext; simp [mk]
theorem mk_list (s : ByteArray) : mk s.data.toList = s := by
  apply ByteArray.ext; simp [mk]
theorem mk_size (l : List UInt8) : (mk l).size = l.length := by
  show l.toArray.size = _; simp
theorem mk_extract (l : List UInt8) (n : Nat) : (mk l).extract 0 n = mk (l.take n) := by
  apply ByteArray.ext; simp [mk]
theorem len_size (s : ByteArray) : s.data.toList.length = s.size := by rw [Array.length_toList]; rfl

/-- A digit. -/
def dig (b : UInt8) : Bool := decide (48 ≤ b.toNat) && decide (b.toNat ≤ 57)
theorem byte_all {p : UInt8 → Prop} (h : ∀ n : Fin 256, p (UInt8.ofNat n.val)) (b : UInt8) : p b := by
  have := h ⟨b.toNat, UInt8.toNat_lt b⟩
  rwa [UInt8.ofNat_toNat] at this
theorem digs (b : UInt8) : (⟨#[48, 49, 50, 51, 52, 53, 54, 55, 56, 57]⟩ : ByteArray).data.toList.contains b = dig b :=
  byte_all (p := fun b => (⟨#[48, 49, 50, 51, 52, 53, 54, 55, 56, 57]⟩ : ByteArray).data.toList.contains b = dig b) (by decide +kernel) b
theorem nine (b : UInt8) : (⟨#[57]⟩ : ByteArray).data.toList.contains b = (b == 57) :=
  byte_all (p := fun b => (⟨#[57]⟩ : ByteArray).data.toList.contains b = (b == 57)) (by decide +kernel) b

/-- The digits at the end, the last one first; the nines among them, as many as stand at the end. -/
def tl (l : List UInt8) : List UInt8 := l.reverse.takeWhile dig
def hd (l : List UInt8) : List UInt8 := (l.reverse.dropWhile dig).reverse
def n9 (l : List UInt8) : Nat := (l.reverse.takeWhile (· == 57)).length
def nextL (l : List UInt8) : List UInt8 :=
  if tl l = [] then l ++ [48] else
  match (tl l).drop (n9 l) with
  | [] => hd l ++ 49 :: List.replicate (tl l).length 48
  | x :: xs => hd l ++ (xs.reverse ++ (x + 1) :: List.replicate (n9 l) 48)

theorem split_ (r : List UInt8) : r.takeWhile dig = List.replicate (r.takeWhile (· == 57)).length 57 ++ (r.takeWhile dig).drop (r.takeWhile (· == 57)).length ∧ (∀ x xs, (r.takeWhile dig).drop (r.takeWhile (· == 57)).length = x :: xs → x ≠ 57) := by
  induction r with
  | nil => simp
  | cons y r ih =>
    by_cases h : y = 57
    · subst h
      have d57 : dig 57 = true := by decide
      simp only [List.takeWhile_cons, d57, beq_self_eq_true, if_true, List.length_cons, List.replicate_succ, List.cons_append, List.drop_succ_cons]
      exact ⟨by rw [← ih.1], ih.2⟩
    · have hb : (y == 57) = false := beq_eq_false_iff_ne.2 h
      simp only [List.takeWhile_cons, hb, Bool.false_eq_true, if_false, List.length_nil, List.replicate_zero, List.nil_append, List.drop_zero, true_and]
      intro x xs hx
      by_cases hd : dig y = true
      · rw [if_pos hd] at hx
        injection hx with h1 h2
        rw [← h1]; exact h
      · rw [if_neg hd] at hx; cases hx
theorem tl_split (l : List UInt8) : tl l = List.replicate (n9 l) 57 ++ (tl l).drop (n9 l) := (split_ l.reverse).1
theorem tl_head (l : List UInt8) (x : UInt8) (xs : List UInt8) (h : (tl l).drop (n9 l) = x :: xs) : x ≠ 57 := (split_ l.reverse).2 x xs h
theorem whole (l : List UInt8) : l = hd l ++ (tl l).reverse := by
  have h := List.takeWhile_append_dropWhile (p := dig) (l := l.reverse)
  have h2 := congrArg List.reverse h
  rw [List.reverse_append, List.reverse_reverse] at h2
  exact h2.symm
theorem tl_dig (l : List UInt8) (x : UInt8) (h : x ∈ tl l) : dig x = true := by
  unfold tl at h
  exact List.all_eq_true.1 (List.all_takeWhile) x h
theorem tl_len (l : List UInt8) : (hd l).length + (tl l).length = l.length := by
  conv => rhs; rw [whole l]
  rw [List.length_append, List.length_reverse]
theorem n9_le (l : List UInt8) : n9 l ≤ (tl l).length := by
  have h := congrArg List.length (tl_split l)
  rw [List.length_append, List.length_replicate] at h
  omega

/-- What is answered. -/
def fin (t : ByteArray) : ByteArray × Int := if lab t = true then (t, 0) else (⟨#[]⟩, 11)
def nxt (s : ByteArray) : ByteArray × Int := if lab s = true then fin (mk (nextL s.data.toList)) else (⟨#[]⟩, 11)

theorem trim1 (s : ByteArray) (h : s.size ≤ 1000) : strings_TrimRight.f s ⟨#[48, 49, 50, 51, 52, 53, 54, 55, 56, 57]⟩ = some (mk (hd s.data.toList)) := by
  unfold strings_TrimRight.f
  refine O.p ⟨by omega, by decide, by decide⟩ ?_
  have e : (fun b => (⟨#[48, 49, 50, 51, 52, 53, 54, 55, 56, 57]⟩ : ByteArray).data.toList.contains b) = dig := funext digs
  unfold Lib.trimRightS mk hd
  rw [e]
theorem trim2 (s : ByteArray) (h : s.size ≤ 1000) : strings_TrimRight.f s ⟨#[57]⟩ = some (mk (s.data.toList.reverse.dropWhile (· == 57)).reverse) := by
  unfold strings_TrimRight.f
  refine O.p ⟨by omega, by decide, by decide⟩ ?_
  have e : (fun b => (⟨#[57]⟩ : ByteArray).data.toList.contains b) = (· == 57) := funext nine
  unfold Lib.trimRightS mk
  rw [e]
theorem n9_len (l : List UInt8) : (l.reverse.dropWhile (· == 57)).reverse.length + n9 l = l.length := by
  have h := congrArg List.length (List.takeWhile_append_dropWhile (p := (· == (57 : UInt8))) (l := l.reverse))
  rw [List.length_append, List.length_reverse] at h
  unfold n9
  rw [List.length_reverse]
  omega
theorem rep_ (n : Nat) (h : n ≤ 1000) : strings_Repeat.f ⟨#[48]⟩ (n : Int) = some (mk (List.replicate n 48)) := by
  unfold strings_Repeat.f
  refine O.p ⟨by omega, by omega, ?_⟩ ?_
  · show 1 * _ ≤ _; omega
  · rw [Int.toNat_natCast]
    have : ∀ n, Lib.repeatL [48] n = List.replicate n 48 := by
      intro n
      induction n with
      | zero => rfl
      | succ n ih => rw [Lib.repeatL, ih]; rfl
    show some (mk (Lib.repeatL [48] n)) = _
    rw [this]
theorem enc_ (x : UInt8) (h : dig x = true) (h2 : x ≠ 57) : Utf8.encode (wrap32 (IntKind.u8.wrap (((x.toNat : Nat) : Int) + 1))) = mk [x + 1] :=
  byte_all (p := fun x => dig x = true → x ≠ 57 → Utf8.encode (wrap32 (IntKind.u8.wrap (((x.toNat : Nat) : Int) + 1))) = mk [x + 1]) (by decide +kernel) x h h2
theorem fin_eq (t : ByteArray) (h : t.size ≤ 2000) : ((label_Right.f t).bind fun t116 => (if t116 = true then (some (t, (0 : Int))) else (some ((⟨#[]⟩ : ByteArray), 11)))) = some (fin t) := by
  refine O.b (right_eq t (by omega)) ?_
  unfold fin
  by_cases c : lab t = true
  · rw [if_pos c, if_pos c]
  · rw [if_neg c, if_neg c]
theorem get_list (s : ByteArray) (i : Nat) (h : i < s.size) : s.data.toList[i]'(by rw [len_size]; exact h) = s.get! i := by
  show _ = s.data[i]!
  rw [getElem!_pos s.data i h, Array.getElem_toList]

theorem next_eq (s : ByteArray) (h : s.size ≤ 1000) : label_Next.f s = some (nxt s) := by
  unfold label_Next.f
  refine O.b (right_eq s (by omega)) ?_
  unfold nxt
  by_cases c : lab s = true
  · refine O.p c ?_
    rw [if_pos c]
    refine O.b (trim1 s h) (O.b (trim2 s h) ?_)
    have hl := len_size s
    have h1 := tl_len s.data.toList
    have h2 := n9_len s.data.toList
    have h3 := n9_le s.data.toList
    rw [mk_size, mk_size]
    refine O.p (by omega) ?_
    have e1 : wrap64 ((s.size : Int) - ((hd s.data.toList).length : Int)) = ((tl s.data.toList).length : Int) := by rw [w64 (by omega) (by omega)]; omega
    have e2 : wrap64 ((s.size : Int) - ((s.data.toList.reverse.dropWhile (· == 57)).reverse.length : Int)) = (n9 s.data.toList : Int) := by rw [w64 (by omega) (by omega)]; omega
    rw [e1, e2]
    by_cases c0 : tl s.data.toList = []
    · refine O.p (by rw [c0]; rfl) ?_
      unfold nextL
      rw [if_pos c0]
      have e : s ++ (⟨#[48]⟩ : ByteArray) = mk (s.data.toList ++ [48]) := by rw [← mk_append, mk_list]; rfl
      rw [e]
      exact fin_eq _ (by rw [mk_size, List.length_append]; simp only [List.length_cons, List.length_nil]; omega)
    · have cl : 0 < (tl s.data.toList).length := List.length_pos_iff.2 c0
      refine O.n (by omega) ?_
      by_cases c9 : n9 s.data.toList = (tl s.data.toList).length
      · refine O.p (by rw [c9]) (O.p (by omega) ?_)
        refine O.b (rep_ _ (by omega)) ?_
        have e : (mk (hd s.data.toList) ++ (⟨#[49]⟩ : ByteArray)) = mk (hd s.data.toList ++ [49]) := by rw [← mk_append]; rfl
        rw [e, mk_size, mk_size, mk_append]
        refine O.p (by rw [List.length_append, List.length_replicate]; simp only [List.length_cons, List.length_nil]; omega) ?_
        have e3 : nextL s.data.toList = hd s.data.toList ++ [49] ++ List.replicate (tl s.data.toList).length 48 := by
          unfold nextL
          rw [if_neg c0, c9, List.drop_length, List.append_assoc]
          rfl
        rw [e3]
        exact fin_eq _ (by rw [mk_size]; simp only [List.length_append, List.length_replicate, List.length_cons, List.length_nil]; omega)
      · refine O.n (by omega) ?_
        obtain ⟨x, xs, hx⟩ : ∃ x xs, (tl s.data.toList).drop (n9 s.data.toList) = x :: xs := by
          cases hq : (tl s.data.toList).drop (n9 s.data.toList) with
          | nil => rw [List.drop_eq_nil_iff] at hq; omega
          | cons x xs => exact ⟨x, xs, rfl⟩
        have hxd : dig x = true := tl_dig s.data.toList x (List.mem_of_mem_drop (by rw [hx]; exact List.mem_cons_self))
        have hx9 := tl_head s.data.toList x xs hx
        have hlx : xs.length + 1 + n9 s.data.toList = (tl s.data.toList).length := by
          have := congrArg List.length hx
          rw [List.length_drop, List.length_cons] at this; omega
        have hL : s.data.toList = (hd s.data.toList ++ xs.reverse) ++ x :: List.replicate (n9 s.data.toList) 57 := by
          conv => lhs; rw [whole s.data.toList]
          conv => lhs; rw [tl_split s.data.toList, hx]
          simp
        have e4 : wrap64 ((wrap64 ((s.size : Int) - (n9 s.data.toList : Int))) - 1) = (((hd s.data.toList ++ xs.reverse).length : Nat) : Int) := by
          rw [w64 (x := (s.size : Int) - (n9 s.data.toList : Int)) (by omega) (by omega), w64 (by omega) (by omega), List.length_append, List.length_reverse]; omega
        rw [e4]
        have hle : (hd s.data.toList ++ xs.reverse).length < s.size := by rw [List.length_append, List.length_reverse]; omega
        have e5 : bt s (((hd s.data.toList ++ xs.reverse).length : Nat) : Int) = ((x.toNat : Nat) : Int) := by
          rw [bt_eq s _ hle, ← get_list s _ hle]
          have : ∀ (l a b : List UInt8) (y : UInt8) (hh : a.length < l.length), l = a ++ y :: b → l[a.length]'hh = y := by
            intro l a b y hh hl; subst hl; simp
          rw [this _ _ _ x (by rw [len_size]; exact hle) hL]
        have e6 : s.extract 0 (hd s.data.toList ++ xs.reverse).length = mk (hd s.data.toList ++ xs.reverse) := by
          have t_ : ∀ (l a b : List UInt8), l = a ++ b → l.take a.length = a := by intro l a b hl; subst hl; simp
          have u_ := mk_extract s.data.toList (hd s.data.toList ++ xs.reverse).length
          rw [mk_list, t_ _ _ _ hL] at u_
          exact u_
        rw [Int.toNat_natCast, e5, e6, enc_ x hxd hx9, mk_append, mk_size, mk_size, mk_size]
        refine O.p (by omega) (O.p (by omega) (O.p (by omega) (O.p (by rw [List.length_append, List.length_reverse]; simp only [List.length_cons, List.length_nil]; omega) ?_)))
        refine O.b (rep_ _ (by omega)) ?_
        rw [mk_append, mk_size]
        refine O.p (by simp only [List.length_append, List.length_reverse, List.length_replicate, List.length_cons, List.length_nil]; omega) ?_
        have e3 : nextL s.data.toList = hd s.data.toList ++ xs.reverse ++ [x + 1] ++ List.replicate (n9 s.data.toList) 48 := by
          unfold nextL
          rw [if_neg c0, hx]
          simp
        rw [e3]
        exact fin_eq _ (by rw [mk_size]; simp only [List.length_append, List.length_reverse, List.length_replicate, List.length_cons, List.length_nil]; omega)
  · refine O.n c ?_
    rw [if_neg c]

/-! the reference -/
def dch (x : UInt8) (c : Nat) : UInt8 := if x.toNat - 48 + c = 10 then 48 else UInt8.ofNat (x.toNat + c)
def car (x : UInt8) (c : Nat) : Nat := if x.toNat - 48 + c = 10 then 1 else 0
/-- The digits, the last one first, gone through with a carry. -/
def run : List UInt8 → List UInt8 → Nat → List UInt8 × Nat
  | [], t, c => (t, c)
  | x :: xs, t, c => run xs (dch x c :: t) (car x c)
theorem run_zero : ∀ (xs t : List UInt8), (∀ x ∈ xs, dig x = true) → run xs t 0 = (xs.reverse ++ t, 0) := by
  intro xs
  induction xs with
  | nil => intro t _; rfl
  | cons x xs ih =>
    intro t h
    have hx := h x List.mem_cons_self
    have e1 : dch x 0 = x := byte_all (p := fun x => dig x = true → dch x 0 = x) (by decide +kernel) x hx
    have e2 : car x 0 = 0 := byte_all (p := fun x => dig x = true → car x 0 = 0) (by decide +kernel) x hx
    rw [run, e1, e2, ih _ (fun y hy => h y (List.mem_cons_of_mem _ hy))]
    simp
theorem run_nine : ∀ (n : Nat) (xs t : List UInt8), run (List.replicate n 57 ++ xs) t 1 = run xs (List.replicate n 48 ++ t) 1 := by
  intro n
  induction n with
  | zero => intro xs t; rfl
  | succ n ih =>
    intro xs t
    rw [List.replicate_succ, List.cons_append, run, show dch 57 1 = 48 by decide, show car 57 1 = 1 by decide, ih]
    congr 1
    rw [List.replicate_succ', List.append_assoc]
    rfl
theorem run_one (x : UInt8) (xs t : List UInt8) (h : ∀ y ∈ x :: xs, dig y = true) (h9 : x ≠ 57) : run (x :: xs) t 1 = (xs.reverse ++ (x + 1) :: t, 0) := by
  have hx := h x List.mem_cons_self
  have e1 : dch x 1 = x + 1 := byte_all (p := fun x => dig x = true → x ≠ 57 → dch x 1 = x + 1) (by decide +kernel) x hx h9
  have e2 : car x 1 = 0 := byte_all (p := fun x => dig x = true → x ≠ 57 → car x 1 = 0) (by decide +kernel) x hx h9
  rw [run, e1, e2, run_zero _ _ (fun y hy => h y (List.mem_cons_of_mem _ hy))]

/-- The table's digit. -/
theorem table_ (n : Nat) (h : n ≤ 9) : ((⟨#[48, 49, 50, 51, 52, 53, 54, 55, 56, 57]⟩ : ByteArray).extract n (n + 1)) = mk [UInt8.ofNat (48 + n)] := by
  have : ∀ n : Fin 10, ((⟨#[48, 49, 50, 51, 52, 53, 54, 55, 56, 57]⟩ : ByteArray).extract n.val (n.val + 1)) = mk [UInt8.ofNat (48 + n.val)] := by decide +kernel
  exact this ⟨n, by omega⟩

theorem rev_get (s : ByteArray) (m : Nat) (h : m < s.size) (x : UInt8) (xs : List UInt8) (hx : s.data.toList.reverse.drop m = x :: xs) : s.get! (s.size - 1 - m) = x := by
  rw [← get_list s _ (by omega)]
  have h1 : (s.data.toList.reverse.drop m)[0]? = some x := by rw [hx]; rfl
  rw [List.getElem?_drop, List.getElem?_reverse (by rw [len_size]; omega), len_size] at h1
  have h2 := List.getElem?_eq_some_iff.1 h1
  obtain ⟨_, h3⟩ := h2
  rw [← h3]
  congr 1

theorem digit_ne (l : List UInt8) (h : (tl l).length < l.length) : ∃ x xs, l.reverse.drop (tl l).length = x :: xs ∧ dig x = false := by
  have e : l.reverse.drop (tl l).length = l.reverse.dropWhile dig := by
    have h := List.takeWhile_append_dropWhile (p := dig) (l := l.reverse)
    conv => lhs; rw [← h]
    unfold tl
    rw [List.drop_left' rfl]
  rw [e]
  cases hq : l.reverse.dropWhile dig with
  | nil =>
    have := tl_len l
    unfold hd at this
    rw [hq] at this
    simp at this; omega
  | cons x xs =>
    refine ⟨x, xs, rfl, ?_⟩
    have := List.head?_dropWhile_not dig l.reverse
    rw [hq] at this
    simpa using this
theorem drop_tl (l : List UInt8) (m : Nat) (x : UInt8) (xs : List UInt8) (h : (tl l).drop m = x :: xs) : ∃ ys, l.reverse.drop m = x :: ys := by
  have e := List.takeWhile_append_dropWhile (p := dig) (l := l.reverse)
  have hm : m ≤ (tl l).length := by
    by_cases c : m ≤ (tl l).length
    · exact c
    · rw [List.drop_eq_nil_of_le (by omega)] at h; cases h
  refine ⟨xs ++ l.reverse.dropWhile dig, ?_⟩
  conv => lhs; rw [← e]
  unfold tl at h hm
  rw [List.drop_append_of_le_length hm, h]; rfl

/-- What stands at the end of the reference's Next. -/
theorem l1_end (s : ByteArray) (hs : s.size ≤ 1000) (t : List UInt8) (c : Nat) (h : List UInt8) (d : Nat) (x8 : Int) (hx : x8 < (h.length : Int)) (ht : t.length ≤ 1000) (hh : h.length ≤ 1000) :
    Ev (fun k => packhorseref01_Next.l1 k s (d : Int) (mk h) (mk t) (c : Int) x8) (fin (mk (if d = 0 then h ++ [48] else if c = 1 then h ++ (49 :: t) else h ++ t))) := by
  have rr : ∀ u : ByteArray, u.size ≤ 2002 → Ev (fun k => (packhorseref01_Right.f k u).bind fun t142 => (if t142 = true then (some (u, (0 : Int))) else (some ((⟨#[]⟩ : ByteArray), 11)))) (fin u) := by
    intro u hu
    refine Ev.bind (right_ref u (by omega)) ?_
    by_cases q : lab u = true
    · have e : fin u = (u, 0) := if_pos q
      rw [e]; exact Ev.ifp q (Ev.now _)
    · have e : fin u = (⟨#[]⟩, 11) := if_neg q
      rw [e]; exact Ev.ifn q (Ev.now _)
  have e1 : mk h ++ (⟨#[48]⟩ : ByteArray) = mk (h ++ [48]) := by rw [← mk_append]; rfl
  have e2 : (⟨#[49]⟩ : ByteArray) ++ mk t = mk (49 :: t) := by rw [show (49 :: t) = [49] ++ t from rfl, ← mk_append]; rfl
  refine Ev.step (fun k => rfl) (Ev.ifn (by rw [mk_size]; omega) ?_)
  rw [e1, e2, mk_append, mk_append, mk_size, mk_size, mk_size]
  by_cases c0 : d = 0
  · rw [if_pos c0]
    refine Ev.ifp (by omega) (Ev.ifp (by omega) ?_)
    exact rr _ (by rw [mk_size, List.length_append]; simp only [List.length_cons, List.length_nil]; omega)
  · rw [if_neg c0]
    refine Ev.ifn (by omega) ?_
    by_cases c1 : c = 1
    · rw [if_pos c1]
      refine Ev.ifp (by omega) (Ev.ifp (by omega) (Ev.ifp (by simp only [List.length_cons]; omega) ?_))
      exact rr _ (by rw [mk_size, List.length_append]; simp only [List.length_cons]; omega)
    · rw [if_neg c1]
      refine Ev.ifn (by omega) (Ev.ifp (by omega) ?_)
      exact rr _ (by rw [mk_size, List.length_append]; omega)

theorem l1_step (s : ByteArray) (hs : s.size ≤ 1000) (t : List UInt8) (c : Nat) (hc : c ≤ 1) (h : List UInt8) (d : Nat) (m : Nat) (x : UInt8) (xs : List UInt8) (hd_ : h.length + d = s.size) (hm : m < d)
    (hx : (tl s.data.toList).drop m = x :: xs) (ht : t.length ≤ 1000) (r : ByteArray × Int)
    (hr : Ev (fun k => packhorseref01_Next.l1 k s (d : Int) (mk h) (mk (dch x c :: t)) (car x c : Int) ((s.size : Int) - 1 - ((m + 1 : Nat) : Int))) r) :
    Ev (fun k => packhorseref01_Next.l1 k s (d : Int) (mk h) (mk t) (c : Int) ((s.size : Int) - 1 - (m : Int))) r := by
  have hxd : dig x = true := tl_dig _ x (List.mem_of_mem_drop (by rw [hx]; exact List.mem_cons_self))
  obtain ⟨ys, hy⟩ := drop_tl _ _ _ _ hx
  have hg := rev_get s m (by omega) x ys hy
  have hb : bt s ((s.size : Int) - 1 - (m : Int)) = ((x.toNat : Nat) : Int) := by
    have e : (s.size : Int) - 1 - (m : Int) = ((s.size - 1 - m : Nat) : Int) := by omega
    rw [e, bt_eq s _ (by omega), hg]
  have hdx : 48 ≤ x.toNat ∧ x.toNat ≤ 57 := by
    unfold dig at hxd
    rw [Bool.and_eq_true, decide_eq_true_eq, decide_eq_true_eq] at hxd
    exact hxd
  refine Ev.step (fun k => rfl) (Ev.ifp (by rw [mk_size]; omega) ?_)
  rw [hb]
  have en : wrap64 ((((x.toNat : Int) - 48) % 256) + (c : Int)) = ((x.toNat - 48 + c : Nat) : Int) := by rw [w64 (by omega) (by omega)]; omega
  rw [en]
  clear en
  have em : Int.tmod ((x.toNat - 48 + c : Nat) : Int) 10 = (((x.toNat - 48 + c) % 10 : Nat) : Int) := by rw [Int.tmod_eq_emod_of_nonneg (by omega)]; omega
  have ed : Int.tdiv ((x.toNat - 48 + c : Nat) : Int) 10 = ((car x c : Nat) : Int) := by
    rw [Int.tdiv_eq_ediv_of_nonneg (by omega)]
    unfold car
    split <;> omega
  rw [em, ed]
  clear em ed
  have e1 : wrap64 ((((x.toNat - 48 + c) % 10 : Nat) : Int) + 1) = (((x.toNat - 48 + c) % 10 + 1 : Nat) : Int) := by rw [w64 (by omega) (by omega)]; omega
  have hn : (x.toNat - 48 + c) % 10 ≤ 9 := by omega
  generalize hN : (x.toNat - 48 + c) % 10 = N at *
  have et := table_ N hn
  rw [e1, Int.toNat_natCast, Int.toNat_natCast]
  rw [et]
  clear e1 et
  have e2 : UInt8.ofNat (48 + N) = dch x c := by
    unfold dch
    split
    · next q => rw [q] at hN; subst hN; rfl
    · congr 1; omega
  rw [e2, mk_append, mk_size, mk_size]
  refine Ev.ifp (by omega) (Ev.ifp (by omega) (Ev.ifp (by omega) (Ev.ifp (by omega) (Ev.ifp (by omega) (Ev.ifp (by simp only [List.length_cons, List.length_nil]; omega) ?_)))))
  have e3 : wrap64 ((car x c : Nat) : Int) = ((car x c : Nat) : Int) := by rw [w64 (by omega) (by unfold car; split <;> omega)]
  have e4 : wrap64 ((s.size : Int) - 1 - (m : Int) - 1) = (s.size : Int) - 1 - ((m + 1 : Nat) : Int) := by rw [w64 (by omega) (by omega)]; omega
  rw [e3, e4]
  exact hr

theorem l1_run (s : ByteArray) (hs : s.size ≤ 1000) (h : List UInt8) (hd_ : h.length + (tl s.data.toList).length = s.size) (r : ByteArray × Int) : ∀ (rest t : List UInt8) (c m : Nat), (tl s.data.toList).drop m = rest → c ≤ 1 → m + rest.length = (tl s.data.toList).length → t.length = m →
    Ev (fun k => packhorseref01_Next.l1 k s ((tl s.data.toList).length : Int) (mk h) (mk (run rest t c).1) ((run rest t c).2 : Int) ((s.size : Int) - 1 - ((tl s.data.toList).length : Int))) r →
    Ev (fun k => packhorseref01_Next.l1 k s ((tl s.data.toList).length : Int) (mk h) (mk t) (c : Int) ((s.size : Int) - 1 - (m : Int))) r := by
  intro rest
  induction rest with
  | nil =>
    intro t c m hx hc hm ht hr
    rw [List.length_nil, Nat.add_zero] at hm
    rw [hm]; exact hr
  | cons x xs ih =>
    intro t c m hx hc hm ht hr
    rw [List.length_cons] at hm
    refine l1_step s hs t c hc h _ m x xs hd_ (by omega) hx (by omega) r ?_
    refine ih (dch x c :: t) (car x c) (m + 1) ?_ (by unfold car; split <;> omega) (by omega) (by rw [List.length_cons, ht]) hr
    rw [← List.drop_drop, hx]; rfl

theorem run_all (l : List UInt8) : run (tl l) [] 1 = if tl l = [] then ([], 1) else match (tl l).drop (n9 l) with
    | [] => (List.replicate (tl l).length 48, 1)
    | x :: xs => (xs.reverse ++ (x + 1) :: List.replicate (n9 l) 48, 0) := by
  by_cases c : tl l = []
  · rw [if_pos c, c]; rfl
  · rw [if_neg c]
    conv => lhs; rw [tl_split l]
    rw [run_nine, List.append_nil]
    cases hx : (tl l).drop (n9 l) with
    | nil =>
      have : n9 l = (tl l).length := by have := n9_le l; rw [List.drop_eq_nil_iff] at hx; omega
      rw [this]; rfl
    | cons x xs =>
      exact run_one x xs _ (fun y hy => tl_dig l y (List.mem_of_mem_drop (by rw [hx]; exact hy))) (tl_head l x xs hx)

theorem j1_all (s : ByteArray) (hs : s.size ≤ 1000) : Ev (fun k => packhorseref01_Next.j1 k s ((tl s.data.toList).length : Int)) (fin (mk (nextL s.data.toList))) := by
  have hl := len_size s
  have h1 := tl_len s.data.toList
  have e1 : wrap64 ((s.size : Int) - ((tl s.data.toList).length : Int)) = (((hd s.data.toList).length : Nat) : Int) := by rw [w64 (by omega) (by omega)]; omega
  have e2 : wrap64 ((s.size : Int) - 1) = (s.size : Int) - 1 - ((0 : Nat) : Int) := by rw [w64 (by omega) (by omega)]; omega
  have e3 : s.extract 0 (hd s.data.toList).length = mk (hd s.data.toList) := by
    have u_ := mk_extract s.data.toList (hd s.data.toList).length
    have t_ : ∀ (l a b : List UInt8), l = a ++ b → l.take a.length = a := by intro l a b hl; subst hl; simp
    rw [mk_list, t_ _ _ _ (whole _)] at u_
    exact u_
  refine Ev.step (fun k => rfl) (Ev.ifp (by rw [e1]; omega) (Ev.ifp (by rw [e1]; omega) ?_))
  rw [e1, e2, Int.toNat_natCast, e3]
  have key := l1_run s hs (hd s.data.toList) (by omega) (fin (mk (nextL s.data.toList))) (tl s.data.toList) [] 1 0 rfl (by omega) (by omega) rfl
  refine key ?_
  rw [run_all]
  have h3 := n9_le s.data.toList
  by_cases c0 : tl s.data.toList = []
  · rw [if_pos c0]
    have q := l1_end s hs [] 1 (hd s.data.toList) (tl s.data.toList).length ((s.size : Int) - 1 - ((tl s.data.toList).length : Int)) (by omega) (by simp) (by omega)
    rw [c0] at q ⊢
    have hw : s.data.toList = hd s.data.toList := by conv => lhs; rw [whole s.data.toList, c0]; simp
    have e4 : nextL s.data.toList = hd s.data.toList ++ [48] := by
      unfold nextL; rw [if_pos c0]; conv => lhs; rw [hw]
    rw [e4]
    exact q
  · rw [if_neg c0]
    have cl : 0 < (tl s.data.toList).length := List.length_pos_iff.2 c0
    have e4 := (rfl : nextL s.data.toList = nextL s.data.toList)
    conv at e4 => rhs; unfold nextL; rw [if_neg c0]
    cases hx : (tl s.data.toList).drop (n9 s.data.toList) with
    | nil =>
      rw [hx] at e4
      have q := l1_end s hs (List.replicate (tl s.data.toList).length 48) 1 (hd s.data.toList) (tl s.data.toList).length ((s.size : Int) - 1 - ((tl s.data.toList).length : Int)) (by omega) (by rw [List.length_replicate]; omega) (by omega)
      rw [if_neg (by omega), if_pos rfl] at q
      rw [e4]
      exact q
    | cons x xs =>
      rw [hx] at e4
      have hlx : xs.length + 1 + n9 s.data.toList = (tl s.data.toList).length := by
        have := congrArg List.length hx
        rw [List.length_drop, List.length_cons] at this; omega
      have q := l1_end s hs (xs.reverse ++ (x + 1) :: List.replicate (n9 s.data.toList) 48) 0 (hd s.data.toList) (tl s.data.toList).length ((s.size : Int) - 1 - ((tl s.data.toList).length : Int)) (by omega) (by simp only [List.length_append, List.length_reverse, List.length_cons, List.length_replicate]; omega) (by omega)
      rw [if_neg (by omega), if_neg (by decide)] at q
      rw [e4]
      exact q

theorem l0_all (s : ByteArray) (hs : s.size ≤ 1000) : ∀ (g j : Nat), (tl s.data.toList).length = j + g → Ev (fun k => packhorseref01_Next.l0 k s (j : Int)) (fin (mk (nextL s.data.toList))) := by
  have hl := len_size s
  have h1 := tl_len s.data.toList
  intro g
  induction g with
  | zero =>
    intro j hj
    have hj2 : j = (tl s.data.toList).length := by omega
    by_cases c : j < s.size
    · obtain ⟨x, xs, hx, hxd⟩ := digit_ne s.data.toList (by omega)
      have hg := rev_get s j c x xs (by rw [hj2]; exact hx)
      have hb : bt s (wrap64 ((wrap64 ((s.size : Int) - 1)) - (j : Int))) = ((x.toNat : Nat) : Int) := by
        have e : wrap64 ((wrap64 ((s.size : Int) - 1)) - (j : Int)) = ((s.size - 1 - j : Nat) : Int) := by
          rw [w64 (x := (s.size : Int) - 1) (by omega) (by omega), w64 (by omega) (by omega)]; omega
        rw [e, bt_eq s _ (by omega), hg]
      refine Ev.step (fun k => rfl) (Ev.ifp (by omega) ?_)
      rw [hb]
      have e : wrap64 ((wrap64 ((s.size : Int) - 1)) - (j : Int)) = ((s.size - 1 - j : Nat) : Int) := by
        rw [w64 (x := (s.size : Int) - 1) (by omega) (by omega), w64 (by omega) (by omega)]; omega
      rw [e]
      refine Ev.ifp (by omega) (Ev.ifp (by omega) ?_)
      have hn : ¬ (48 ≤ x.toNat ∧ x.toNat ≤ 57) := by
        unfold dig at hxd
        rintro ⟨p, q⟩
        rw [decide_eq_true p, decide_eq_true q] at hxd
        exact absurd hxd (by decide)
      rw [hj2]
      by_cases p : 48 ≤ x.toNat
      · exact Ev.ifp (by omega) (Ev.ifn (by omega) (j1_all s hs))
      · exact Ev.ifn (by omega) (j1_all s hs)
    · refine Ev.step (fun k => rfl) (Ev.ifn (by omega) ?_)
      rw [hj2]
      exact j1_all s hs
  | succ g ih =>
    intro j hj
    have c : j < s.size := by omega
    obtain ⟨x, xs, hx⟩ : ∃ x xs, (tl s.data.toList).drop j = x :: xs := by
      cases hq : (tl s.data.toList).drop j with
      | nil => rw [List.drop_eq_nil_iff] at hq; omega
      | cons x xs => exact ⟨x, xs, rfl⟩
    have hxd : dig x = true := tl_dig _ x (List.mem_of_mem_drop (by rw [hx]; exact List.mem_cons_self))
    obtain ⟨ys, hy⟩ := drop_tl _ _ _ _ hx
    have hg := rev_get s j c x ys hy
    have e : wrap64 ((wrap64 ((s.size : Int) - 1)) - (j : Int)) = ((s.size - 1 - j : Nat) : Int) := by
      rw [w64 (x := (s.size : Int) - 1) (by omega) (by omega), w64 (by omega) (by omega)]; omega
    refine Ev.step (fun k => rfl) (Ev.ifp (by omega) ?_)
    rw [e, bt_eq s _ (by omega), hg]
    have hdx : 48 ≤ x.toNat ∧ x.toNat ≤ 57 := by
      unfold dig at hxd
      rw [Bool.and_eq_true, decide_eq_true_eq, decide_eq_true_eq] at hxd
      exact hxd
    refine Ev.ifp (by omega) (Ev.ifp (by omega) (Ev.ifp (by omega) (Ev.ifp (by omega) ?_)))
    have e1 : wrap64 ((j : Int) + 1) = ((j + 1 : Nat) : Int) := by rw [w64 (by omega) (by omega)]; omega
    rw [e1]
    exact ih (j + 1) (by omega)

theorem next_ref (s : ByteArray) (hs : s.size ≤ 1000) : Ev (fun k => packhorseref01_Next.f k s) (nxt s) := by
  refine Ev.bind (right_ref s (by omega)) ?_
  unfold nxt
  by_cases c : lab s = true
  · rw [if_pos c]
    exact Ev.ifp c (l0_all s hs (tl s.data.toList).length 0 (by omega))
  · rw [if_neg c]
    exact Ev.ifn c (Ev.now _)
end Go.Proofs.YtdifpehainbkmaaDoor.Pure
