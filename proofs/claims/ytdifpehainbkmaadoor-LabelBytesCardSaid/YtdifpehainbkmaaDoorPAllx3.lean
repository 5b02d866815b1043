-- Made by a program of this session (wip/gen)
import Derived.Test.YtdifpehainbkmaaDoorPAllx0
import Derived.Test.YtdifpehainbkmaaDoorPAllx2
namespace Go.Proofs.YtdifpehainbkmaaDoor.PAll
open Go.RowKit Go.Proofs.YtdifpehainbkmaaDoorW.PrintWords Go.Proofs.YtdifpehainbkmaaDoorW.PrintLast Go.Proofs.YtdifpehainbkmaaDoorW.PrintMore
attribute [local go_sem] max2_int min2_int max_two min_two max_three min_three max_four min_four   -- for this text's walks alone
set_option linter.unusedVariables false
set_option linter.unusedSimpArgs false

/-- A literal text's size. -/
theorem szlit (a : Array UInt8) : (⟨a⟩ : ByteArray).size = a.size := rfl

/-! ### label_Next: function 13 -/
def label_Next.f (a0 : ByteArray) : Option (ByteArray × Int) := (label_Right.f a0).bind fun t109 => (if t109 = true then ((strings_TrimRight.f a0 (⟨#[48, 49, 50, 51, 52, 53, 54, 55, 56, 57]⟩ : ByteArray)).bind fun t110 => ((strings_TrimRight.f a0 (⟨#[57]⟩ : ByteArray)).bind fun t111 => (if a0.size + 1 ≤ 9223372036854775807 then (if (wrap64 ((a0.size : Int) - (t110.size : Int))) = 0 then ((label_Right.f (a0 ++ (⟨#[48]⟩ : ByteArray))).bind fun t112 => (if t112 = true then (some (a0 ++ (⟨#[48]⟩ : ByteArray), 0)) else (some ((⟨#[]⟩ : ByteArray), 11)))) else (if (wrap64 ((a0.size : Int) - (t111.size : Int))) = (wrap64 ((a0.size : Int) - (t110.size : Int))) then (if t110.size + 1 ≤ 9223372036854775807 then ((strings_Repeat.f (⟨#[48]⟩ : ByteArray) (wrap64 ((a0.size : Int) - (t110.size : Int)))).bind fun t113 => (if (t110 ++ (⟨#[49]⟩ : ByteArray)).size + t113.size ≤ 9223372036854775807 then ((label_Right.f ((t110 ++ (⟨#[49]⟩ : ByteArray)) ++ t113)).bind fun t114 => (if t114 = true then (some ((t110 ++ (⟨#[49]⟩ : ByteArray)) ++ t113, 0)) else (some ((⟨#[]⟩ : ByteArray), 11)))) else (none))) else (none)) else (if 0 ≤ (wrap64 ((wrap64 ((a0.size : Int) - (wrap64 ((a0.size : Int) - (t111.size : Int))))) - 1)) then (if (wrap64 ((wrap64 ((a0.size : Int) - (wrap64 ((a0.size : Int) - (t111.size : Int))))) - 1)) ≤ (a0.size : Int) then (if (wrap64 ((wrap64 ((a0.size : Int) - (wrap64 ((a0.size : Int) - (t111.size : Int))))) - 1)) < (a0.size : Int) then (if (a0.extract 0 ((wrap64 ((wrap64 ((a0.size : Int) - (wrap64 ((a0.size : Int) - (t111.size : Int))))) - 1)) : Int).toNat).size + (Utf8.encode (wrap32 (IntKind.u8.wrap ((bt a0 (wrap64 ((wrap64 ((a0.size : Int) - (wrap64 ((a0.size : Int) - (t111.size : Int))))) - 1))) + 1)))).size ≤ 9223372036854775807 then ((strings_Repeat.f (⟨#[48]⟩ : ByteArray) (wrap64 ((a0.size : Int) - (t111.size : Int)))).bind fun t115 => (if ((a0.extract 0 ((wrap64 ((wrap64 ((a0.size : Int) - (wrap64 ((a0.size : Int) - (t111.size : Int))))) - 1)) : Int).toNat) ++ (Utf8.encode (wrap32 (IntKind.u8.wrap ((bt a0 (wrap64 ((wrap64 ((a0.size : Int) - (wrap64 ((a0.size : Int) - (t111.size : Int))))) - 1))) + 1))))).size + t115.size ≤ 9223372036854775807 then ((label_Right.f (((a0.extract 0 ((wrap64 ((wrap64 ((a0.size : Int) - (wrap64 ((a0.size : Int) - (t111.size : Int))))) - 1)) : Int).toNat) ++ (Utf8.encode (wrap32 (IntKind.u8.wrap ((bt a0 (wrap64 ((wrap64 ((a0.size : Int) - (wrap64 ((a0.size : Int) - (t111.size : Int))))) - 1))) + 1))))) ++ t115)).bind fun t116 => (if t116 = true then (some (((a0.extract 0 ((wrap64 ((wrap64 ((a0.size : Int) - (wrap64 ((a0.size : Int) - (t111.size : Int))))) - 1)) : Int).toNat) ++ (Utf8.encode (wrap32 (IntKind.u8.wrap ((bt a0 (wrap64 ((wrap64 ((a0.size : Int) - (wrap64 ((a0.size : Int) - (t111.size : Int))))) - 1))) + 1))))) ++ t115, 0)) else (some ((⟨#[]⟩ : ByteArray), 11)))) else (none))) else (none)) else (none)) else (none)) else (none)))) else (none)))) else (some ((⟨#[]⟩ : ByteArray), 11)))
def label_Next.T8 : Bool × List (List Nat × List Nat) := (true, [([], []), ([], []), ([0, 1], [0, 1]), ([], []), ([], []), ([3, 4], [3, 4]), ([5], [5]), ([6], [6]), ([7], [7]), ([2, 8], [2, 8]), ([], []), ([10], [10]), ([9, 11], [9, 11]), ([12, 11, 0, 1, 2, 3, 4, 5, 6, 7, 8, 9, 10, 11, 12], [12])])
def label_Next.B8 : List Nat := [0, 0, 3, 0, 0, 24, 56, 120, 248, 511, 0, 1024, 4095, 8191]
theorem label_Next.tab8 : rtab .any (opsOf Tryd.f13 8) = label_Next.T8 := by kernel_rfl
theorem label_Next.bits8 : waitsOk label_Next.T8.2 label_Next.B8 = true := by kernel_rfl
set_option maxHeartbeats 8000000 in
set_option maxRecDepth 100000 in
theorem label_Next.calls (a0 : ByteArray) (r1 : ByteArray) (r2 : Int) (w : World) (hT : Tabs w) (h : label_Next.f a0 = some (r1, r2)) :
    Calls Tryd.prog 13 #[.string a0] w fun e w' => e = .returned (.tuple #[.string r1, .int .i64 r2]) ∧ Below w.heap.size w w' := by
  have HT := Aside0.mk hT
  clear hT
  have HB := Aside0.mk (Below.refl w.heap.size w)
  have H : ((label_Right.f a0).bind fun t109 => (if t109 = true then ((strings_TrimRight.f a0 (⟨#[48, 49, 50, 51, 52, 53, 54, 55, 56, 57]⟩ : ByteArray)).bind fun t110 => ((strings_TrimRight.f a0 (⟨#[57]⟩ : ByteArray)).bind fun t111 => (if a0.size + 1 ≤ 9223372036854775807 then (if (wrap64 ((a0.size : Int) - (t110.size : Int))) = 0 then ((label_Right.f (a0 ++ (⟨#[48]⟩ : ByteArray))).bind fun t112 => (if t112 = true then (some (a0 ++ (⟨#[48]⟩ : ByteArray), 0)) else (some ((⟨#[]⟩ : ByteArray), 11)))) else (if (wrap64 ((a0.size : Int) - (t111.size : Int))) = (wrap64 ((a0.size : Int) - (t110.size : Int))) then (if t110.size + 1 ≤ 9223372036854775807 then ((strings_Repeat.f (⟨#[48]⟩ : ByteArray) (wrap64 ((a0.size : Int) - (t110.size : Int)))).bind fun t113 => (if (t110 ++ (⟨#[49]⟩ : ByteArray)).size + t113.size ≤ 9223372036854775807 then ((label_Right.f ((t110 ++ (⟨#[49]⟩ : ByteArray)) ++ t113)).bind fun t114 => (if t114 = true then (some ((t110 ++ (⟨#[49]⟩ : ByteArray)) ++ t113, 0)) else (some ((⟨#[]⟩ : ByteArray), 11)))) else (none))) else (none)) else (if 0 ≤ (wrap64 ((wrap64 ((a0.size : Int) - (wrap64 ((a0.size : Int) - (t111.size : Int))))) - 1)) then (if (wrap64 ((wrap64 ((a0.size : Int) - (wrap64 ((a0.size : Int) - (t111.size : Int))))) - 1)) ≤ (a0.size : Int) then (if (wrap64 ((wrap64 ((a0.size : Int) - (wrap64 ((a0.size : Int) - (t111.size : Int))))) - 1)) < (a0.size : Int) then (if (a0.extract 0 ((wrap64 ((wrap64 ((a0.size : Int) - (wrap64 ((a0.size : Int) - (t111.size : Int))))) - 1)) : Int).toNat).size + (Utf8.encode (wrap32 (IntKind.u8.wrap ((bt a0 (wrap64 ((wrap64 ((a0.size : Int) - (wrap64 ((a0.size : Int) - (t111.size : Int))))) - 1))) + 1)))).size ≤ 9223372036854775807 then ((strings_Repeat.f (⟨#[48]⟩ : ByteArray) (wrap64 ((a0.size : Int) - (t111.size : Int)))).bind fun t115 => (if ((a0.extract 0 ((wrap64 ((wrap64 ((a0.size : Int) - (wrap64 ((a0.size : Int) - (t111.size : Int))))) - 1)) : Int).toNat) ++ (Utf8.encode (wrap32 (IntKind.u8.wrap ((bt a0 (wrap64 ((wrap64 ((a0.size : Int) - (wrap64 ((a0.size : Int) - (t111.size : Int))))) - 1))) + 1))))).size + t115.size ≤ 9223372036854775807 then ((label_Right.f (((a0.extract 0 ((wrap64 ((wrap64 ((a0.size : Int) - (wrap64 ((a0.size : Int) - (t111.size : Int))))) - 1)) : Int).toNat) ++ (Utf8.encode (wrap32 (IntKind.u8.wrap ((bt a0 (wrap64 ((wrap64 ((a0.size : Int) - (wrap64 ((a0.size : Int) - (t111.size : Int))))) - 1))) + 1))))) ++ t115)).bind fun t116 => (if t116 = true then (some (((a0.extract 0 ((wrap64 ((wrap64 ((a0.size : Int) - (wrap64 ((a0.size : Int) - (t111.size : Int))))) - 1)) : Int).toNat) ++ (Utf8.encode (wrap32 (IntKind.u8.wrap ((bt a0 (wrap64 ((wrap64 ((a0.size : Int) - (wrap64 ((a0.size : Int) - (t111.size : Int))))) - 1))) + 1))))) ++ t115, 0)) else (some ((⟨#[]⟩ : ByteArray), 11)))) else (none))) else (none)) else (none)) else (none)) else (none)))) else (none)))) else (some ((⟨#[]⟩ : ByteArray), 11)))) = some (r1, r2) := h
  clear h
  replace H := Option.bind_eq_some_iff.mp H
  obtain ⟨t109, A20, H⟩ := H
  replace H : (if t109 = true then ((strings_TrimRight.f a0 (⟨#[48, 49, 50, 51, 52, 53, 54, 55, 56, 57]⟩ : ByteArray)).bind fun t110 => ((strings_TrimRight.f a0 (⟨#[57]⟩ : ByteArray)).bind fun t111 => (if a0.size + 1 ≤ 9223372036854775807 then (if (wrap64 ((a0.size : Int) - (t110.size : Int))) = 0 then ((label_Right.f (a0 ++ (⟨#[48]⟩ : ByteArray))).bind fun t112 => (if t112 = true then (some (a0 ++ (⟨#[48]⟩ : ByteArray), 0)) else (some ((⟨#[]⟩ : ByteArray), 11)))) else (if (wrap64 ((a0.size : Int) - (t111.size : Int))) = (wrap64 ((a0.size : Int) - (t110.size : Int))) then (if t110.size + 1 ≤ 9223372036854775807 then ((strings_Repeat.f (⟨#[48]⟩ : ByteArray) (wrap64 ((a0.size : Int) - (t110.size : Int)))).bind fun t113 => (if (t110 ++ (⟨#[49]⟩ : ByteArray)).size + t113.size ≤ 9223372036854775807 then ((label_Right.f ((t110 ++ (⟨#[49]⟩ : ByteArray)) ++ t113)).bind fun t114 => (if t114 = true then (some ((t110 ++ (⟨#[49]⟩ : ByteArray)) ++ t113, 0)) else (some ((⟨#[]⟩ : ByteArray), 11)))) else (none))) else (none)) else (if 0 ≤ (wrap64 ((wrap64 ((a0.size : Int) - (wrap64 ((a0.size : Int) - (t111.size : Int))))) - 1)) then (if (wrap64 ((wrap64 ((a0.size : Int) - (wrap64 ((a0.size : Int) - (t111.size : Int))))) - 1)) ≤ (a0.size : Int) then (if (wrap64 ((wrap64 ((a0.size : Int) - (wrap64 ((a0.size : Int) - (t111.size : Int))))) - 1)) < (a0.size : Int) then (if (a0.extract 0 ((wrap64 ((wrap64 ((a0.size : Int) - (wrap64 ((a0.size : Int) - (t111.size : Int))))) - 1)) : Int).toNat).size + (Utf8.encode (wrap32 (IntKind.u8.wrap ((bt a0 (wrap64 ((wrap64 ((a0.size : Int) - (wrap64 ((a0.size : Int) - (t111.size : Int))))) - 1))) + 1)))).size ≤ 9223372036854775807 then ((strings_Repeat.f (⟨#[48]⟩ : ByteArray) (wrap64 ((a0.size : Int) - (t111.size : Int)))).bind fun t115 => (if ((a0.extract 0 ((wrap64 ((wrap64 ((a0.size : Int) - (wrap64 ((a0.size : Int) - (t111.size : Int))))) - 1)) : Int).toNat) ++ (Utf8.encode (wrap32 (IntKind.u8.wrap ((bt a0 (wrap64 ((wrap64 ((a0.size : Int) - (wrap64 ((a0.size : Int) - (t111.size : Int))))) - 1))) + 1))))).size + t115.size ≤ 9223372036854775807 then ((label_Right.f (((a0.extract 0 ((wrap64 ((wrap64 ((a0.size : Int) - (wrap64 ((a0.size : Int) - (t111.size : Int))))) - 1)) : Int).toNat) ++ (Utf8.encode (wrap32 (IntKind.u8.wrap ((bt a0 (wrap64 ((wrap64 ((a0.size : Int) - (wrap64 ((a0.size : Int) - (t111.size : Int))))) - 1))) + 1))))) ++ t115)).bind fun t116 => (if t116 = true then (some (((a0.extract 0 ((wrap64 ((wrap64 ((a0.size : Int) - (wrap64 ((a0.size : Int) - (t111.size : Int))))) - 1)) : Int).toNat) ++ (Utf8.encode (wrap32 (IntKind.u8.wrap ((bt a0 (wrap64 ((wrap64 ((a0.size : Int) - (wrap64 ((a0.size : Int) - (t111.size : Int))))) - 1))) + 1))))) ++ t115, 0)) else (some ((⟨#[]⟩ : ByteArray), 11)))) else (none))) else (none)) else (none)) else (none)) else (none)))) else (none)))) else (some ((⟨#[]⟩ : ByteArray), 11))) = some (r1, r2) := H
  have A2 := Aside0.mk A20
  clear A20
  by_cases c3 : t109 = true
  · subst c3
    have H1 : ((strings_TrimRight.f a0 (⟨#[48, 49, 50, 51, 52, 53, 54, 55, 56, 57]⟩ : ByteArray)).bind fun t110 => ((strings_TrimRight.f a0 (⟨#[57]⟩ : ByteArray)).bind fun t111 => (if a0.size + 1 ≤ 9223372036854775807 then (if (wrap64 ((a0.size : Int) - (t110.size : Int))) = 0 then ((label_Right.f (a0 ++ (⟨#[48]⟩ : ByteArray))).bind fun t112 => (if t112 = true then (some (a0 ++ (⟨#[48]⟩ : ByteArray), 0)) else (some ((⟨#[]⟩ : ByteArray), 11)))) else (if (wrap64 ((a0.size : Int) - (t111.size : Int))) = (wrap64 ((a0.size : Int) - (t110.size : Int))) then (if t110.size + 1 ≤ 9223372036854775807 then ((strings_Repeat.f (⟨#[48]⟩ : ByteArray) (wrap64 ((a0.size : Int) - (t110.size : Int)))).bind fun t113 => (if (t110 ++ (⟨#[49]⟩ : ByteArray)).size + t113.size ≤ 9223372036854775807 then ((label_Right.f ((t110 ++ (⟨#[49]⟩ : ByteArray)) ++ t113)).bind fun t114 => (if t114 = true then (some ((t110 ++ (⟨#[49]⟩ : ByteArray)) ++ t113, 0)) else (some ((⟨#[]⟩ : ByteArray), 11)))) else (none))) else (none)) else (if 0 ≤ (wrap64 ((wrap64 ((a0.size : Int) - (wrap64 ((a0.size : Int) - (t111.size : Int))))) - 1)) then (if (wrap64 ((wrap64 ((a0.size : Int) - (wrap64 ((a0.size : Int) - (t111.size : Int))))) - 1)) ≤ (a0.size : Int) then (if (wrap64 ((wrap64 ((a0.size : Int) - (wrap64 ((a0.size : Int) - (t111.size : Int))))) - 1)) < (a0.size : Int) then (if (a0.extract 0 ((wrap64 ((wrap64 ((a0.size : Int) - (wrap64 ((a0.size : Int) - (t111.size : Int))))) - 1)) : Int).toNat).size + (Utf8.encode (wrap32 (IntKind.u8.wrap ((bt a0 (wrap64 ((wrap64 ((a0.size : Int) - (wrap64 ((a0.size : Int) - (t111.size : Int))))) - 1))) + 1)))).size ≤ 9223372036854775807 then ((strings_Repeat.f (⟨#[48]⟩ : ByteArray) (wrap64 ((a0.size : Int) - (t111.size : Int)))).bind fun t115 => (if ((a0.extract 0 ((wrap64 ((wrap64 ((a0.size : Int) - (wrap64 ((a0.size : Int) - (t111.size : Int))))) - 1)) : Int).toNat) ++ (Utf8.encode (wrap32 (IntKind.u8.wrap ((bt a0 (wrap64 ((wrap64 ((a0.size : Int) - (wrap64 ((a0.size : Int) - (t111.size : Int))))) - 1))) + 1))))).size + t115.size ≤ 9223372036854775807 then ((label_Right.f (((a0.extract 0 ((wrap64 ((wrap64 ((a0.size : Int) - (wrap64 ((a0.size : Int) - (t111.size : Int))))) - 1)) : Int).toNat) ++ (Utf8.encode (wrap32 (IntKind.u8.wrap ((bt a0 (wrap64 ((wrap64 ((a0.size : Int) - (wrap64 ((a0.size : Int) - (t111.size : Int))))) - 1))) + 1))))) ++ t115)).bind fun t116 => (if t116 = true then (some (((a0.extract 0 ((wrap64 ((wrap64 ((a0.size : Int) - (wrap64 ((a0.size : Int) - (t111.size : Int))))) - 1)) : Int).toNat) ++ (Utf8.encode (wrap32 (IntKind.u8.wrap ((bt a0 (wrap64 ((wrap64 ((a0.size : Int) - (wrap64 ((a0.size : Int) - (t111.size : Int))))) - 1))) + 1))))) ++ t115, 0)) else (some ((⟨#[]⟩ : ByteArray), 11)))) else (none))) else (none)) else (none)) else (none)) else (none)))) else (none)))) = some (r1, r2) := by rw [if_pos rfl] at H; exact H
    clear H
    have H := H1
    clear H1
    replace H := Option.bind_eq_some_iff.mp H
    obtain ⟨t110, A40, H⟩ := H
    replace H : ((strings_TrimRight.f a0 (⟨#[57]⟩ : ByteArray)).bind fun t111 => (if a0.size + 1 ≤ 9223372036854775807 then (if (wrap64 ((a0.size : Int) - (t110.size : Int))) = 0 then ((label_Right.f (a0 ++ (⟨#[48]⟩ : ByteArray))).bind fun t112 => (if t112 = true then (some (a0 ++ (⟨#[48]⟩ : ByteArray), 0)) else (some ((⟨#[]⟩ : ByteArray), 11)))) else (if (wrap64 ((a0.size : Int) - (t111.size : Int))) = (wrap64 ((a0.size : Int) - (t110.size : Int))) then (if t110.size + 1 ≤ 9223372036854775807 then ((strings_Repeat.f (⟨#[48]⟩ : ByteArray) (wrap64 ((a0.size : Int) - (t110.size : Int)))).bind fun t113 => (if (t110 ++ (⟨#[49]⟩ : ByteArray)).size + t113.size ≤ 9223372036854775807 then ((label_Right.f ((t110 ++ (⟨#[49]⟩ : ByteArray)) ++ t113)).bind fun t114 => (if t114 = true then (some ((t110 ++ (⟨#[49]⟩ : ByteArray)) ++ t113, 0)) else (some ((⟨#[]⟩ : ByteArray), 11)))) else (none))) else (none)) else (if 0 ≤ (wrap64 ((wrap64 ((a0.size : Int) - (wrap64 ((a0.size : Int) - (t111.size : Int))))) - 1)) then (if (wrap64 ((wrap64 ((a0.size : Int) - (wrap64 ((a0.size : Int) - (t111.size : Int))))) - 1)) ≤ (a0.size : Int) then (if (wrap64 ((wrap64 ((a0.size : Int) - (wrap64 ((a0.size : Int) - (t111.size : Int))))) - 1)) < (a0.size : Int) then (if (a0.extract 0 ((wrap64 ((wrap64 ((a0.size : Int) - (wrap64 ((a0.size : Int) - (t111.size : Int))))) - 1)) : Int).toNat).size + (Utf8.encode (wrap32 (IntKind.u8.wrap ((bt a0 (wrap64 ((wrap64 ((a0.size : Int) - (wrap64 ((a0.size : Int) - (t111.size : Int))))) - 1))) + 1)))).size ≤ 9223372036854775807 then ((strings_Repeat.f (⟨#[48]⟩ : ByteArray) (wrap64 ((a0.size : Int) - (t111.size : Int)))).bind fun t115 => (if ((a0.extract 0 ((wrap64 ((wrap64 ((a0.size : Int) - (wrap64 ((a0.size : Int) - (t111.size : Int))))) - 1)) : Int).toNat) ++ (Utf8.encode (wrap32 (IntKind.u8.wrap ((bt a0 (wrap64 ((wrap64 ((a0.size : Int) - (wrap64 ((a0.size : Int) - (t111.size : Int))))) - 1))) + 1))))).size + t115.size ≤ 9223372036854775807 then ((label_Right.f (((a0.extract 0 ((wrap64 ((wrap64 ((a0.size : Int) - (wrap64 ((a0.size : Int) - (t111.size : Int))))) - 1)) : Int).toNat) ++ (Utf8.encode (wrap32 (IntKind.u8.wrap ((bt a0 (wrap64 ((wrap64 ((a0.size : Int) - (wrap64 ((a0.size : Int) - (t111.size : Int))))) - 1))) + 1))))) ++ t115)).bind fun t116 => (if t116 = true then (some (((a0.extract 0 ((wrap64 ((wrap64 ((a0.size : Int) - (wrap64 ((a0.size : Int) - (t111.size : Int))))) - 1)) : Int).toNat) ++ (Utf8.encode (wrap32 (IntKind.u8.wrap ((bt a0 (wrap64 ((wrap64 ((a0.size : Int) - (wrap64 ((a0.size : Int) - (t111.size : Int))))) - 1))) + 1))))) ++ t115, 0)) else (some ((⟨#[]⟩ : ByteArray), 11)))) else (none))) else (none)) else (none)) else (none)) else (none)))) else (none))) = some (r1, r2) := H
    have A4 := Aside0.mk A40
    clear A40
    replace H := Option.bind_eq_some_iff.mp H
    obtain ⟨t111, A50, H⟩ := H
    replace H : (if a0.size + 1 ≤ 9223372036854775807 then (if (wrap64 ((a0.size : Int) - (t110.size : Int))) = 0 then ((label_Right.f (a0 ++ (⟨#[48]⟩ : ByteArray))).bind fun t112 => (if t112 = true then (some (a0 ++ (⟨#[48]⟩ : ByteArray), 0)) else (some ((⟨#[]⟩ : ByteArray), 11)))) else (if (wrap64 ((a0.size : Int) - (t111.size : Int))) = (wrap64 ((a0.size : Int) - (t110.size : Int))) then (if t110.size + 1 ≤ 9223372036854775807 then ((strings_Repeat.f (⟨#[48]⟩ : ByteArray) (wrap64 ((a0.size : Int) - (t110.size : Int)))).bind fun t113 => (if (t110 ++ (⟨#[49]⟩ : ByteArray)).size + t113.size ≤ 9223372036854775807 then ((label_Right.f ((t110 ++ (⟨#[49]⟩ : ByteArray)) ++ t113)).bind fun t114 => (if t114 = true then (some ((t110 ++ (⟨#[49]⟩ : ByteArray)) ++ t113, 0)) else (some ((⟨#[]⟩ : ByteArray), 11)))) else (none))) else (none)) else (if 0 ≤ (wrap64 ((wrap64 ((a0.size : Int) - (wrap64 ((a0.size : Int) - (t111.size : Int))))) - 1)) then (if (wrap64 ((wrap64 ((a0.size : Int) - (wrap64 ((a0.size : Int) - (t111.size : Int))))) - 1)) ≤ (a0.size : Int) then (if (wrap64 ((wrap64 ((a0.size : Int) - (wrap64 ((a0.size : Int) - (t111.size : Int))))) - 1)) < (a0.size : Int) then (if (a0.extract 0 ((wrap64 ((wrap64 ((a0.size : Int) - (wrap64 ((a0.size : Int) - (t111.size : Int))))) - 1)) : Int).toNat).size + (Utf8.encode (wrap32 (IntKind.u8.wrap ((bt a0 (wrap64 ((wrap64 ((a0.size : Int) - (wrap64 ((a0.size : Int) - (t111.size : Int))))) - 1))) + 1)))).size ≤ 9223372036854775807 then ((strings_Repeat.f (⟨#[48]⟩ : ByteArray) (wrap64 ((a0.size : Int) - (t111.size : Int)))).bind fun t115 => (if ((a0.extract 0 ((wrap64 ((wrap64 ((a0.size : Int) - (wrap64 ((a0.size : Int) - (t111.size : Int))))) - 1)) : Int).toNat) ++ (Utf8.encode (wrap32 (IntKind.u8.wrap ((bt a0 (wrap64 ((wrap64 ((a0.size : Int) - (wrap64 ((a0.size : Int) - (t111.size : Int))))) - 1))) + 1))))).size + t115.size ≤ 9223372036854775807 then ((label_Right.f (((a0.extract 0 ((wrap64 ((wrap64 ((a0.size : Int) - (wrap64 ((a0.size : Int) - (t111.size : Int))))) - 1)) : Int).toNat) ++ (Utf8.encode (wrap32 (IntKind.u8.wrap ((bt a0 (wrap64 ((wrap64 ((a0.size : Int) - (wrap64 ((a0.size : Int) - (t111.size : Int))))) - 1))) + 1))))) ++ t115)).bind fun t116 => (if t116 = true then (some (((a0.extract 0 ((wrap64 ((wrap64 ((a0.size : Int) - (wrap64 ((a0.size : Int) - (t111.size : Int))))) - 1)) : Int).toNat) ++ (Utf8.encode (wrap32 (IntKind.u8.wrap ((bt a0 (wrap64 ((wrap64 ((a0.size : Int) - (wrap64 ((a0.size : Int) - (t111.size : Int))))) - 1))) + 1))))) ++ t115, 0)) else (some ((⟨#[]⟩ : ByteArray), 11)))) else (none))) else (none)) else (none)) else (none)) else (none)))) else (none)) = some (r1, r2) := H
    have A5 := Aside0.mk A50
    clear A50
    by_cases c6 : a0.size + 1 ≤ 9223372036854775807
    · rw [if_pos c6] at H
      have c6b0 := eq_true c6
      have c6b1 : decide (a0.size + 1 ≤ 9223372036854775807) = true := decide_eq_true c6
      try have c6b2 : (9223372036854775807 < a0.size + 1) = False := eq_false (Nat.not_lt.2 c6)
      by_cases c7 : (wrap64 ((a0.size : Int) - (t110.size : Int))) = 0
      · rw [if_pos c7] at H
        have c7b0 : ((wrap64 ((a0.size : Int) - (t110.size : Int))) == 0) = true := beq_iff_eq.mpr c7
        have c7b1 : ((wrap64 ((a0.size : Int) - (t110.size : Int))) != 0) = false := bne_eq_false_iff_eq.mpr c7
        clear c7
        replace H := Option.bind_eq_some_iff.mp H
        obtain ⟨t112, A80, H⟩ := H
        replace H : (if t112 = true then (some (a0 ++ (⟨#[48]⟩ : ByteArray), 0)) else (some ((⟨#[]⟩ : ByteArray), 11))) = some (r1, r2) := H
        have A8 := Aside0.mk A80
        clear A80
        by_cases c9 : t112 = true
        · subst c9
          have H1 : (some (a0 ++ (⟨#[48]⟩ : ByteArray), 0)) = some (r1, r2) := by rw [if_pos rfl] at H; exact H
          clear H
          have H := H1
          clear H1
          simp only [Option.some.injEq, Prod.mk.injEq] at H
          obtain ⟨rfl, rfl⟩ := H
          try clear c6
          go_enter Tryd.func13, Tryd.ntmps13
          go_wp2_with (first | ((with_reducible refine gate_callee (f := 15) rfl ?_); refine goesL_ (some 10) rfl rfl Tryd.func15 (by kernel_rfl) rfl #[.string a0] rfl (by (try simp only [List.map_toArray, List.map_cons, List.map_nil]); first | done | rfl | (simp only [List.length_drop, List.length_take]; rfl)) ?_; (with_reducible refine (label_Right.calls a0 true _ ?side1 A2.out).mono ?_); (case side1 => exact Tabs.below HT.out (by repeat (first | (with_reducible first | exact HB.out | apply below_alloc | apply pw_below_drewN | apply below_drew1) | exact HB.out))); rintro e w10 ⟨rfl, hb⟩; refine ⟨_, rfl, ?_⟩; have n0_ := Aside0.mk (below_step (by repeat (first | (with_reducible first | exact HB.out | apply below_alloc | apply pw_below_drewN | apply below_drew1) | exact HB.out)) hb); clear HB; have HB := n0_; clear n0_; (try clear hb); (try clear hb2); (try clear hk); (try clear hi)) | ((with_reducible refine gate_callee (f := 27) rfl ?_); refine goesL_ (some 13) rfl rfl Tryd.func27 (by kernel_rfl) rfl #[.string a0, .string (⟨#[48, 49, 50, 51, 52, 53, 54, 55, 56, 57]⟩ : ByteArray)] rfl (by (try simp only [List.map_toArray, List.map_cons, List.map_nil]); first | done | rfl | (simp only [List.length_drop, List.length_take]; rfl)) ?_; (with_reducible refine (strings_TrimRight.calls a0 (⟨#[48, 49, 50, 51, 52, 53, 54, 55, 56, 57]⟩ : ByteArray) t110 _ A4.out).mono ?_); rintro e w11 ⟨rfl, hb⟩; refine ⟨_, rfl, ?_⟩; have n0_ := Aside0.mk (below_step (by repeat (first | (with_reducible first | exact HB.out | apply below_alloc | apply pw_below_drewN | apply below_drew1) | exact HB.out)) hb); clear HB; have HB := n0_; clear n0_; (try clear hb); (try clear hb2); (try clear hk); (try clear hi)) | ((with_reducible refine gate_callee (f := 27) rfl ?_); refine goesL_ (some 17) rfl rfl Tryd.func27 (by kernel_rfl) rfl #[.string a0, .string (⟨#[57]⟩ : ByteArray)] rfl (by (try simp only [List.map_toArray, List.map_cons, List.map_nil]); first | done | rfl | (simp only [List.length_drop, List.length_take]; rfl)) ?_; (with_reducible refine (strings_TrimRight.calls a0 (⟨#[57]⟩ : ByteArray) t111 _ A5.out).mono ?_); rintro e w12 ⟨rfl, hb⟩; refine ⟨_, rfl, ?_⟩; have n0_ := Aside0.mk (below_step (by repeat (first | (with_reducible first | exact HB.out | apply below_alloc | apply pw_below_drewN | apply below_drew1) | exact HB.out)) hb); clear HB; have HB := n0_; clear n0_; (try clear hb); (try clear hb2); (try clear hk); (try clear hi)) | ((with_reducible refine gate_callee (f := 15) rfl ?_); refine goesL_ (some 58) rfl rfl Tryd.func15 (by kernel_rfl) rfl #[.string (a0 ++ (⟨#[48]⟩ : ByteArray))] rfl (by (try simp only [List.map_toArray, List.map_cons, List.map_nil]); first | done | rfl | (simp only [List.length_drop, List.length_take]; rfl)) ?_; (with_reducible refine (label_Right.calls (a0 ++ (⟨#[48]⟩ : ByteArray)) true _ ?side1 A8.out).mono ?_); (case side1 => exact Tabs.below HT.out (by repeat (first | (with_reducible first | exact HB.out | apply below_alloc | apply pw_below_drewN | apply below_drew1) | exact HB.out))); rintro e w13 ⟨rfl, hb⟩; refine ⟨_, rfl, ?_⟩; have n0_ := Aside0.mk (below_step (by repeat (first | (with_reducible first | exact HB.out | apply below_alloc | apply pw_below_drewN | apply below_drew1) | exact HB.out)) hb); clear HB; have HB := n0_; clear n0_; (try clear hb); (try clear hb2); (try clear hk); (try clear hi)))
          go_ret2
          exact ⟨by first | rfl | (simp [errW_none, errW_some] <;> rfl) | (simp [*, errW_none, errW_some] <;> rfl), by repeat (first | (with_reducible first | exact HB.out | apply below_alloc | apply pw_below_drewN | apply below_drew1) | exact HB.out)⟩
        · replace c9 := Bool.eq_false_iff.mpr c9
          subst c9
          have H1 : (some ((⟨#[]⟩ : ByteArray), 11)) = some (r1, r2) := by rw [if_neg (show ¬ (false = true) by decide)] at H; exact H
          clear H
          have H := H1
          clear H1
          simp only [Option.some.injEq, Prod.mk.injEq] at H
          obtain ⟨rfl, rfl⟩ := H
          try clear c6
          go_enter Tryd.func13, Tryd.ntmps13
          go_wp2_with (first | ((with_reducible refine gate_callee (f := 15) rfl ?_); refine goesL_ (some 10) rfl rfl Tryd.func15 (by kernel_rfl) rfl #[.string a0] rfl (by (try simp only [List.map_toArray, List.map_cons, List.map_nil]); first | done | rfl | (simp only [List.length_drop, List.length_take]; rfl)) ?_; (with_reducible refine (label_Right.calls a0 true _ ?side1 A2.out).mono ?_); (case side1 => exact Tabs.below HT.out (by repeat (first | (with_reducible first | exact HB.out | apply below_alloc | apply pw_below_drewN | apply below_drew1) | exact HB.out))); rintro e w14 ⟨rfl, hb⟩; refine ⟨_, rfl, ?_⟩; have n0_ := Aside0.mk (below_step (by repeat (first | (with_reducible first | exact HB.out | apply below_alloc | apply pw_below_drewN | apply below_drew1) | exact HB.out)) hb); clear HB; have HB := n0_; clear n0_; (try clear hb); (try clear hb2); (try clear hk); (try clear hi)) | ((with_reducible refine gate_callee (f := 27) rfl ?_); refine goesL_ (some 13) rfl rfl Tryd.func27 (by kernel_rfl) rfl #[.string a0, .string (⟨#[48, 49, 50, 51, 52, 53, 54, 55, 56, 57]⟩ : ByteArray)] rfl (by (try simp only [List.map_toArray, List.map_cons, List.map_nil]); first | done | rfl | (simp only [List.length_drop, List.length_take]; rfl)) ?_; (with_reducible refine (strings_TrimRight.calls a0 (⟨#[48, 49, 50, 51, 52, 53, 54, 55, 56, 57]⟩ : ByteArray) t110 _ A4.out).mono ?_); rintro e w15 ⟨rfl, hb⟩; refine ⟨_, rfl, ?_⟩; have n0_ := Aside0.mk (below_step (by repeat (first | (with_reducible first | exact HB.out | apply below_alloc | apply pw_below_drewN | apply below_drew1) | exact HB.out)) hb); clear HB; have HB := n0_; clear n0_; (try clear hb); (try clear hb2); (try clear hk); (try clear hi)) | ((with_reducible refine gate_callee (f := 27) rfl ?_); refine goesL_ (some 17) rfl rfl Tryd.func27 (by kernel_rfl) rfl #[.string a0, .string (⟨#[57]⟩ : ByteArray)] rfl (by (try simp only [List.map_toArray, List.map_cons, List.map_nil]); first | done | rfl | (simp only [List.length_drop, List.length_take]; rfl)) ?_; (with_reducible refine (strings_TrimRight.calls a0 (⟨#[57]⟩ : ByteArray) t111 _ A5.out).mono ?_); rintro e w16 ⟨rfl, hb⟩; refine ⟨_, rfl, ?_⟩; have n0_ := Aside0.mk (below_step (by repeat (first | (with_reducible first | exact HB.out | apply below_alloc | apply pw_below_drewN | apply below_drew1) | exact HB.out)) hb); clear HB; have HB := n0_; clear n0_; (try clear hb); (try clear hb2); (try clear hk); (try clear hi)) | ((with_reducible refine gate_callee (f := 15) rfl ?_); refine goesL_ (some 58) rfl rfl Tryd.func15 (by kernel_rfl) rfl #[.string (a0 ++ (⟨#[48]⟩ : ByteArray))] rfl (by (try simp only [List.map_toArray, List.map_cons, List.map_nil]); first | done | rfl | (simp only [List.length_drop, List.length_take]; rfl)) ?_; (with_reducible refine (label_Right.calls (a0 ++ (⟨#[48]⟩ : ByteArray)) false _ ?side1 A8.out).mono ?_); (case side1 => exact Tabs.below HT.out (by repeat (first | (with_reducible first | exact HB.out | apply below_alloc | apply pw_below_drewN | apply below_drew1) | exact HB.out))); rintro e w17 ⟨rfl, hb⟩; refine ⟨_, rfl, ?_⟩; have n0_ := Aside0.mk (below_step (by repeat (first | (with_reducible first | exact HB.out | apply below_alloc | apply pw_below_drewN | apply below_drew1) | exact HB.out)) hb); clear HB; have HB := n0_; clear n0_; (try clear hb); (try clear hb2); (try clear hk); (try clear hi)))
          go_ret2
          exact ⟨by first | rfl | (simp [errW_none, errW_some] <;> rfl) | (simp [*, errW_none, errW_some] <;> rfl), by repeat (first | (with_reducible first | exact HB.out | apply below_alloc | apply pw_below_drewN | apply below_drew1) | exact HB.out)⟩
      · rw [if_neg c7] at H
        have c7b0 : ((wrap64 ((a0.size : Int) - (t110.size : Int))) == 0) = false := beq_eq_false_iff_ne.mpr c7
        have c7b1 : ((wrap64 ((a0.size : Int) - (t110.size : Int))) != 0) = true := bne_iff_ne.mpr c7
        by_cases c18 : (wrap64 ((a0.size : Int) - (t111.size : Int))) = (wrap64 ((a0.size : Int) - (t110.size : Int)))
        · rw [if_pos c18] at H
          have c18b0 : ((wrap64 ((a0.size : Int) - (t111.size : Int))) == (wrap64 ((a0.size : Int) - (t110.size : Int)))) = true := beq_iff_eq.mpr c18
          have c18b1 : ((wrap64 ((a0.size : Int) - (t111.size : Int))) != (wrap64 ((a0.size : Int) - (t110.size : Int)))) = false := bne_eq_false_iff_eq.mpr c18
          clear c18
          by_cases c19 : t110.size + 1 ≤ 9223372036854775807
          · rw [if_pos c19] at H
            have c19b0 := eq_true c19
            have c19b1 : decide (t110.size + 1 ≤ 9223372036854775807) = true := decide_eq_true c19
            try have c19b2 : (9223372036854775807 < t110.size + 1) = False := eq_false (Nat.not_lt.2 c19)
            replace H := Option.bind_eq_some_iff.mp H
            obtain ⟨t113, A200, H⟩ := H
            replace H : (if (t110 ++ (⟨#[49]⟩ : ByteArray)).size + t113.size ≤ 9223372036854775807 then ((label_Right.f ((t110 ++ (⟨#[49]⟩ : ByteArray)) ++ t113)).bind fun t114 => (if t114 = true then (some ((t110 ++ (⟨#[49]⟩ : ByteArray)) ++ t113, 0)) else (some ((⟨#[]⟩ : ByteArray), 11)))) else (none)) = some (r1, r2) := H
            have A20 := Aside0.mk A200
            clear A200
            by_cases c21 : (t110 ++ (⟨#[49]⟩ : ByteArray)).size + t113.size ≤ 9223372036854775807
            · rw [if_pos c21] at H
              have c21b0 := eq_true c21
              have c21b1 : decide ((t110 ++ (⟨#[49]⟩ : ByteArray)).size + t113.size ≤ 9223372036854775807) = true := decide_eq_true c21
              try have c21b2 : (9223372036854775807 < (t110 ++ (⟨#[49]⟩ : ByteArray)).size + t113.size) = False := eq_false (Nat.not_lt.2 c21)
              try have c21b4 : (9223372036854775807 < t110.size + 1 + t113.size) = False := eq_false (by have h_ := c21; simp only [decide_eq_true_eq, eq_iff_iff, iff_true, ByteArray.size_append, ByteArray.size_extract, szlit, List.size_toArray, List.length_cons, List.length_nil] at *; first | omega | (obtain ⟨j_, hj_⟩ : ∃ j_ : Int, j_ = 0 := ⟨_, rfl⟩; rw [← hj_] at *; have w_ : wrap64 (j_ + 1) = j_ + 1 := (by unfold wrap64; omega); rw [w_] at h_; omega))
              replace H := Option.bind_eq_some_iff.mp H
              obtain ⟨t114, A220, H⟩ := H
              replace H : (if t114 = true then (some ((t110 ++ (⟨#[49]⟩ : ByteArray)) ++ t113, 0)) else (some ((⟨#[]⟩ : ByteArray), 11))) = some (r1, r2) := H
              have A22 := Aside0.mk A220
              clear A220
              by_cases c23 : t114 = true
              · subst c23
                have H1 : (some ((t110 ++ (⟨#[49]⟩ : ByteArray)) ++ t113, 0)) = some (r1, r2) := by rw [if_pos rfl] at H; exact H
                clear H
                have H := H1
                clear H1
                simp only [Option.some.injEq, Prod.mk.injEq] at H
                obtain ⟨rfl, rfl⟩ := H
                try clear c6
                try clear c19
                try clear c21
                go_enter Tryd.func13, Tryd.ntmps13
                go_wp2_with (first | ((with_reducible refine gate_callee (f := 15) rfl ?_); refine goesL_ (some 10) rfl rfl Tryd.func15 (by kernel_rfl) rfl #[.string a0] rfl (by (try simp only [List.map_toArray, List.map_cons, List.map_nil]); first | done | rfl | (simp only [List.length_drop, List.length_take]; rfl)) ?_; (with_reducible refine (label_Right.calls a0 true _ ?side1 A2.out).mono ?_); (case side1 => exact Tabs.below HT.out (by repeat (first | (with_reducible first | exact HB.out | apply below_alloc | apply pw_below_drewN | apply below_drew1) | exact HB.out))); rintro e w24 ⟨rfl, hb⟩; refine ⟨_, rfl, ?_⟩; have n0_ := Aside0.mk (below_step (by repeat (first | (with_reducible first | exact HB.out | apply below_alloc | apply pw_below_drewN | apply below_drew1) | exact HB.out)) hb); clear HB; have HB := n0_; clear n0_; (try clear hb); (try clear hb2); (try clear hk); (try clear hi)) | ((with_reducible refine gate_callee (f := 27) rfl ?_); refine goesL_ (some 13) rfl rfl Tryd.func27 (by kernel_rfl) rfl #[.string a0, .string (⟨#[48, 49, 50, 51, 52, 53, 54, 55, 56, 57]⟩ : ByteArray)] rfl (by (try simp only [List.map_toArray, List.map_cons, List.map_nil]); first | done | rfl | (simp only [List.length_drop, List.length_take]; rfl)) ?_; (with_reducible refine (strings_TrimRight.calls a0 (⟨#[48, 49, 50, 51, 52, 53, 54, 55, 56, 57]⟩ : ByteArray) t110 _ A4.out).mono ?_); rintro e w25 ⟨rfl, hb⟩; refine ⟨_, rfl, ?_⟩; have n0_ := Aside0.mk (below_step (by repeat (first | (with_reducible first | exact HB.out | apply below_alloc | apply pw_below_drewN | apply below_drew1) | exact HB.out)) hb); clear HB; have HB := n0_; clear n0_; (try clear hb); (try clear hb2); (try clear hk); (try clear hi)) | ((with_reducible refine gate_callee (f := 27) rfl ?_); refine goesL_ (some 17) rfl rfl Tryd.func27 (by kernel_rfl) rfl #[.string a0, .string (⟨#[57]⟩ : ByteArray)] rfl (by (try simp only [List.map_toArray, List.map_cons, List.map_nil]); first | done | rfl | (simp only [List.length_drop, List.length_take]; rfl)) ?_; (with_reducible refine (strings_TrimRight.calls a0 (⟨#[57]⟩ : ByteArray) t111 _ A5.out).mono ?_); rintro e w26 ⟨rfl, hb⟩; refine ⟨_, rfl, ?_⟩; have n0_ := Aside0.mk (below_step (by repeat (first | (with_reducible first | exact HB.out | apply below_alloc | apply pw_below_drewN | apply below_drew1) | exact HB.out)) hb); clear HB; have HB := n0_; clear n0_; (try clear hb); (try clear hb2); (try clear hk); (try clear hi)) | ((with_reducible refine gate_callee (f := 28) rfl ?_); refine goesL_ (some 55) rfl rfl Tryd.func28 (by kernel_rfl) rfl #[.string (⟨#[48]⟩ : ByteArray), .int .i64 (wrap64 ((a0.size : Int) - (t110.size : Int)))] rfl (by (try simp only [List.map_toArray, List.map_cons, List.map_nil]); first | done | rfl | (simp only [List.length_drop, List.length_take]; rfl)) ?_; (with_reducible refine (strings_Repeat.calls (⟨#[48]⟩ : ByteArray) (wrap64 ((a0.size : Int) - (t110.size : Int))) t113 _ A20.out).mono ?_); rintro e w27 ⟨rfl, hb⟩; refine ⟨_, rfl, ?_⟩; have n0_ := Aside0.mk (below_step (by repeat (first | (with_reducible first | exact HB.out | apply below_alloc | apply pw_below_drewN | apply below_drew1) | exact HB.out)) hb); clear HB; have HB := n0_; clear n0_; (try clear hb); (try clear hb2); (try clear hk); (try clear hi)) | ((with_reducible refine gate_callee (f := 15) rfl ?_); refine goesL_ (some 58) rfl rfl Tryd.func15 (by kernel_rfl) rfl #[.string ((t110 ++ (⟨#[49]⟩ : ByteArray)) ++ t113)] rfl (by (try simp only [List.map_toArray, List.map_cons, List.map_nil]); first | done | rfl | (simp only [List.length_drop, List.length_take]; rfl)) ?_; (with_reducible refine (label_Right.calls ((t110 ++ (⟨#[49]⟩ : ByteArray)) ++ t113) true _ ?side1 A22.out).mono ?_); (case side1 => exact Tabs.below HT.out (by repeat (first | (with_reducible first | exact HB.out | apply below_alloc | apply pw_below_drewN | apply below_drew1) | exact HB.out))); rintro e w28 ⟨rfl, hb⟩; refine ⟨_, rfl, ?_⟩; have n0_ := Aside0.mk (below_step (by repeat (first | (with_reducible first | exact HB.out | apply below_alloc | apply pw_below_drewN | apply below_drew1) | exact HB.out)) hb); clear HB; have HB := n0_; clear n0_; (try clear hb); (try clear hb2); (try clear hk); (try clear hi)))
                go_ret2
                exact ⟨by first | rfl | (simp [errW_none, errW_some] <;> rfl) | (simp [*, errW_none, errW_some] <;> rfl), by repeat (first | (with_reducible first | exact HB.out | apply below_alloc | apply pw_below_drewN | apply below_drew1) | exact HB.out)⟩
              · replace c23 := Bool.eq_false_iff.mpr c23
                subst c23
                have H1 : (some ((⟨#[]⟩ : ByteArray), 11)) = some (r1, r2) := by rw [if_neg (show ¬ (false = true) by decide)] at H; exact H
                clear H
                have H := H1
                clear H1
                simp only [Option.some.injEq, Prod.mk.injEq] at H
                obtain ⟨rfl, rfl⟩ := H
                try clear c6
                try clear c19
                try clear c21
                go_enter Tryd.func13, Tryd.ntmps13
                go_wp2_with (first | ((with_reducible refine gate_callee (f := 15) rfl ?_); refine goesL_ (some 10) rfl rfl Tryd.func15 (by kernel_rfl) rfl #[.string a0] rfl (by (try simp only [List.map_toArray, List.map_cons, List.map_nil]); first | done | rfl | (simp only [List.length_drop, List.length_take]; rfl)) ?_; (with_reducible refine (label_Right.calls a0 true _ ?side1 A2.out).mono ?_); (case side1 => exact Tabs.below HT.out (by repeat (first | (with_reducible first | exact HB.out | apply below_alloc | apply pw_below_drewN | apply below_drew1) | exact HB.out))); rintro e w29 ⟨rfl, hb⟩; refine ⟨_, rfl, ?_⟩; have n0_ := Aside0.mk (below_step (by repeat (first | (with_reducible first | exact HB.out | apply below_alloc | apply pw_below_drewN | apply below_drew1) | exact HB.out)) hb); clear HB; have HB := n0_; clear n0_; (try clear hb); (try clear hb2); (try clear hk); (try clear hi)) | ((with_reducible refine gate_callee (f := 27) rfl ?_); refine goesL_ (some 13) rfl rfl Tryd.func27 (by kernel_rfl) rfl #[.string a0, .string (⟨#[48, 49, 50, 51, 52, 53, 54, 55, 56, 57]⟩ : ByteArray)] rfl (by (try simp only [List.map_toArray, List.map_cons, List.map_nil]); first | done | rfl | (simp only [List.length_drop, List.length_take]; rfl)) ?_; (with_reducible refine (strings_TrimRight.calls a0 (⟨#[48, 49, 50, 51, 52, 53, 54, 55, 56, 57]⟩ : ByteArray) t110 _ A4.out).mono ?_); rintro e w30 ⟨rfl, hb⟩; refine ⟨_, rfl, ?_⟩; have n0_ := Aside0.mk (below_step (by repeat (first | (with_reducible first | exact HB.out | apply below_alloc | apply pw_below_drewN | apply below_drew1) | exact HB.out)) hb); clear HB; have HB := n0_; clear n0_; (try clear hb); (try clear hb2); (try clear hk); (try clear hi)) | ((with_reducible refine gate_callee (f := 27) rfl ?_); refine goesL_ (some 17) rfl rfl Tryd.func27 (by kernel_rfl) rfl #[.string a0, .string (⟨#[57]⟩ : ByteArray)] rfl (by (try simp only [List.map_toArray, List.map_cons, List.map_nil]); first | done | rfl | (simp only [List.length_drop, List.length_take]; rfl)) ?_; (with_reducible refine (strings_TrimRight.calls a0 (⟨#[57]⟩ : ByteArray) t111 _ A5.out).mono ?_); rintro e w31 ⟨rfl, hb⟩; refine ⟨_, rfl, ?_⟩; have n0_ := Aside0.mk (below_step (by repeat (first | (with_reducible first | exact HB.out | apply below_alloc | apply pw_below_drewN | apply below_drew1) | exact HB.out)) hb); clear HB; have HB := n0_; clear n0_; (try clear hb); (try clear hb2); (try clear hk); (try clear hi)) | ((with_reducible refine gate_callee (f := 28) rfl ?_); refine goesL_ (some 55) rfl rfl Tryd.func28 (by kernel_rfl) rfl #[.string (⟨#[48]⟩ : ByteArray), .int .i64 (wrap64 ((a0.size : Int) - (t110.size : Int)))] rfl (by (try simp only [List.map_toArray, List.map_cons, List.map_nil]); first | done | rfl | (simp only [List.length_drop, List.length_take]; rfl)) ?_; (with_reducible refine (strings_Repeat.calls (⟨#[48]⟩ : ByteArray) (wrap64 ((a0.size : Int) - (t110.size : Int))) t113 _ A20.out).mono ?_); rintro e w32 ⟨rfl, hb⟩; refine ⟨_, rfl, ?_⟩; have n0_ := Aside0.mk (below_step (by repeat (first | (with_reducible first | exact HB.out | apply below_alloc | apply pw_below_drewN | apply below_drew1) | exact HB.out)) hb); clear HB; have HB := n0_; clear n0_; (try clear hb); (try clear hb2); (try clear hk); (try clear hi)) | ((with_reducible refine gate_callee (f := 15) rfl ?_); refine goesL_ (some 58) rfl rfl Tryd.func15 (by kernel_rfl) rfl #[.string ((t110 ++ (⟨#[49]⟩ : ByteArray)) ++ t113)] rfl (by (try simp only [List.map_toArray, List.map_cons, List.map_nil]); first | done | rfl | (simp only [List.length_drop, List.length_take]; rfl)) ?_; (with_reducible refine (label_Right.calls ((t110 ++ (⟨#[49]⟩ : ByteArray)) ++ t113) false _ ?side1 A22.out).mono ?_); (case side1 => exact Tabs.below HT.out (by repeat (first | (with_reducible first | exact HB.out | apply below_alloc | apply pw_below_drewN | apply below_drew1) | exact HB.out))); rintro e w33 ⟨rfl, hb⟩; refine ⟨_, rfl, ?_⟩; have n0_ := Aside0.mk (below_step (by repeat (first | (with_reducible first | exact HB.out | apply below_alloc | apply pw_below_drewN | apply below_drew1) | exact HB.out)) hb); clear HB; have HB := n0_; clear n0_; (try clear hb); (try clear hb2); (try clear hk); (try clear hi)))
                go_ret2
                exact ⟨by first | rfl | (simp [errW_none, errW_some] <;> rfl) | (simp [*, errW_none, errW_some] <;> rfl), by repeat (first | (with_reducible first | exact HB.out | apply below_alloc | apply pw_below_drewN | apply below_drew1) | exact HB.out)⟩
            · rw [if_neg c21] at H
              exact absurd H (by simp)
          · rw [if_neg c19] at H
            exact absurd H (by simp)
        · rw [if_neg c18] at H
          have c18b0 : ((wrap64 ((a0.size : Int) - (t111.size : Int))) == (wrap64 ((a0.size : Int) - (t110.size : Int)))) = false := beq_eq_false_iff_ne.mpr c18
          have c18b1 : ((wrap64 ((a0.size : Int) - (t111.size : Int))) != (wrap64 ((a0.size : Int) - (t110.size : Int)))) = true := bne_iff_ne.mpr c18
          obtain ⟨ji34, hji34⟩ : ∃ j_ : Int, (wrap64 ((wrap64 ((a0.size : Int) - (wrap64 ((a0.size : Int) - (t111.size : Int))))) - 1)) = j_ := ⟨_, rfl⟩
          replace H : (if 0 ≤ (ji34) then (if (ji34) ≤ (a0.size : Int) then (if (ji34) < (a0.size : Int) then (if (a0.extract 0 ((ji34) : Int).toNat).size + (Utf8.encode (wrap32 (IntKind.u8.wrap ((bt a0 (ji34)) + 1)))).size ≤ 9223372036854775807 then ((strings_Repeat.f (⟨#[48]⟩ : ByteArray) (wrap64 ((a0.size : Int) - (t111.size : Int)))).bind fun t115 => (if ((a0.extract 0 ((ji34) : Int).toNat) ++ (Utf8.encode (wrap32 (IntKind.u8.wrap ((bt a0 (ji34)) + 1))))).size + t115.size ≤ 9223372036854775807 then ((label_Right.f (((a0.extract 0 ((ji34) : Int).toNat) ++ (Utf8.encode (wrap32 (IntKind.u8.wrap ((bt a0 (ji34)) + 1))))) ++ t115)).bind fun t116 => (if t116 = true then (some (((a0.extract 0 ((ji34) : Int).toNat) ++ (Utf8.encode (wrap32 (IntKind.u8.wrap ((bt a0 (ji34)) + 1))))) ++ t115, 0)) else (some ((⟨#[]⟩ : ByteArray), 11)))) else (none))) else (none)) else (none)) else (none)) else (none)) = some (r1, r2) := by first | (rw [hji34] at H; exact H) | (simp only [hji34] at H ⊢; exact H)
          (try rw [hji34] at A2)
          (try rw [hji34] at A4)
          (try rw [hji34] at A5)
          have hji34w : (IntKind.i64.wrap ((wrap64 ((a0.size : Int) - (wrap64 ((a0.size : Int) - (t111.size : Int))))) - 1)) = ji34 := (i64_w _).trans hji34
          by_cases c35 : 0 ≤ (ji34)
          · rw [if_pos c35] at H
            have c35b0 := eq_true c35
            have c35b1 : decide (0 ≤ (ji34)) = true := decide_eq_true c35
            clear c35
            by_cases c36 : (ji34) ≤ (a0.size : Int)
            · rw [if_pos c36] at H
              have c36b0 := eq_true c36
              have c36b1 : decide ((ji34) ≤ (a0.size : Int)) = true := decide_eq_true c36
              clear c36
              by_cases c37 : (ji34) < (a0.size : Int)
              · rw [if_pos c37] at H
                have c37b0 : decide ((ji34) < (a0.size : Int)) = true := decide_eq_true c37
                clear c37
                by_cases c39 : (a0.extract 0 ((ji34) : Int).toNat).size + (Utf8.encode (wrap32 (IntKind.u8.wrap ((bt a0 (ji34)) + 1)))).size ≤ 9223372036854775807
                · rw [if_pos c39] at H
                  have c39b0 := eq_true c39
                  have c39b1 : decide ((a0.extract 0 ((ji34) : Int).toNat).size + (Utf8.encode (wrap32 (IntKind.u8.wrap ((bt a0 (ji34)) + 1)))).size ≤ 9223372036854775807) = true := decide_eq_true c39
                  try have c39b2 : (9223372036854775807 < (a0.extract 0 ((ji34) : Int).toNat).size + (Utf8.encode (wrap32 (IntKind.u8.wrap ((bt a0 (ji34)) + 1)))).size) = False := eq_false (Nat.not_lt.2 c39)
                  try have c39b4 : (9223372036854775807 < min ji34.toNat a0.size + (Utf8.encode (wrap32 (IntKind.u8.wrap ((bt a0 (ji34)) + 1)))).size) = False := eq_false (by have h_ := c39; simp only [decide_eq_true_eq, eq_iff_iff, iff_true, ByteArray.size_append, ByteArray.size_extract, szlit, List.size_toArray, List.length_cons, List.length_nil] at *; first | omega | (obtain ⟨j_, hj_⟩ : ∃ j_ : Int, j_ = 0 := ⟨_, rfl⟩; rw [← hj_] at *; have w_ : wrap64 (j_ + 1) = j_ + 1 := (by unfold wrap64; omega); rw [w_] at h_; omega))
                  try have c39b5 : (9223372036854775807 < ji34.toNat + (Utf8.encode (wrap32 (IntKind.u8.wrap ((bt a0 (ji34)) + 1)))).size) = False := eq_false (by have h_ := c39; simp only [decide_eq_true_eq, eq_iff_iff, iff_true, ByteArray.size_append, ByteArray.size_extract, szlit, List.size_toArray, List.length_cons, List.length_nil] at *; first | omega | (obtain ⟨j_, hj_⟩ : ∃ j_ : Int, j_ = 0 := ⟨_, rfl⟩; rw [← hj_] at *; have w_ : wrap64 (j_ + 1) = j_ + 1 := (by unfold wrap64; omega); rw [w_] at h_; omega))
                  replace H := Option.bind_eq_some_iff.mp H
                  obtain ⟨t115, A400, H⟩ := H
                  replace H : (if ((a0.extract 0 ((ji34) : Int).toNat) ++ (Utf8.encode (wrap32 (IntKind.u8.wrap ((bt a0 (ji34)) + 1))))).size + t115.size ≤ 9223372036854775807 then ((label_Right.f (((a0.extract 0 ((ji34) : Int).toNat) ++ (Utf8.encode (wrap32 (IntKind.u8.wrap ((bt a0 (ji34)) + 1))))) ++ t115)).bind fun t116 => (if t116 = true then (some (((a0.extract 0 ((ji34) : Int).toNat) ++ (Utf8.encode (wrap32 (IntKind.u8.wrap ((bt a0 (ji34)) + 1))))) ++ t115, 0)) else (some ((⟨#[]⟩ : ByteArray), 11)))) else (none)) = some (r1, r2) := H
                  have A40 := Aside0.mk A400
                  clear A400
                  by_cases c41 : ((a0.extract 0 ((ji34) : Int).toNat) ++ (Utf8.encode (wrap32 (IntKind.u8.wrap ((bt a0 (ji34)) + 1))))).size + t115.size ≤ 9223372036854775807
                  · rw [if_pos c41] at H
                    have c41b0 := eq_true c41
                    have c41b1 : decide (((a0.extract 0 ((ji34) : Int).toNat) ++ (Utf8.encode (wrap32 (IntKind.u8.wrap ((bt a0 (ji34)) + 1))))).size + t115.size ≤ 9223372036854775807) = true := decide_eq_true c41
                    try have c41b2 : (9223372036854775807 < ((a0.extract 0 ((ji34) : Int).toNat) ++ (Utf8.encode (wrap32 (IntKind.u8.wrap ((bt a0 (ji34)) + 1))))).size + t115.size) = False := eq_false (Nat.not_lt.2 c41)
                    try have c41b4 : (9223372036854775807 < (a0.extract 0 ((ji34) : Int).toNat).size + (Utf8.encode (wrap32 (IntKind.u8.wrap ((bt a0 (ji34)) + 1)))).size + t115.size) = False := eq_false (by have h_ := c41; simp only [decide_eq_true_eq, eq_iff_iff, iff_true, ByteArray.size_append, ByteArray.size_extract, szlit, List.size_toArray, List.length_cons, List.length_nil] at *; first | omega | (obtain ⟨j_, hj_⟩ : ∃ j_ : Int, j_ = 0 := ⟨_, rfl⟩; rw [← hj_] at *; have w_ : wrap64 (j_ + 1) = j_ + 1 := (by unfold wrap64; omega); rw [w_] at h_; omega))
                    try have c41b5 : (9223372036854775807 < min ji34.toNat a0.size + (Utf8.encode (wrap32 (IntKind.u8.wrap ((bt a0 (ji34)) + 1)))).size + t115.size) = False := eq_false (by have h_ := c41; simp only [decide_eq_true_eq, eq_iff_iff, iff_true, ByteArray.size_append, ByteArray.size_extract, szlit, List.size_toArray, List.length_cons, List.length_nil] at *; first | omega | (obtain ⟨j_, hj_⟩ : ∃ j_ : Int, j_ = 0 := ⟨_, rfl⟩; rw [← hj_] at *; have w_ : wrap64 (j_ + 1) = j_ + 1 := (by unfold wrap64; omega); rw [w_] at h_; omega))
                    try have c41b6 : (9223372036854775807 < ji34.toNat + (Utf8.encode (wrap32 (IntKind.u8.wrap ((bt a0 (ji34)) + 1)))).size + t115.size) = False := eq_false (by have h_ := c41; simp only [decide_eq_true_eq, eq_iff_iff, iff_true, ByteArray.size_append, ByteArray.size_extract, szlit, List.size_toArray, List.length_cons, List.length_nil] at *; first | omega | (obtain ⟨j_, hj_⟩ : ∃ j_ : Int, j_ = 0 := ⟨_, rfl⟩; rw [← hj_] at *; have w_ : wrap64 (j_ + 1) = j_ + 1 := (by unfold wrap64; omega); rw [w_] at h_; omega))
                    replace H := Option.bind_eq_some_iff.mp H
                    obtain ⟨t116, A420, H⟩ := H
                    replace H : (if t116 = true then (some (((a0.extract 0 ((ji34) : Int).toNat) ++ (Utf8.encode (wrap32 (IntKind.u8.wrap ((bt a0 (ji34)) + 1))))) ++ t115, 0)) else (some ((⟨#[]⟩ : ByteArray), 11))) = some (r1, r2) := H
                    have A42 := Aside0.mk A420
                    clear A420
                    by_cases c43 : t116 = true
                    · subst c43
                      have H1 : (some (((a0.extract 0 ((ji34) : Int).toNat) ++ (Utf8.encode (wrap32 (IntKind.u8.wrap ((bt a0 (ji34)) + 1))))) ++ t115, 0)) = some (r1, r2) := by rw [if_pos rfl] at H; exact H
                      clear H
                      have H := H1
                      clear H1
                      simp only [Option.some.injEq, Prod.mk.injEq] at H
                      obtain ⟨rfl, rfl⟩ := H
                      try clear c6
                      try clear c19
                      try clear c21
                      try clear c39
                      try clear c41
                      go_enter Tryd.func13, Tryd.ntmps13
                      try go_wp2_with (first | ((with_reducible refine gate_callee (f := 15) rfl ?_); refine goesL_ (some 10) rfl rfl Tryd.func15 (by kernel_rfl) rfl #[.string a0] rfl (by (try simp only [List.map_toArray, List.map_cons, List.map_nil]); first | done | rfl | (simp only [List.length_drop, List.length_take]; rfl)) ?_; (with_reducible refine (label_Right.calls a0 true _ ?side1 A2.out).mono ?_); (case side1 => exact Tabs.below HT.out (by repeat (first | (with_reducible first | exact HB.out | apply below_alloc | apply pw_below_drewN | apply below_drew1) | exact HB.out))); rintro e w44 ⟨rfl, hb⟩; refine ⟨_, rfl, ?_⟩; have n0_ := Aside0.mk (below_step (by repeat (first | (with_reducible first | exact HB.out | apply below_alloc | apply pw_below_drewN | apply below_drew1) | exact HB.out)) hb); clear HB; have HB := n0_; clear n0_; (try clear hb); (try clear hb2); (try clear hk); (try clear hi)) | ((with_reducible refine gate_callee (f := 27) rfl ?_); refine goesL_ (some 13) rfl rfl Tryd.func27 (by kernel_rfl) rfl #[.string a0, .string (⟨#[48, 49, 50, 51, 52, 53, 54, 55, 56, 57]⟩ : ByteArray)] rfl (by (try simp only [List.map_toArray, List.map_cons, List.map_nil]); first | done | rfl | (simp only [List.length_drop, List.length_take]; rfl)) ?_; (with_reducible refine (strings_TrimRight.calls a0 (⟨#[48, 49, 50, 51, 52, 53, 54, 55, 56, 57]⟩ : ByteArray) t110 _ A4.out).mono ?_); rintro e w45 ⟨rfl, hb⟩; refine ⟨_, rfl, ?_⟩; have n0_ := Aside0.mk (below_step (by repeat (first | (with_reducible first | exact HB.out | apply below_alloc | apply pw_below_drewN | apply below_drew1) | exact HB.out)) hb); clear HB; have HB := n0_; clear n0_; (try clear hb); (try clear hb2); (try clear hk); (try clear hi)) | ((with_reducible refine gate_callee (f := 27) rfl ?_); refine goesL_ (some 17) rfl rfl Tryd.func27 (by kernel_rfl) rfl #[.string a0, .string (⟨#[57]⟩ : ByteArray)] rfl (by (try simp only [List.map_toArray, List.map_cons, List.map_nil]); first | done | rfl | (simp only [List.length_drop, List.length_take]; rfl)) ?_; (with_reducible refine (strings_TrimRight.calls a0 (⟨#[57]⟩ : ByteArray) t111 _ A5.out).mono ?_); rintro e w46 ⟨rfl, hb⟩; refine ⟨_, rfl, ?_⟩; have n0_ := Aside0.mk (below_step (by repeat (first | (with_reducible first | exact HB.out | apply below_alloc | apply pw_below_drewN | apply below_drew1) | exact HB.out)) hb); clear HB; have HB := n0_; clear n0_; (try clear hb); (try clear hb2); (try clear hk); (try clear hi)))
                      (try (rw [drewN_self w46]; generalize hq_ : World.drewN w46 _ = w46; have n0_ := Aside0.mk (below_at hq_ HB.out); clear hq_ HB; have HB := n0_; clear n0_))
                      have n0_ := Aside0.mk (below_drew1 HB.out)
                      clear HB
                      have HB := n0_
                      clear n0_
                      have p38 : 0 ≤ ((ji34) : Int) := of_decide_eq_true (by first | (with_reducible assumption) | assumption)
                      have q38 : (ji34) < (a0.size : Int) := of_decide_eq_true (by first | (with_reducible assumption) | assumption)
                      have hx38 := bt_at a0 (ji34)
                      replace p38 := eq_true p38
                      replace q38 := eq_true q38
                      refine start_ (n := 14) (S := fun w' => True) (ds := []) #[false, false, false, false, false, false, false, false, false, false, false, false, false, false] (by kernel_rfl) rfl rfl trivial (fun hHeld => ?_); refine with_tabW label_Next.tab8 label_Next.bits8 (fun HT_ HW_ => ?_)
                      generalize w46.drew = w47 at HB hHeld ⊢
                      refine pure_ (i := 0) (N := some 32) (v := ?_) (a' := ?_) #[true, false, false, false, false, false, false, false, false, false, false, false, false, false] rfl rfl (any_of HT_.out (by kernel_rfl)) (fun _ _ _ h => h) (Or.inl ⟨by rfl, ?_⟩) ?_ ?_
                      rotate_left
                      · intro w'
                        go_simp
                        with_reducible rfl
                      rotate_left
                      · simp only [Act.put, List.setIfInBounds_toArray, List.set_cons_zero, List.set_cons_succ, i64_w, i32_w]
                        rfl
                      refine pure_ (i := 1) (N := some 33) (v := ?_) (a' := ?_) #[true, true, false, false, false, false, false, false, false, false, false, false, false, false] rfl rfl (any_of HT_.out (by kernel_rfl)) (fun _ _ _ h => h) (Or.inl ⟨by rfl, ?_⟩) ?_ ?_
                      rotate_left
                      · intro w'
                        go_simp
                        with_reducible rfl
                      rotate_left
                      · simp only [Act.put, List.setIfInBounds_toArray, List.set_cons_zero, List.set_cons_succ, i64_w, i32_w]
                        rfl
                      refine pure_ (i := 2) (N := some 34) (v := ?_) (a' := ?_) #[true, true, true, false, false, false, false, false, false, false, false, false, false, false] rfl rfl (any_of HT_.out (by kernel_rfl)) (fun _ _ _ h => h) (Or.inl ⟨by rfl, ?_⟩) ?_ ?_
                      rotate_left
                      · intro w'
                        go_simp
                        with_reducible rfl
                      rotate_left
                      · simp only [Act.put, List.setIfInBounds_toArray, List.set_cons_zero, List.set_cons_succ, i64_w, i32_w]
                        rfl
                      refine pure_ (i := 3) (N := some 35) (v := ?_) (a' := ?_) #[true, true, true, true, false, false, false, false, false, false, false, false, false, false] rfl rfl (any_of HT_.out (by kernel_rfl)) (fun _ _ _ h => h) (Or.inl ⟨by rfl, ?_⟩) ?_ ?_
                      rotate_left
                      · intro w'
                        go_simp
                        with_reducible rfl
                      rotate_left
                      · simp only [Act.put, List.setIfInBounds_toArray, List.set_cons_zero, List.set_cons_succ, i64_w, i32_w]
                        rfl
                      refine pure_ (i := 4) (N := some 36) (v := ?_) (a' := ?_) #[true, true, true, true, true, false, false, false, false, false, false, false, false, false] rfl rfl (any_of HT_.out (by kernel_rfl)) (fun _ _ _ h => h) (Or.inl ⟨by rfl, ?_⟩) ?_ ?_
                      rotate_left
                      · intro w'
                        go_simp
                        with_reducible rfl
                      rotate_left
                      · simp only [Act.put, List.setIfInBounds_toArray, List.set_cons_zero, List.set_cons_succ, i64_w, i32_w]
                        rfl
                      refine pure_ (i := 10) (N := some 42) (v := ?_) (a' := ?_) #[true, true, true, true, true, false, false, false, false, false, true, false, false, false] rfl rfl (any_of HT_.out (by kernel_rfl)) (fun _ _ _ h => h) (Or.inl ⟨by rfl, ?_⟩) ?_ ?_
                      rotate_left
                      · intro w'
                        go_simp
                        with_reducible rfl
                      rotate_left
                      · simp only [Act.put, List.setIfInBounds_toArray, List.set_cons_zero, List.set_cons_succ, i64_w, i32_w]
                        rfl
                      refine take_ (i := 5) (N := some 37) (v := ?_) (a' := ?_) #[true, true, true, true, true, true, false, false, false, false, true, false, false, false] rfl rfl (take_ofW HT_.out HW_.out (by kernel_rfl)) (fun _ _ _ h => h) (Or.inl ⟨by rfl, ?_⟩) hHeld ?_ ?_
                      rotate_left
                      · intro w' _
                        go_simp
                        with_reducible rfl
                      rotate_left
                      · simp only [Act.put, List.setIfInBounds_toArray, List.set_cons_zero, List.set_cons_succ, i64_w, i32_w]
                        rfl
                      refine pure_ (i := 6) (N := some 38) (v := ?_) (a' := ?_) #[true, true, true, true, true, true, true, false, false, false, true, false, false, false] rfl rfl (any_of HT_.out (by kernel_rfl)) (fun _ _ _ h => h) (Or.inl ⟨by rfl, ?_⟩) ?_ ?_
                      rotate_left
                      · intro w'
                        go_simp
                        with_reducible rfl
                      rotate_left
                      · simp only [Act.put, List.setIfInBounds_toArray, List.set_cons_zero, List.set_cons_succ, i64_w, i32_w]
                        rfl
                      refine pure_ (i := 7) (N := some 39) (v := ?_) (a' := ?_) #[true, true, true, true, true, true, true, true, false, false, true, false, false, false] rfl rfl (any_of HT_.out (by kernel_rfl)) (fun _ _ _ h => h) (Or.inl ⟨by rfl, ?_⟩) ?_ ?_
                      rotate_left
                      · intro w'
                        go_simp
                        with_reducible rfl
                      rotate_left
                      · simp only [Act.put, List.setIfInBounds_toArray, List.set_cons_zero, List.set_cons_succ, i64_w, i32_w]
                        rfl
                      refine pure_ (i := 8) (N := some 40) (v := ?_) (a' := ?_) #[true, true, true, true, true, true, true, true, true, false, true, false, false, false] rfl rfl (any_of HT_.out (by kernel_rfl)) (fun _ _ _ h => h) (Or.inl ⟨by rfl, ?_⟩) ?_ ?_
                      rotate_left
                      · intro w'
                        go_simp
                        with_reducible rfl
                      rotate_left
                      · simp only [Act.put, List.setIfInBounds_toArray, List.set_cons_zero, List.set_cons_succ, i64_w, i32_w]
                        rfl
                      refine pure_ (i := 9) (N := some 41) (v := ?_) (a' := ?_) #[true, true, true, true, true, true, true, true, true, true, true, false, false, false] rfl rfl (any_of HT_.out (by kernel_rfl)) (fun _ _ _ h => h) (Or.inl ⟨by rfl, ?_⟩) ?_ ?_
                      rotate_left
                      · intro w'
                        go_simp
                        with_reducible rfl
                      rotate_left
                      · simp only [Act.put, List.setIfInBounds_toArray, List.set_cons_zero, List.set_cons_succ, i64_w, i32_w]
                        rfl
                      refine one_ (i := 11) (N := some 43) #[true, true, true, true, true, true, true, true, true, true, true, true, false, false] rfl rfl (one_of HT_.out (by kernel_rfl)) (by decide) (fun K hK => ?_)
                      refine goes_ Tryd.func28 (by kernel_rfl) rfl #[.string (⟨#[48]⟩ : ByteArray), .int .i64 (wrap64 ((a0.size : Int) - (t111.size : Int)))] (by rfl) rfl rfl (by (try simp only [List.map_toArray, List.map_cons, List.map_nil]); first | done | rfl | (simp only [List.length_drop, List.length_take]; rfl)) ?_
                      with_reducible refine (strings_Repeat.calls (⟨#[48]⟩ : ByteArray) (wrap64 ((a0.size : Int) - (t111.size : Int))) t115 _ A40.out).mono ?_
                      rintro e w48 ⟨rfl, hb⟩
                      refine ⟨_, rfl, ?_⟩
                      have n0_ := Aside0.mk (below_step (by repeat (first | (with_reducible first | exact HB.out | apply below_alloc | apply pw_below_drewN | apply below_drew1) | exact HB.out)) hb)
                      clear HB
                      have HB := n0_
                      clear n0_
                      (try clear hb)
                      (try clear hb2)
                      (try clear hk)
                      (try clear hi)
                      refine hK.out _ _ trivial (fun hHeld => ?_)
                      clear hK K
                      refine norm_ (a' := ?_) ?_ ?_
                      rotate_left
                      · show Act.put _ (some 43) _ = _
                        simp only [Act.put, List.setIfInBounds_toArray, List.set_cons_zero, List.set_cons_succ, i64_w, i32_w]
                        rfl
                      refine pure_ (i := 12) (N := some 44) (v := ?_) (a' := ?_) #[true, true, true, true, true, true, true, true, true, true, true, true, true, false] rfl rfl (any_of HT_.out (by kernel_rfl)) (fun _ _ _ h => h) (Or.inl ⟨by rfl, ?_⟩) ?_ ?_
                      rotate_left
                      · intro w'
                        go_simp
                        with_reducible rfl
                      rotate_left
                      · simp only [Act.put, List.setIfInBounds_toArray, List.set_cons_zero, List.set_cons_succ, i64_w, i32_w]
                        rfl
                      refine pure_ (i := 13) (N := some 6) (v := ?_) (a' := ?_) #[true, true, true, true, true, true, true, true, true, true, true, true, true, true] rfl rfl (any_of HT_.out (by kernel_rfl)) (fun _ _ _ h => h) (Or.inl ⟨by rfl, ?_⟩) ?_ ?_
                      rotate_left
                      · intro w'
                        go_simp
                        with_reducible rfl
                      rotate_left
                      · simp only [Act.put, List.setIfInBounds_toArray, List.set_cons_zero, List.set_cons_succ, i64_w, i32_w]
                        rfl
                      refine done_ (done_of HT_.out (by kernel_rfl)) ?_
                      try go_wp2_with (first | ((with_reducible refine gate_callee (f := 15) rfl ?_); refine goesL_ (some 58) rfl rfl Tryd.func15 (by kernel_rfl) rfl #[.string (((a0.extract 0 ((ji34) : Int).toNat) ++ (Utf8.encode (wrap32 (IntKind.u8.wrap ((bt a0 (ji34)) + 1))))) ++ t115)] rfl (by (try simp only [List.map_toArray, List.map_cons, List.map_nil]); first | done | (simp only [hji34]; rfl) | rfl | (simp only [List.length_drop, List.length_take]; rfl)) ?_; (with_reducible refine (label_Right.calls (((a0.extract 0 ((ji34) : Int).toNat) ++ (Utf8.encode (wrap32 (IntKind.u8.wrap ((bt a0 (ji34)) + 1))))) ++ t115) true _ ?side1 A42.out).mono ?_); (case side1 => exact Tabs.below HT.out (by repeat (first | (with_reducible first | exact HB.out | apply below_alloc | apply pw_below_drewN | apply below_drew1) | exact HB.out))); rintro e w49 ⟨rfl, hb⟩; refine ⟨_, rfl, ?_⟩; have n0_ := Aside0.mk (below_step (by repeat (first | (with_reducible first | exact HB.out | apply below_alloc | apply pw_below_drewN | apply below_drew1) | exact HB.out)) hb); clear HB; have HB := n0_; clear n0_; (try clear hb); (try clear hb2); (try clear hk); (try clear hi)))
                      go_ret2
                      exact ⟨by first | rfl | (simp [errW_none, errW_some] <;> rfl) | (simp only [← hji34]; first | rfl | (simp [errW_none, errW_some] <;> rfl)) | (simp [*, errW_none, errW_some] <;> rfl), by repeat (first | (with_reducible first | exact HB.out | apply below_alloc | apply pw_below_drewN | apply below_drew1) | exact HB.out)⟩
                    · replace c43 := Bool.eq_false_iff.mpr c43
                      subst c43
                      have H1 : (some ((⟨#[]⟩ : ByteArray), 11)) = some (r1, r2) := by rw [if_neg (show ¬ (false = true) by decide)] at H; exact H
                      clear H
                      have H := H1
                      clear H1
                      simp only [Option.some.injEq, Prod.mk.injEq] at H
                      obtain ⟨rfl, rfl⟩ := H
                      try clear c6
                      try clear c19
                      try clear c21
                      try clear c39
                      try clear c41
                      go_enter Tryd.func13, Tryd.ntmps13
                      try go_wp2_with (first | ((with_reducible refine gate_callee (f := 15) rfl ?_); refine goesL_ (some 10) rfl rfl Tryd.func15 (by kernel_rfl) rfl #[.string a0] rfl (by (try simp only [List.map_toArray, List.map_cons, List.map_nil]); first | done | rfl | (simp only [List.length_drop, List.length_take]; rfl)) ?_; (with_reducible refine (label_Right.calls a0 true _ ?side1 A2.out).mono ?_); (case side1 => exact Tabs.below HT.out (by repeat (first | (with_reducible first | exact HB.out | apply below_alloc | apply pw_below_drewN | apply below_drew1) | exact HB.out))); rintro e w50 ⟨rfl, hb⟩; refine ⟨_, rfl, ?_⟩; have n0_ := Aside0.mk (below_step (by repeat (first | (with_reducible first | exact HB.out | apply below_alloc | apply pw_below_drewN | apply below_drew1) | exact HB.out)) hb); clear HB; have HB := n0_; clear n0_; (try clear hb); (try clear hb2); (try clear hk); (try clear hi)) | ((with_reducible refine gate_callee (f := 27) rfl ?_); refine goesL_ (some 13) rfl rfl Tryd.func27 (by kernel_rfl) rfl #[.string a0, .string (⟨#[48, 49, 50, 51, 52, 53, 54, 55, 56, 57]⟩ : ByteArray)] rfl (by (try simp only [List.map_toArray, List.map_cons, List.map_nil]); first | done | rfl | (simp only [List.length_drop, List.length_take]; rfl)) ?_; (with_reducible refine (strings_TrimRight.calls a0 (⟨#[48, 49, 50, 51, 52, 53, 54, 55, 56, 57]⟩ : ByteArray) t110 _ A4.out).mono ?_); rintro e w51 ⟨rfl, hb⟩; refine ⟨_, rfl, ?_⟩; have n0_ := Aside0.mk (below_step (by repeat (first | (with_reducible first | exact HB.out | apply below_alloc | apply pw_below_drewN | apply below_drew1) | exact HB.out)) hb); clear HB; have HB := n0_; clear n0_; (try clear hb); (try clear hb2); (try clear hk); (try clear hi)) | ((with_reducible refine gate_callee (f := 27) rfl ?_); refine goesL_ (some 17) rfl rfl Tryd.func27 (by kernel_rfl) rfl #[.string a0, .string (⟨#[57]⟩ : ByteArray)] rfl (by (try simp only [List.map_toArray, List.map_cons, List.map_nil]); first | done | rfl | (simp only [List.length_drop, List.length_take]; rfl)) ?_; (with_reducible refine (strings_TrimRight.calls a0 (⟨#[57]⟩ : ByteArray) t111 _ A5.out).mono ?_); rintro e w52 ⟨rfl, hb⟩; refine ⟨_, rfl, ?_⟩; have n0_ := Aside0.mk (below_step (by repeat (first | (with_reducible first | exact HB.out | apply below_alloc | apply pw_below_drewN | apply below_drew1) | exact HB.out)) hb); clear HB; have HB := n0_; clear n0_; (try clear hb); (try clear hb2); (try clear hk); (try clear hi)))
                      (try (rw [drewN_self w52]; generalize hq_ : World.drewN w52 _ = w52; have n0_ := Aside0.mk (below_at hq_ HB.out); clear hq_ HB; have HB := n0_; clear n0_))
                      have n0_ := Aside0.mk (below_drew1 HB.out)
                      clear HB
                      have HB := n0_
                      clear n0_
                      have p38 : 0 ≤ ((ji34) : Int) := of_decide_eq_true (by first | (with_reducible assumption) | assumption)
                      have q38 : (ji34) < (a0.size : Int) := of_decide_eq_true (by first | (with_reducible assumption) | assumption)
                      have hx38 := bt_at a0 (ji34)
                      replace p38 := eq_true p38
                      replace q38 := eq_true q38
                      refine start_ (n := 14) (S := fun w' => True) (ds := []) #[false, false, false, false, false, false, false, false, false, false, false, false, false, false] (by kernel_rfl) rfl rfl trivial (fun hHeld => ?_); refine with_tabW label_Next.tab8 label_Next.bits8 (fun HT_ HW_ => ?_)
                      generalize w52.drew = w53 at HB hHeld ⊢
                      refine pure_ (i := 0) (N := some 32) (v := ?_) (a' := ?_) #[true, false, false, false, false, false, false, false, false, false, false, false, false, false] rfl rfl (any_of HT_.out (by kernel_rfl)) (fun _ _ _ h => h) (Or.inl ⟨by rfl, ?_⟩) ?_ ?_
                      rotate_left
                      · intro w'
                        go_simp
                        with_reducible rfl
                      rotate_left
                      · simp only [Act.put, List.setIfInBounds_toArray, List.set_cons_zero, List.set_cons_succ, i64_w, i32_w]
                        rfl
                      refine pure_ (i := 1) (N := some 33) (v := ?_) (a' := ?_) #[true, true, false, false, false, false, false, false, false, false, false, false, false, false] rfl rfl (any_of HT_.out (by kernel_rfl)) (fun _ _ _ h => h) (Or.inl ⟨by rfl, ?_⟩) ?_ ?_
                      rotate_left
                      · intro w'
                        go_simp
                        with_reducible rfl
                      rotate_left
                      · simp only [Act.put, List.setIfInBounds_toArray, List.set_cons_zero, List.set_cons_succ, i64_w, i32_w]
                        rfl
                      refine pure_ (i := 2) (N := some 34) (v := ?_) (a' := ?_) #[true, true, true, false, false, false, false, false, false, false, false, false, false, false] rfl rfl (any_of HT_.out (by kernel_rfl)) (fun _ _ _ h => h) (Or.inl ⟨by rfl, ?_⟩) ?_ ?_
                      rotate_left
                      · intro w'
                        go_simp
                        with_reducible rfl
                      rotate_left
                      · simp only [Act.put, List.setIfInBounds_toArray, List.set_cons_zero, List.set_cons_succ, i64_w, i32_w]
                        rfl
                      refine pure_ (i := 3) (N := some 35) (v := ?_) (a' := ?_) #[true, true, true, true, false, false, false, false, false, false, false, false, false, false] rfl rfl (any_of HT_.out (by kernel_rfl)) (fun _ _ _ h => h) (Or.inl ⟨by rfl, ?_⟩) ?_ ?_
                      rotate_left
                      · intro w'
                        go_simp
                        with_reducible rfl
                      rotate_left
                      · simp only [Act.put, List.setIfInBounds_toArray, List.set_cons_zero, List.set_cons_succ, i64_w, i32_w]
                        rfl
                      refine pure_ (i := 4) (N := some 36) (v := ?_) (a' := ?_) #[true, true, true, true, true, false, false, false, false, false, false, false, false, false] rfl rfl (any_of HT_.out (by kernel_rfl)) (fun _ _ _ h => h) (Or.inl ⟨by rfl, ?_⟩) ?_ ?_
                      rotate_left
                      · intro w'
                        go_simp
                        with_reducible rfl
                      rotate_left
                      · simp only [Act.put, List.setIfInBounds_toArray, List.set_cons_zero, List.set_cons_succ, i64_w, i32_w]
                        rfl
                      refine pure_ (i := 10) (N := some 42) (v := ?_) (a' := ?_) #[true, true, true, true, true, false, false, false, false, false, true, false, false, false] rfl rfl (any_of HT_.out (by kernel_rfl)) (fun _ _ _ h => h) (Or.inl ⟨by rfl, ?_⟩) ?_ ?_
                      rotate_left
                      · intro w'
                        go_simp
                        with_reducible rfl
                      rotate_left
                      · simp only [Act.put, List.setIfInBounds_toArray, List.set_cons_zero, List.set_cons_succ, i64_w, i32_w]
                        rfl
                      refine take_ (i := 5) (N := some 37) (v := ?_) (a' := ?_) #[true, true, true, true, true, true, false, false, false, false, true, false, false, false] rfl rfl (take_ofW HT_.out HW_.out (by kernel_rfl)) (fun _ _ _ h => h) (Or.inl ⟨by rfl, ?_⟩) hHeld ?_ ?_
                      rotate_left
                      · intro w' _
                        go_simp
                        with_reducible rfl
                      rotate_left
                      · simp only [Act.put, List.setIfInBounds_toArray, List.set_cons_zero, List.set_cons_succ, i64_w, i32_w]
                        rfl
                      refine pure_ (i := 6) (N := some 38) (v := ?_) (a' := ?_) #[true, true, true, true, true, true, true, false, false, false, true, false, false, false] rfl rfl (any_of HT_.out (by kernel_rfl)) (fun _ _ _ h => h) (Or.inl ⟨by rfl, ?_⟩) ?_ ?_
                      rotate_left
                      · intro w'
                        go_simp
                        with_reducible rfl
                      rotate_left
                      · simp only [Act.put, List.setIfInBounds_toArray, List.set_cons_zero, List.set_cons_succ, i64_w, i32_w]
                        rfl
                      refine pure_ (i := 7) (N := some 39) (v := ?_) (a' := ?_) #[true, true, true, true, true, true, true, true, false, false, true, false, false, false] rfl rfl (any_of HT_.out (by kernel_rfl)) (fun _ _ _ h => h) (Or.inl ⟨by rfl, ?_⟩) ?_ ?_
                      rotate_left
                      · intro w'
                        go_simp
                        with_reducible rfl
                      rotate_left
                      · simp only [Act.put, List.setIfInBounds_toArray, List.set_cons_zero, List.set_cons_succ, i64_w, i32_w]
                        rfl
                      refine pure_ (i := 8) (N := some 40) (v := ?_) (a' := ?_) #[true, true, true, true, true, true, true, true, true, false, true, false, false, false] rfl rfl (any_of HT_.out (by kernel_rfl)) (fun _ _ _ h => h) (Or.inl ⟨by rfl, ?_⟩) ?_ ?_
                      rotate_left
                      · intro w'
                        go_simp
                        with_reducible rfl
                      rotate_left
                      · simp only [Act.put, List.setIfInBounds_toArray, List.set_cons_zero, List.set_cons_succ, i64_w, i32_w]
                        rfl
                      refine pure_ (i := 9) (N := some 41) (v := ?_) (a' := ?_) #[true, true, true, true, true, true, true, true, true, true, true, false, false, false] rfl rfl (any_of HT_.out (by kernel_rfl)) (fun _ _ _ h => h) (Or.inl ⟨by rfl, ?_⟩) ?_ ?_
                      rotate_left
                      · intro w'
                        go_simp
                        with_reducible rfl
                      rotate_left
                      · simp only [Act.put, List.setIfInBounds_toArray, List.set_cons_zero, List.set_cons_succ, i64_w, i32_w]
                        rfl
                      refine one_ (i := 11) (N := some 43) #[true, true, true, true, true, true, true, true, true, true, true, true, false, false] rfl rfl (one_of HT_.out (by kernel_rfl)) (by decide) (fun K hK => ?_)
                      refine goes_ Tryd.func28 (by kernel_rfl) rfl #[.string (⟨#[48]⟩ : ByteArray), .int .i64 (wrap64 ((a0.size : Int) - (t111.size : Int)))] (by rfl) rfl rfl (by (try simp only [List.map_toArray, List.map_cons, List.map_nil]); first | done | rfl | (simp only [List.length_drop, List.length_take]; rfl)) ?_
                      with_reducible refine (strings_Repeat.calls (⟨#[48]⟩ : ByteArray) (wrap64 ((a0.size : Int) - (t111.size : Int))) t115 _ A40.out).mono ?_
                      rintro e w54 ⟨rfl, hb⟩
                      refine ⟨_, rfl, ?_⟩
                      have n0_ := Aside0.mk (below_step (by repeat (first | (with_reducible first | exact HB.out | apply below_alloc | apply pw_below_drewN | apply below_drew1) | exact HB.out)) hb)
                      clear HB
                      have HB := n0_
                      clear n0_
                      (try clear hb)
                      (try clear hb2)
                      (try clear hk)
                      (try clear hi)
                      refine hK.out _ _ trivial (fun hHeld => ?_)
                      clear hK K
                      refine norm_ (a' := ?_) ?_ ?_
                      rotate_left
                      · show Act.put _ (some 43) _ = _
                        simp only [Act.put, List.setIfInBounds_toArray, List.set_cons_zero, List.set_cons_succ, i64_w, i32_w]
                        rfl
                      refine pure_ (i := 12) (N := some 44) (v := ?_) (a' := ?_) #[true, true, true, true, true, true, true, true, true, true, true, true, true, false] rfl rfl (any_of HT_.out (by kernel_rfl)) (fun _ _ _ h => h) (Or.inl ⟨by rfl, ?_⟩) ?_ ?_
                      rotate_left
                      · intro w'
                        go_simp
                        with_reducible rfl
                      rotate_left
                      · simp only [Act.put, List.setIfInBounds_toArray, List.set_cons_zero, List.set_cons_succ, i64_w, i32_w]
                        rfl
                      refine pure_ (i := 13) (N := some 6) (v := ?_) (a' := ?_) #[true, true, true, true, true, true, true, true, true, true, true, true, true, true] rfl rfl (any_of HT_.out (by kernel_rfl)) (fun _ _ _ h => h) (Or.inl ⟨by rfl, ?_⟩) ?_ ?_
                      rotate_left
                      · intro w'
                        go_simp
                        with_reducible rfl
                      rotate_left
                      · simp only [Act.put, List.setIfInBounds_toArray, List.set_cons_zero, List.set_cons_succ, i64_w, i32_w]
                        rfl
                      refine done_ (done_of HT_.out (by kernel_rfl)) ?_
                      try go_wp2_with (first | ((with_reducible refine gate_callee (f := 15) rfl ?_); refine goesL_ (some 58) rfl rfl Tryd.func15 (by kernel_rfl) rfl #[.string (((a0.extract 0 ((ji34) : Int).toNat) ++ (Utf8.encode (wrap32 (IntKind.u8.wrap ((bt a0 (ji34)) + 1))))) ++ t115)] rfl (by (try simp only [List.map_toArray, List.map_cons, List.map_nil]); first | done | (simp only [hji34]; rfl) | rfl | (simp only [List.length_drop, List.length_take]; rfl)) ?_; (with_reducible refine (label_Right.calls (((a0.extract 0 ((ji34) : Int).toNat) ++ (Utf8.encode (wrap32 (IntKind.u8.wrap ((bt a0 (ji34)) + 1))))) ++ t115) false _ ?side1 A42.out).mono ?_); (case side1 => exact Tabs.below HT.out (by repeat (first | (with_reducible first | exact HB.out | apply below_alloc | apply pw_below_drewN | apply below_drew1) | exact HB.out))); rintro e w55 ⟨rfl, hb⟩; refine ⟨_, rfl, ?_⟩; have n0_ := Aside0.mk (below_step (by repeat (first | (with_reducible first | exact HB.out | apply below_alloc | apply pw_below_drewN | apply below_drew1) | exact HB.out)) hb); clear HB; have HB := n0_; clear n0_; (try clear hb); (try clear hb2); (try clear hk); (try clear hi)))
                      go_ret2
                      exact ⟨by first | rfl | (simp [errW_none, errW_some] <;> rfl) | (simp only [← hji34]; first | rfl | (simp [errW_none, errW_some] <;> rfl)) | (simp [*, errW_none, errW_some] <;> rfl), by repeat (first | (with_reducible first | exact HB.out | apply below_alloc | apply pw_below_drewN | apply below_drew1) | exact HB.out)⟩
                  · rw [if_neg c41] at H
                    exact absurd H (by simp)
                · rw [if_neg c39] at H
                  exact absurd H (by simp)
              · rw [if_neg c37] at H
                exact absurd H (by simp)
            · rw [if_neg c36] at H
              exact absurd H (by simp)
          · rw [if_neg c35] at H
            exact absurd H (by simp)
    · rw [if_neg c6] at H
      exact absurd H (by simp)
  · replace c3 := Bool.eq_false_iff.mpr c3
    subst c3
    have H1 : (some ((⟨#[]⟩ : ByteArray), 11)) = some (r1, r2) := by rw [if_neg (show ¬ (false = true) by decide)] at H; exact H
    clear H
    have H := H1
    clear H1
    simp only [Option.some.injEq, Prod.mk.injEq] at H
    obtain ⟨rfl, rfl⟩ := H
    try clear c6
    try clear c19
    try clear c21
    try clear c39
    try clear c41
    go_enter Tryd.func13, Tryd.ntmps13
    go_wp2_with (first | ((with_reducible refine gate_callee (f := 15) rfl ?_); refine goesL_ (some 10) rfl rfl Tryd.func15 (by kernel_rfl) rfl #[.string a0] rfl (by (try simp only [List.map_toArray, List.map_cons, List.map_nil]); first | done | rfl | (simp only [List.length_drop, List.length_take]; rfl)) ?_; (with_reducible refine (label_Right.calls a0 false _ ?side1 A2.out).mono ?_); (case side1 => exact Tabs.below HT.out (by repeat (first | (with_reducible first | exact HB.out | apply below_alloc | apply pw_below_drewN | apply below_drew1) | exact HB.out))); rintro e w56 ⟨rfl, hb⟩; refine ⟨_, rfl, ?_⟩; have n0_ := Aside0.mk (below_step (by repeat (first | (with_reducible first | exact HB.out | apply below_alloc | apply pw_below_drewN | apply below_drew1) | exact HB.out)) hb); clear HB; have HB := n0_; clear n0_; (try clear hb); (try clear hb2); (try clear hk); (try clear hi)))
    go_ret2
    exact ⟨by first | rfl | (simp [errW_none, errW_some] <;> rfl) | (simp [*, errW_none, errW_some] <;> rfl), by repeat (first | (with_reducible first | exact HB.out | apply below_alloc | apply pw_below_drewN | apply below_drew1) | exact HB.out)⟩

end Go.Proofs.YtdifpehainbkmaaDoor.PAll
