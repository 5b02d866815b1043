
import Derived.Test.YtmcdbjcbfjnfoaaDoorQOrderTellsPAllx0
import Derived.Test.YtmcdbjcbfjnfoaaDoorQOrderTellsPAllx5
import Derived.Test.YtmcdbjcbfjnfoaaDoorQOrderTellsPAllx6
import Derived.Test.YtmcdbjcbfjnfoaaDoorQOrderTellsPAllx8
namespace Go.Proofs.YtmcdbjcbfjnfoaaDoor.PAll
open Go.RowKit Go.Proofs.YtmcdbjcbfjnfoaaDoorW.PrintWords Go.Proofs.YtmcdbjcbfjnfoaaDoorW.PrintLast Go.Proofs.YtmcdbjcbfjnfoaaDoorW.PrintMore
attribute [local go_sem] max2_int max_two
set_option linter.unusedVariables false
set_option linter.unusedSimpArgs false
def packet_Reader_Done.f (s0_0 : List Int) (s0_1 : Bool) : Option (Bool × List Int × Bool) := if s0_1 = true then (some (false, s0_0, s0_1)) else (some (((s0_0.length : Int) == 0), s0_0, s0_1))
set_option maxHeartbeats 8000000 in
set_option maxRecDepth 100000 in
theorem packet_Reader_Done.calls (g : Nat) (s0_0 : List Int) (s0_1 : Bool) (r1 : Bool) (r2 : List Int) (r3 : Bool) (w0 w : World) (hI : IsS72 w0 w g s0_0 s0_1) (hB : Below w0.heap.size w0 w) (h : packet_Reader_Done.f s0_0 s0_1 = some (r1, r2, r3)) :
  Calls Tryd.prog 17 #[.pointer (some ⟨g, 0, none⟩)] w fun e w' => e = .returned (.bool r1) ∧ IsS72 w0 w' g r2 r3 ∧ Below w0.heap.size w0 w' ∧ KeepBut w w' g none := by
 have HI0 := Aside0.mk hI; have HK := Aside0.mk (KeepBut.refl w g none); have HL := Aside0.mk hB.size; clear hI; have HW0 := Aside0.mk hB.size; have HB := Aside0.mk hB; clear hB; have H : (if s0_1 = true then (some (false, s0_0, s0_1)) else (some (((s0_0.length : Int) == 0), s0_0, s0_1))) = some (r1, r2, r3) := h; clear h
 by_cases c2 : s0_1 = true
 ·subst c2
  have H1 : (some (false, s0_0, true)) = some (r1, r2, r3) := by rw [if_pos rfl] at H; exact H
  clear H; have H := H1; clear H1; simp only [Option.some.injEq, Prod.mk.injEq] at H; obtain ⟨rfl, rfl, rfl⟩ := H; obtain ⟨ASz3_0, cSz3_0, HGz3, hgz3, HSz3_0⟩ := HI0.out; have hcz3_0 := cellS72_0 HGz3; have hcz3_1 := cellS72_1 HGz3; have hfz3_0 := blk_frozen HGz3 0; have hfz3_1 := blk_frozen HGz3 1; clear HGz3 hgz3
  go_enter Tryd.func17, Tryd.ntmps17
  go_wp2
  go_ret
  exact ⟨ap4, IsS72.u HI0.out, beg (IsS72.ge HI0.out) HB.out, ku HK.out⟩
 ·replace c2 := Bool.eq_false_iff.mpr c2
  subst c2
  have H1 : (some (((s0_0.length : Int) == 0), s0_0, false)) = some (r1, r2, r3) := by rw [if_neg (show ¬ (false = true) by decide)] at H; exact H
  clear H; have H := H1; clear H1; simp only [Option.some.injEq, Prod.mk.injEq] at H; obtain ⟨rfl, rfl, rfl⟩ := H; obtain ⟨ASz4_0, cSz4_0, HGz4, hgz4, HSz4_0⟩ := HI0.out; have hcz4_0 := cellS72_0 HGz4; have hcz4_1 := cellS72_1 HGz4; have hfz4_0 := blk_frozen HGz4 0; have hfz4_1 := blk_frozen HGz4 1; clear HGz4 hgz4
  go_enter Tryd.func17, Tryd.ntmps17
  go_wp2
  go_ret
  exact ⟨ap4, IsS72.u HI0.out, beg (IsS72.ge HI0.out) HB.out, ku HK.out⟩
theorem packet_Reader_Done.callsJ (g : Nat) (s0_0 : List Int) (s0_1 : Bool) (r1 : Bool) (r2 : List Int) (r3 : Bool) (w0 w : World) (hI : JS72 w0 w g s0_0 s0_1) (hB : Below w0.heap.size w0 w) (h : packet_Reader_Done.f s0_0 s0_1 = some (r1, r2, r3)) :
  Calls Tryd.prog 17 #[.pointer (some ⟨g, 0, none⟩)] w fun e w' => e = .returned (.bool r1) ∧ JS72 w0 w' g r2 r3 ∧ Below w0.heap.size w0 w' ∧ KeepBut w w' g none := by
 obtain ⟨wS, hIs, hBs, hle⟩ := hI
 exact (packet_Reader_Done.calls g s0_0 s0_1 r1 r2 r3 wS w hIs hBs h).mono fun e w' hp_ => by
  obtain ⟨p0_, hi_, hb_, hk_⟩ := hp_
  exact ⟨p0_, ⟨wS, hi_, hb_, hle⟩, below_keepJ72 hB hBs hb_ hk_ (Nat.le_trans hle.size (IsS72.ge hIs)), hk_⟩
end Go.Proofs.YtmcdbjcbfjnfoaaDoor.PAll
