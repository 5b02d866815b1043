
import Derived.Test.YtfikgnneajlgbaaQBankApartBank
import Derived.StringKeys
import Derived.Deep.RegionWith
import Derived.Shelf.RegionOpenPlain
set_option linter.unusedVariables false
set_option linter.unusedSimpArgs false
namespace Go.Proofs.Ytfikgnneajlgbaa.PAll
open Go Go.Proofs Go.RowKit Go.Proofs.YtfikgnneajlgbaaW.PrintWords Go.Proofs.YtfikgnneajlgbaaW.PrintLast Go.Proofs.YtfikgnneajlgbaaW.PrintMore Go.Maps Go.WideMaps
attribute [local go_sem] min2_int min_two
theorem zero62 (w : World) : (zeroValue 62).run Try.prog w = .ok (.pointer none) w := by kernel_rfl
theorem zero77 (w : World) : (zeroValue 77).run Try.prog w = .ok (.pointer none) w := by kernel_rfl
theorem keyS {id : ByteArray} (hs : id.size ≤ maxLen) : keyOf Try.prog 9 (.string id) = some (encS id) := keyOf_string_mk Try.underlying9 hs
theorem keyI {k : Int} (hk : (Lit.int .i64 k).wf = true) : keyOf Try.prog 2 (.int .i64 k) = some (encI k) := keyOf_int_mk Try.underlying2 hk
section
variable {w : World} {B g m1 m2 n : Nat} {vb : Value} {fA : ByteArray → Option Value} {fN : Int → Option Value} {st : Bk}
set_option maxHeartbeats 4000000 in
set_option maxRecDepth 100000 in
theorem of_calls (id : ByteArray) (hV : BankV w B g m1 m2 n vb fA fN st) (hn : n ≤ 1000001) (hs : id.size ≤ maxLen) :
    Calls Try.prog 23 #[ptr g, .string id] w fun e w' => ∃ b fA', e = .returned (ptr b) ∧ fA' id = some (ptr b) ∧ BankV w' B g m1 m2 (n + 1) vb fA' fN st ∧ KeepO refObj w w' ∧ Below B w w' ∧ ∀ v, fA id = some v → v = ptr b := by
  have HK := Aside0.mk (keyS hs)
  obtain ⟨hc0, hc1, hc2⟩ := hV.cells
  have HV := Aside0.mk hV
  have HN := Aside0.mk (show n < maxLen by unfold maxLen; omega)
  cases hf : fA id with
  | some v =>
    obtain ⟨b, rfl, _, _⟩ := (hV.acc id).2 v hf
    have HF := Aside0.mk hf
    clear hV hf hs hn
    go_enter Try.func23, Try.ntmps23
    go_wp2_with (at_lookup; refine MapV.look_ok_wp HV.out.mA rfl (.tmp 11) (.tmp 12) 56 rfl (string_keyed Try.underlying9) 62 Try.underlying56 (.pointer none) (zero62 _) rfl (.string id) id rfl HK.out ?_; simp only [HF.out, Option.getD_some, Option.isSome_some])
    go_ret
    exact ⟨b, fA, rfl, HF.out, HV.out.mono (Nat.le_succ _), KeepO.refl _ _, Below.refl _ _, fun v hv => (by injection hv with hv; exact hv.symm)⟩
  | none =>
    have HF := Aside0.mk hf
    clear hV hf hs hn
    go_enter Try.func23, Try.ntmps23
    go_wp2_with (first
      | (at_lookup; refine MapV.look_ok_wp HV.out.mA rfl (.tmp 11) (.tmp 12) 56 rfl (string_keyed Try.underlying9) 62 Try.underlying56 (.pointer none) (zero62 _) rfl (.string id) id rfl HK.out ?_; simp only [HF.out, Option.getD_none, Option.isSome_none])
      | ((with_reducible refine gate_dst (N := 19) rfl ?_); refine box_event ?hg (N := 19) ?hd (cs := #[.int .i64 0, .int .i64 0, .bool false, .int .i64 0]) (t := 65) ?hr ?_; (case hd => rfl); (case hg => rfl); (case hr => first | (go_simp; done) | (go_simp; rfl)); intro b hb1 w1 hbx hb; have HBX := Aside0.mk hbx; have HB1 := Aside0.mk hb; have HE := Aside0.mk hb1; have HV1 := Aside0.mk (HV.out.below hb); obtain ⟨hd0, hd1, hd2⟩ := HV1.out.cells; clear hbx hb hb1)
      | (at_mapUpdate; refine MapV.store_wp HV1.out.mA encS_inj rfl (.tmp 23) (.tmp 24) (.tmp 25) 56 rfl (string_keyed Try.underlying9) 62 Try.underlying56 HN.out rfl (.string id) (ptr b) id rfl rfl HK.out ?_; intro w2 hm ht; have HM := Aside0.mk hm; have HT := Aside0.mk ht; clear hm ht))
    go_ret
    exact ⟨b, upd fA id (ptr b), rfl, upd_same _ _ _, HV.out.account HF.out HE.out HBX.out HB1.out HM.out HT.out, (KeepO.of_below _ HB1.out).turned HT.out (fun _ _ h => h), turned_below (HB1.out.mono HV.out.base) HT.out HV.out.ge1 (Nat.lt_of_lt_of_le HV.out.mA.lt HB1.out.size), fun v hv => (by cases hv)⟩
end
end Go.Proofs.Ytfikgnneajlgbaa.PAll
