/-
  No cell of these rows narrows 'for every input' (looked for: loops, veiled, ifaces, maps, wideKeys, modest, calm, conditions, laid).
  DERIVED. THE GIVEN ROWS OF THIS SEAT. 3 by the template 'for every input the law returns true; each argument reads behind the call as it read before'; 0 by the template 'total and deterministic' (their statements: YtfikgnneajlgbaaTotals.lean).
  GIVEN WITH THE SEED: the statements are not yours to turn. If you find one false, say at which input.
  Laid BY PROGRAM, IN A SANDBOX (cutbox-rows.mjs): the forced cells as the released guide's own fill.sh prints them over the translation c5d43a6bf5b60faf… (all of the seat's roots in one cut). By AI agents, Wed Nov 11 2026. No macro, syntax, notation, axiom, sorry.
-/
import Derived.Test.YtfikgnneajlgbaaChecked
import GoSem.Claim
import GoSem.ClaimJoined
import GoSem.ClaimMapViews
import Derived.JoinedTies
import Derived.KernelRfl
namespace Go.Proofs.Ytfikgnneajlgbaa
/- THE CELL 'sum', in the pinned program and in every row, IS THE sha256 OF THE DUMP (.gsa) THAT YtfikgnneajlgbaaProg.lean LOADS. Nothing in Lean hashes anything: it is a label: what it is worth is what the hold of that sum in a sandbox is worth. -/
noncomputable def Try.pinned : Pinned := { name := "ytfikgnneajlgbaa", sum := "c5d43a6bf5b60fafea9fa81f03734cccab10843152f540433a8d258d5b066af6", checked := Try.checked }
namespace Rows
def none {H : Type} : Left H := { results := [], args := [] }

/-- 'packhorselaw20.BankOnce': WHATEVER THE INPUT: true; the input reads as it did. -/
def bankOnceSpec : ChangeSpec := { name := "bankOnce", fn := fun _ => fun
  | [d1, d2] => { results := [.lit (.bool true)], args := [d1, d2] }
  | _ => none }
def bankOnceRow : OpenClaim := { program := "ytfikgnneajlgbaa", sum := "c5d43a6bf5b60fafea9fa81f03734cccab10843152f540433a8d258d5b066af6", func := "packhorse/packhorselaw20.BankOnce", spec := "bankOnce", unfollowed := true, recurses := true, apart := false }
def BankOnceSaid : Prop := bankOnceRow.holds Try.pinned (OpenSpec.ofChange bankOnceSpec)

/-- ITS FALSE NEIGHBOUR: 'it returns false'. Refute it at one input. -/
def bankOnceWrong : ChangeSpec := { name := "bankOnce", fn := fun _ => fun
  | [d1, d2] => { results := [.lit (.bool false)], args := [d1, d2] }
  | _ => none }
def BankOnceWrongFalsely : Prop := bankOnceRow.holds Try.pinned (OpenSpec.ofChange bankOnceWrong)

/-- 'packhorselaw20.BankRuns': WHATEVER THE INPUT: true; the input reads as it did. -/
def bankRunsSpec : ChangeSpec := { name := "bankRuns", fn := fun _ => fun
  | [d] => { results := [.lit (.bool true)], args := [d] }
  | _ => none }
def bankRunsRow : OpenClaim := { program := "ytfikgnneajlgbaa", sum := "c5d43a6bf5b60fafea9fa81f03734cccab10843152f540433a8d258d5b066af6", func := "packhorse/packhorselaw20.BankRuns", spec := "bankRuns", unfollowed := true, recurses := true, apart := false }
def BankRunsSaid : Prop := bankRunsRow.holds Try.pinned (OpenSpec.ofChange bankRunsSpec)

/-- ITS FALSE NEIGHBOUR: 'it returns false'. Refute it at one input. -/
def bankRunsWrong : ChangeSpec := { name := "bankRuns", fn := fun _ => fun
  | [d] => { results := [.lit (.bool false)], args := [d] }
  | _ => none }
def BankRunsWrongFalsely : Prop := bankRunsRow.holds Try.pinned (OpenSpec.ofChange bankRunsWrong)

/-- 'packhorselaw20.BankApart': WHATEVER THE INPUT: true; the input reads as it did. -/
def bankApartSpec : ChangeSpec := { name := "bankApart", fn := fun _ => fun
  | [d1, d2] => { results := [.lit (.bool true)], args := [d1, d2] }
  | _ => none }
def bankApartRow : OpenClaim := { program := "ytfikgnneajlgbaa", sum := "c5d43a6bf5b60fafea9fa81f03734cccab10843152f540433a8d258d5b066af6", func := "packhorse/packhorselaw20.BankApart", spec := "bankApart", unfollowed := true, recurses := true, apart := false }
def BankApartSaid : Prop := bankApartRow.holds Try.pinned (OpenSpec.ofChange bankApartSpec)

/-- ITS FALSE NEIGHBOUR: 'it returns false'. Refute it at one input. -/
def bankApartWrong : ChangeSpec := { name := "bankApart", fn := fun _ => fun
  | [d1, d2] => { results := [.lit (.bool false)], args := [d1, d2] }
  | _ => none }
def BankApartWrongFalsely : Prop := bankApartRow.holds Try.pinned (OpenSpec.ofChange bankApartWrong)

/- THE SECOND FORM. 'bulk': how many values and letters a reading holds, each counted each time it is reached (what is shared counts as often as it is met; a slice's spare places count too). A statement '..UptoSaid' is the law's where the arguments, and the package variables that the reading takes, are together of bulk at most 1048576: NARROWER than '..Said'. Prove '..Said' where nothing that the law and all that it calls make is longer than what came in: it says more and counts as full. Else prove '..UptoSaid'. A law counts once. -/
mutual
def uptoBulk {H : Type} : DataW H → Nat
  | .lit (.string bytes) => bytes.length + 1
  | .lit _ => 1
  | .nil => 1
  | .ptr d => uptoBulk d + 1
  | .slice elems spare => uptoBulkAll elems + uptoBulkAll spare + 1
  | .agg parts => uptoBulkAll parts + 1
  | .iface _ d => uptoBulk d + 1
  | .map entries => uptoBulkEntries entries + 1
  | .held _ => 1
def uptoBulkAll {H : Type} : List (DataW H) → Nat
  | [] => 0
  | d :: r => uptoBulk d + uptoBulkAll r
def uptoBulkEntries {H : Type} : List (Lit × DataW H) → Nat
  | [] => 0
  | x :: r => uptoBulkEntry x + uptoBulkEntries r
def uptoBulkEntry {H : Type} : Lit × DataW H → Nat
  | (.string bytes, d) => bytes.length + uptoBulk d + 1
  | (_, d) => uptoBulk d + 1
 end
def uptoSmall : (H : Type) → List (DataW H) → Bool := fun _ ds => decide (uptoBulkAll ds ≤ 1048576)
def OpenSpec.upto (s : _root_.Go.ChangeSpec) : _root_.Go.OpenSpec := { _root_.Go.OpenSpec.ofChange s with cond := some uptoSmall }

/-- 'packhorselaw20.BankOnce', WHERE WHAT IT READS IS OF BULK AT MOST 1048576: true; the input reads as it did. -/
def bankOnceUptoRow : OpenClaim := { program := "ytfikgnneajlgbaa", sum := "c5d43a6bf5b60fafea9fa81f03734cccab10843152f540433a8d258d5b066af6", func := "packhorse/packhorselaw20.BankOnce", spec := "bankOnce", unfollowed := true, recurses := true, apart := false, narrowed := true }
def BankOnceUptoSaid : Prop := bankOnceUptoRow.holds Try.pinned (OpenSpec.upto bankOnceSpec)

/-- 'packhorselaw20.BankRuns', WHERE WHAT IT READS IS OF BULK AT MOST 1048576: true; the input reads as it did. -/
def bankRunsUptoRow : OpenClaim := { program := "ytfikgnneajlgbaa", sum := "c5d43a6bf5b60fafea9fa81f03734cccab10843152f540433a8d258d5b066af6", func := "packhorse/packhorselaw20.BankRuns", spec := "bankRuns", unfollowed := true, recurses := true, apart := false, narrowed := true }
def BankRunsUptoSaid : Prop := bankRunsUptoRow.holds Try.pinned (OpenSpec.upto bankRunsSpec)

/-- 'packhorselaw20.BankApart', WHERE WHAT IT READS IS OF BULK AT MOST 1048576: true; the input reads as it did. -/
def bankApartUptoRow : OpenClaim := { program := "ytfikgnneajlgbaa", sum := "c5d43a6bf5b60fafea9fa81f03734cccab10843152f540433a8d258d5b066af6", func := "packhorse/packhorselaw20.BankApart", spec := "bankApart", unfollowed := true, recurses := true, apart := false, narrowed := true }
def BankApartUptoSaid : Prop := bankApartUptoRow.holds Try.pinned (OpenSpec.upto bankApartSpec)

end Rows
end Go.Proofs.Ytfikgnneajlgbaa
