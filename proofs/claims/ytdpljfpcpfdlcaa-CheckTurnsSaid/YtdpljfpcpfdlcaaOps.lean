/- Layer of the seat Ytdpljfpcpfdlcaa: what can be read as data of each struct type (ok, op); the pure statement of each law: over numbers and lists alone. Written by a program of this session (wip/gen/rowgen.py). -/
import Derived.Test.YtdpljfpcpfdlcaaPAllx
import Derived.Test.YtdpljfpcpfdlcaaOpening
namespace Go.Proofs.Ytdpljfpcpfdlcaa.PAll
open Go.RowKit Go.Proofs.YtdpljfpcpfdlcaaW.PrintWords Go.Proofs.YtdpljfpcpfdlcaaW.PrintLast Go.Proofs.Ytdpljfpcpfdlcaa.Opening

/-- THE ONE PURE STATEMENT of packhorselaw05_CheckTells. -/
def packhorselaw05_CheckTells.PureQ : Prop := ∀ (l0 : List Int) (l1 : List Int) (l2 : List Int), (l0.length * 1 ≤ 140737488351232 ∧ ∀ x ∈ l0, (Lit.int .u8 x).wf = true) → (l1.length * 1 ≤ 140737488351232 ∧ ∀ x ∈ l1, (Lit.int .u8 x).wf = true) → (l2.length * 1 ≤ 140737488351232 ∧ ∀ x ∈ l2, (Lit.int .u8 x).wf = true) → ∃ k, packhorselaw05_CheckTells.f k l0 l1 l2 = some true

/-- THE ONE PURE STATEMENT of packhorselaw05_CheckTurns. -/
def packhorselaw05_CheckTurns.PureQ : Prop := ∀ (l0 : List Int) (a1 : Int) (a2 : Int), (l0.length * 1 ≤ 140737488351232 ∧ ∀ x ∈ l0, (Lit.int .u8 x).wf = true) → (Lit.int .i64 a1).wf = true → (Lit.int .u8 a2).wf = true → ∃ k, packhorselaw05_CheckTurns.f k l0 a1 a2 = some true

/-- THE ONE PURE STATEMENT of packhorselaw05_CheckPieces. -/
def packhorselaw05_CheckPieces.PureQ : Prop := ∀ (l0 : List Int) (l1 : List Int) (l2 : List Int), (l0.length * 1 ≤ 140737488351232 ∧ ∀ x ∈ l0, (Lit.int .u8 x).wf = true) → (l1.length * 1 ≤ 140737488351232 ∧ ∀ x ∈ l1, (Lit.int .u8 x).wf = true) → (l2.length * 1 ≤ 140737488351232 ∧ ∀ x ∈ l2, (Lit.int .u8 x).wf = true) → ∃ k, packhorselaw05_CheckPieces.f k l0 l1 l2 = some true

/-- THE ONE PURE STATEMENT of packhorselaw05_CheckNames. -/
def packhorselaw05_CheckNames.PureQ : Prop := ∃ k, packhorselaw05_CheckNames.f k  = some true

/-- THE ONE PURE STATEMENT of packhorselaw05_CheckJoins. -/
def packhorselaw05_CheckJoins.PureQ : Prop := ∀ (a0 : Int) (a1 : Int) (a2 : Int), (Lit.int .u32 a0).wf = true → (Lit.int .u32 a1).wf = true → (Lit.int .i64 a2).wf = true → ∃ k, packhorselaw05_CheckJoins.f k a0 a1 a2 = some true

/-- THE ONE PURE STATEMENT of packhorselaw05_CheckNothing. -/
def packhorselaw05_CheckNothing.PureQ : Prop := ∀ (a0 : Int) (a1 : Int) (l2 : List Int), (Lit.int .i64 a0).wf = true → (Lit.int .i64 a1).wf = true → (l2.length * 1 ≤ 140737488351232 ∧ ∀ x ∈ l2, (Lit.int .u8 x).wf = true) → ∃ k, packhorselaw05_CheckNothing.f k a0 a1 l2 = some true

end Go.Proofs.Ytdpljfpcpfdlcaa.PAll
