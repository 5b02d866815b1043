/- Layer of the seat YtapfpdjcbeiibaaDoor: what can be read as data of each struct type (ok, op); the pure statement of each law: over numbers and lists alone. Written by a program of this session (wip/gen/rowgen.py). -/
import Derived.Test.YtapfpdjcbeiibaaDoorPAllx
import Derived.Test.YtapfpdjcbeiibaaDoorOpening
namespace Go.Proofs.YtapfpdjcbeiibaaDoor.PAll
open Go.RowKit Go.Proofs.YtapfpdjcbeiibaaDoorW.PrintWords Go.Proofs.YtapfpdjcbeiibaaDoorW.PrintLast Go.Proofs.YtapfpdjcbeiibaaDoor.Opening

/-- THE ONE PURE STATEMENT of packhorselaw11_BatchNames. -/
def packhorselaw11_BatchNames.PureQ : Prop := ∃ k, packhorselaw11_BatchNames.f k  = some true

end Go.Proofs.YtapfpdjcbeiibaaDoor.PAll
