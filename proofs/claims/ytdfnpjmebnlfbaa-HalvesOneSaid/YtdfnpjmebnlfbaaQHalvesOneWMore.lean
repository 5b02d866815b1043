import Derived.Test.YtdfnpjmebnlfbaaQHalvesOneWWords
import Derived.Test.YtdfnpjmebnlfbaaQHalvesOneWLast
import Derived.Test.YtdfnpjmebnlfbaaQHalvesOneWApart
import Derived.Test.YtdfnpjmebnlfbaaQHalvesOneWKept
import Derived.Test.YtdfnpjmebnlfbaaQHalvesOneWN

namespace Go.Proofs.YtdfnpjmebnlfbaaW.PrintWords
open Go.RowKit
section
variable {P : Program} {ops : Array Oper} {rest : List Oper} {o : Oper} {a : Act} {Q : Exit → Act → World → Prop} {W : World}
theorem gate_builtin {b : Builtin} {xs : Array Operand} {ts : Array TypeId} (_ho : o.op = .call { callee := .builtin b, args := xs, argTypes := ts }) (h : wpList P ops Q (o :: rest) a W) : wpList P ops Q (o :: rest) a W := h
end
namespace Kd
section
variable {α : Type} {d : Kd α} {e base b b' g N : Nat} {ok ok1 : Nat → Prop} {W W2 w1 : World} {u v : Value} {xs ys : List α} {S : Nat → Prop}
theorem R_tight2 (hE : d.E = []) (h : d.R e W base ok v xs) : d.R e W base (fun k => some k = v.ownBlock ∧ ok k) v xs := R_mono (R_tight hE h) (fun k hk => ⟨hk, h.1 k hk.symm⟩)
end
end Kd
end Go.Proofs.YtdfnpjmebnlfbaaW.PrintWords
