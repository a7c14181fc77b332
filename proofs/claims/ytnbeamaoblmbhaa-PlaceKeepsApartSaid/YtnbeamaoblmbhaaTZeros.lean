/- Lemmas that this seat's printed proofs use, as the kit's print laid them for the seat; those that the claim does not name are left out. No condition. -/
import Derived.Test.YtnbeamaoblmbhaaTApart
import Derived.Test.YtnbeamaoblmbhaaTArr
namespace Go.Proofs.YtnbeamaoblmbhaaW.PrintWords
open Go.RowKit
section
variable {P : Program}
end
namespace Kd
section
variable {P : Program} {ops : Array Oper} {rest : List Oper} {o : Oper} {a : Act} {Q : Exit → Act → World → Prop} {Kc : Act → World → Prop} {α : Type}
end
section
variable {α : Type} {d : Kd α} {e : Nat} {w : World} {base : Nat} {ok : Nat → Prop} {v : Value} {xs : List α}
end
section
variable {P : Program} {ops : Array Oper} {rest : List Oper} {o : Oper} {a : Act} {Q : Exit → Act → World → Prop} {Kc : Act → World → Prop} {α : Type}
end
end Kd
end Go.Proofs.YtnbeamaoblmbhaaW.PrintWords
