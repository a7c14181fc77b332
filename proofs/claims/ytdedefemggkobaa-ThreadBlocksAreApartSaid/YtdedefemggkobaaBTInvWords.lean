/- Lemmas that this seat's printed proofs use, as the kit's print laid them for the seat; those that the claim does not name are left out. No condition. -/
import Derived.Test.YtdedefemggkobaaBTInv
import Derived.Test.YtdedefemggkobaaBTFootNe
namespace Go.Proofs.YtdedefemggkobaaW.PrintWords
open Go.RowKit
end Go.Proofs.YtdedefemggkobaaW.PrintWords
namespace Go.Proofs.YtdedefemggkobaaW.PrintLast
section
variable {ops : Array Oper} {a : Act} {o og : Oper} {g : Nat} {t : Tmp} {u : Bool}
end
end Go.Proofs.YtdedefemggkobaaW.PrintLast
