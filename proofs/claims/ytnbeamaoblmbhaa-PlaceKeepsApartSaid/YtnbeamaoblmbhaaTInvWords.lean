/- Lemmas that this seat's printed proofs use, as the kit's print laid them for the seat; those that the claim does not name are left out. No condition. -/
import Derived.Test.YtnbeamaoblmbhaaTInv
import Derived.Test.YtnbeamaoblmbhaaTFootNe
namespace Go.Proofs.YtnbeamaoblmbhaaW.PrintWords
open Go.RowKit
end Go.Proofs.YtnbeamaoblmbhaaW.PrintWords
namespace Go.Proofs.YtnbeamaoblmbhaaW.PrintLast
section
variable {ops : Array Oper} {a : Act} {o og : Oper} {g : Nat} {t : Tmp} {u : Bool}
end
end Go.Proofs.YtnbeamaoblmbhaaW.PrintLast
