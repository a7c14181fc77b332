/- Lemmas that this seat's printed proofs use, as the kit's print laid them for the seat; those that the claim does not name are left out. No condition. -/
import Derived.Test.YtnbeamaoblmbhaaTN
namespace Go.Proofs.YtnbeamaoblmbhaaW.PrintWords
open Go.RowKit
namespace Kd
section
variable {α : Type} {d : Kd α} {W : World} {g n : Nat} {S ok : Nat → Prop} {A : Option Addr} {ad : Addr} {xs : List α}
end
end Kd
end Go.Proofs.YtnbeamaoblmbhaaW.PrintWords
