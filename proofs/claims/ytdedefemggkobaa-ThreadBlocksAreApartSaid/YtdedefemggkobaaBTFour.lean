/- Lemmas that this seat's printed proofs use, as the kit's print laid them for the seat; those that the claim does not name are left out. No condition. -/
import Derived.Test.YtdedefemggkobaaBTTab
namespace Go.Proofs.YtdedefemggkobaaW.PrintLast
section
variable {P : Program} {ops : Array Oper} {Q : Exit → Act → World → Prop} {md : Region.Mode} {S : World → Prop} {ds : List Nat} {T : Bool × List (List Nat × List Nat)}
end
end Go.Proofs.YtdedefemggkobaaW.PrintLast
