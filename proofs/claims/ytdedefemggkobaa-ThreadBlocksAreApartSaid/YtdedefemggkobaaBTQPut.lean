/- Lemmas that this seat's printed proofs use, as the kit's print laid them for the seat; those that the claim does not name are left out. No condition. -/
import Derived.Test.YtdedefemggkobaaBTWords
import Derived.Test.YtdedefemggkobaaBTLast
namespace Go.Proofs.YtdedefemggkobaaW.PrintWords
open Go.RowKit
namespace Kd
section
variable {α : Type} {d : Kd α} {e base g o n cap : Nat} {ok okp : Nat → Prop} {w W : World} {v : Value} {xs : List α}
end
section
variable {α : Type} {enc : α → Value} {h1 : ∀ x, (enc x).oneCell' = true} {e base g o n cap : Nat} {ok : Nat → Prop} {W : World} {xs : List α}
end
end Kd
end Go.Proofs.YtdedefemggkobaaW.PrintWords
