/- Written by a program of this session, for the law(s) Thread: contracts of the Go functions that the law reaches, each against a plain Lean function. No condition. -/
import Derived.Test.YtdedefemggkobaaBPThreadx0
namespace Go.Proofs.Ytdedefemggkobaa.PThread
open Go.RowKit Go.Proofs.YtdedefemggkobaaW.PrintWords Go.Proofs.YtdedefemggkobaaW.PrintLast Go.Proofs.YtdedefemggkobaaW.PrintMore
attribute [local go_sem] max2_int min2_int max_two min_two max_three min_three max_four min_four
set_option linter.unusedVariables false
set_option linter.unusedSimpArgs false
def ref_In.f (a0 : Int) (a1 : Int) (a2 : Int) : Option (Bool) := if a0 ≥ a1 then (some (decide (a0 ≤ a2))) else (some false)
end Go.Proofs.Ytdedefemggkobaa.PThread
