/- Written by a program of this session, for the law(s) Apply: contracts of the Go functions that the law reaches, each against a plain Lean function. No condition. -/
import Derived.Test.YtnbeamaoblmbhaaPApplyx0
import Derived.Test.YtnbeamaoblmbhaaOpen
import Derived.KernelRfl
namespace Go.Proofs.Ytnbeamaoblmbhaa.PApply
open Go.RowKit Go.Proofs.YtnbeamaoblmbhaaW.PrintWords Go.Proofs.YtnbeamaoblmbhaaW.PrintLast Go.Proofs.YtnbeamaoblmbhaaW.PrintMore
attribute [local go_sem] max2_int min2_int max_two min_two max_three min_three max_four min_four   -- for this text's walks alone
set_option linter.unusedVariables false
set_option linter.unusedSimpArgs false

open Go.Proofs.Ytnbeamaoblmbhaa.Opens
set_option maxRecDepth 100000
theorem op24 : Rds Try.prog k24 24 G24 := by
  have h := op_struct (d := (Kd.pair (Kd.int .i64) (Kd.pair (Kd.int .i64) (Kd.pair (Kd.int .i64) (Kd.int .i64))))) (f := fun x : S24 => (x.f0, x.f1, x.f2, x.f3)) (g := fun p => (⟨p.1, p.2.1, p.2.2.1, p.2.2.2⟩ : S24)) (opf_cons (op_int .i64 Try.underlying3) rfl (by kernel_rfl) (opf_cons (op_int .i64 Try.underlying3) rfl (by kernel_rfl) (opf_cons (op_int .i64 Try.underlying3) rfl (by kernel_rfl) (opf_one (op_int .i64 Try.underlying3) rfl (by kernel_rfl)) rfl) rfl) rfl) Try.underlying24 (by kernel_rfl) (fun _ => rfl)
  exact h

end Go.Proofs.Ytnbeamaoblmbhaa.PApply
