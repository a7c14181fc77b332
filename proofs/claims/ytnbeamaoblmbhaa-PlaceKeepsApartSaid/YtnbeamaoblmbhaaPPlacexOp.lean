/- Written by a program of this session, for the law(s) Place: contracts of the Go functions that the law reaches, each against a plain Lean function. No condition. -/
import Derived.Test.YtnbeamaoblmbhaaPPlacex0
import Derived.Test.YtnbeamaoblmbhaaOpen
import Derived.KernelRfl
namespace Go.Proofs.Ytnbeamaoblmbhaa.PPlace
open Go.RowKit Go.Proofs.YtnbeamaoblmbhaaW.PrintWords Go.Proofs.YtnbeamaoblmbhaaW.PrintLast Go.Proofs.YtnbeamaoblmbhaaW.PrintMore
attribute [local go_sem] max2_int min2_int max_two min_two max_three min_three max_four min_four   -- for this text's walks alone
set_option linter.unusedVariables false
set_option linter.unusedSimpArgs false

open Go.Proofs.Ytnbeamaoblmbhaa.Opens
set_option maxRecDepth 100000
theorem op60 : Rds Try.prog k60 60 G60 := by
  have h := op_struct (d := (Kd.pair Kd.string (Kd.pair (Kd.int .i64) (Kd.pair (Kd.int .i64) (Kd.int .i64))))) (f := fun x : S60 => (x.f0, x.f1, x.f2, x.f3)) (g := fun p => (⟨p.1, p.2.1, p.2.2.1, p.2.2.2⟩ : S60)) (opf_cons (op_string Try.underlying9) rfl (by kernel_rfl) (opf_cons (op_int .i64 Try.underlying3) rfl (by kernel_rfl) (opf_cons (op_int .i64 Try.underlying3) rfl (by kernel_rfl) (opf_one (op_int .i64 Try.underlying3) rfl (by kernel_rfl)) rfl) rfl) rfl) Try.underlying60 (by kernel_rfl) (fun _ => rfl)
  exact h
theorem op72 : Rds Try.prog k72 72 G72 := by
  have h := op_struct (d := (Kd.pair Kd.string (Kd.pair (Kd.int .i64) (Kd.int .i64)))) (f := fun x : S72 => (x.f0, x.f1, x.f2)) (g := fun p => (⟨p.1, p.2.1, p.2.2⟩ : S72)) (opf_cons (op_string Try.underlying9) rfl (by kernel_rfl) (opf_cons (op_int .i64 Try.underlying3) rfl (by kernel_rfl) (opf_one (op_int .i64 Try.underlying3) rfl (by kernel_rfl)) rfl) rfl) Try.underlying72 (by kernel_rfl) (fun _ => rfl)
  exact h
theorem op62 : Rds Try.prog k62 62 G62 := by
  have h := op_struct (d := (Kd.pair (Kd.int .i64) (Kd.pair (Kd.int .i64) (Kd.int .i64)))) (f := fun x : S62 => (x.f0, x.f1, x.f2)) (g := fun p => (⟨p.1, p.2.1, p.2.2⟩ : S62)) (opf_cons (op_int .i64 Try.underlying3) rfl (by kernel_rfl) (opf_cons (op_int .i64 Try.underlying3) rfl (by kernel_rfl) (opf_one (op_int .i64 Try.underlying3) rfl (by kernel_rfl)) rfl) rfl) Try.underlying62 (by kernel_rfl) (fun _ => rfl)
  exact h
theorem op58 : Rds Try.prog k58 58 G58 := by
  have h := op_struct (d := (Kd.pair (Kd.int .i64) (Kd.int .i64))) (f := fun x : S58 => (x.f0, x.f1)) (g := fun p => (⟨p.1, p.2⟩ : S58)) (opf_cons (op_int .i64 Try.underlying3) rfl (by kernel_rfl) (opf_one (op_int .i64 Try.underlying3) rfl (by kernel_rfl)) rfl) Try.underlying58 (by kernel_rfl) (fun _ => rfl)
  exact h
theorem op46 : Rds Try.prog k46 46 G46 := by
  have h := op_struct (d := (Kd.pair (Kd.slice 60 k60) (Kd.slice 72 k72))) (f := fun x : S46 => (x.f0, x.f1)) (g := fun p => (⟨p.1, p.2⟩ : S46)) (opf_cons (op_slice op60 Try.underlying43 (by kernel_rfl)) rfl (by kernel_rfl) (opf_one (op_slice op72 Try.underlying44 (by kernel_rfl)) rfl (by kernel_rfl)) rfl) Try.underlying46 (by kernel_rfl) (fun _ => rfl)
  exact h

end Go.Proofs.Ytnbeamaoblmbhaa.PPlace
