/- Written by a program of this session, for the law(s) Thread: contracts of the Go functions that the law reaches, each against a plain Lean function. No condition. -/
import Derived.Test.YtdedefemggkobaaBPThreadx0
import Derived.Test.YtdedefemggkobaaBOpen
import Derived.KernelRfl
namespace Go.Proofs.Ytdedefemggkobaa.PThread
open Go.RowKit Go.Proofs.YtdedefemggkobaaW.PrintWords Go.Proofs.YtdedefemggkobaaW.PrintLast Go.Proofs.YtdedefemggkobaaW.PrintMore
attribute [local go_sem] max2_int min2_int max_two min_two max_three min_three max_four min_four   -- for this text's walks alone
set_option linter.unusedVariables false
set_option linter.unusedSimpArgs false
open Go.Proofs.Ytdedefemggkobaa.Opens
set_option maxRecDepth 100000
theorem op90 : Rds Try.prog k90 90 G90 := by
  have h := op_struct (d := (Kd.pair (Kd.int .i64) (Kd.pair (Kd.int .i64) (Kd.pair (Kd.int .i64) (Kd.int .i64))))) (f := fun x : S90 => (x.f0, x.f1, x.f2, x.f3)) (g := fun p => (⟨p.1, p.2.1, p.2.2.1, p.2.2.2⟩ : S90)) (opf_cons (op_int .i64 Try.underlying3) rfl (by kernel_rfl) (opf_cons (op_int .i64 Try.underlying3) rfl (by kernel_rfl) (opf_cons (op_int .i64 Try.underlying3) rfl (by kernel_rfl) (opf_one (op_int .i64 Try.underlying3) rfl (by kernel_rfl)) rfl) rfl) rfl) Try.underlying90 (by kernel_rfl) (fun _ => rfl)
  exact h
theorem op92 : Rds Try.prog k92 92 G92 := by
  have h := op_struct (d := (Kd.pair (Kd.int .i64) (Kd.pair (Kd.int .i64) (Kd.int .i64)))) (f := fun x : S92 => (x.f0, x.f1, x.f2)) (g := fun p => (⟨p.1, p.2.1, p.2.2⟩ : S92)) (opf_cons (op_int .i64 Try.underlying3) rfl (by kernel_rfl) (opf_cons (op_int .i64 Try.underlying3) rfl (by kernel_rfl) (opf_one (op_int .i64 Try.underlying3) rfl (by kernel_rfl)) rfl) rfl) Try.underlying92 (by kernel_rfl) (fun _ => rfl)
  exact h
theorem op94 : Rds Try.prog k94 94 G94 := by
  have h := op_struct (d := (Kd.pair (Kd.int .i64) (Kd.pair (Kd.int .i64) (Kd.pair (Kd.int .i64) (Kd.int .i64))))) (f := fun x : S94 => (x.f0, x.f1, x.f2, x.f3)) (g := fun p => (⟨p.1, p.2.1, p.2.2.1, p.2.2.2⟩ : S94)) (opf_cons (op_int .i64 Try.underlying3) rfl (by kernel_rfl) (opf_cons (op_int .i64 Try.underlying3) rfl (by kernel_rfl) (opf_cons (op_int .i64 Try.underlying3) rfl (by kernel_rfl) (opf_one (op_int .i64 Try.underlying3) rfl (by kernel_rfl)) rfl) rfl) rfl) Try.underlying94 (by kernel_rfl) (fun _ => rfl)
  exact h
theorem op46 : Rds Try.prog k46 46 G46 := by
  have h := op_struct (d := (Kd.pair Kd.string (Kd.pair (Kd.int .i64) (Kd.pair (Kd.int .i64) (Kd.pair (Kd.slice 5 (Kd.int .u8)) (Kd.pair (Kd.int .i64) (Kd.pair Kd.bool (Kd.pair (Kd.slice 90 k90) (Kd.pair (Kd.slice 92 k92) (Kd.slice 94 k94)))))))))) (f := fun x : S46 => (x.f0, x.f1, x.f2, x.f3, x.f4, x.f5, x.f6, x.f7, x.f8)) (g := fun p => (⟨p.1, p.2.1, p.2.2.1, p.2.2.2.1, p.2.2.2.2.1, p.2.2.2.2.2.1, p.2.2.2.2.2.2.1, p.2.2.2.2.2.2.2.1, p.2.2.2.2.2.2.2.2⟩ : S46)) (opf_cons (op_string Try.underlying9) rfl (by kernel_rfl) (opf_cons (op_int .i64 Try.underlying3) rfl (by kernel_rfl) (opf_cons (op_int .i64 Try.underlying3) rfl (by kernel_rfl) (opf_cons (op_slice (op_int .u8 Try.underlying5) Try.underlying28 (by kernel_rfl)) rfl (by kernel_rfl) (opf_cons (op_int .i64 Try.underlying3) rfl (by kernel_rfl) (opf_cons (op_bool Try.underlying4) rfl (by kernel_rfl) (opf_cons (op_slice op90 Try.underlying42 (by kernel_rfl)) rfl (by kernel_rfl) (opf_cons (op_slice op92 Try.underlying43 (by kernel_rfl)) rfl (by kernel_rfl) (opf_one (op_slice op94 Try.underlying44 (by kernel_rfl)) rfl (by kernel_rfl)) rfl) rfl) rfl) rfl) rfl) rfl) rfl) rfl) Try.underlying46 (by kernel_rfl) (fun _ => rfl)
  exact h
theorem op77 : Rds Try.prog k77 77 G77 := by
  have h := op_struct (d := (Kd.pair Kd.string (Kd.pair Kd.string (Kd.pair Kd.bool (Kd.pair Kd.bool (Kd.pair (Kd.int .i64) (Kd.pair (Kd.int .i64) (Kd.pair (Kd.int .i64) (Kd.pair (Kd.int .i64) (Kd.int .i64)))))))))) (f := fun x : S77 => (x.f0, x.f1, x.f2, x.f3, x.f4, x.f5, x.f6, x.f7, x.f8)) (g := fun p => (⟨p.1, p.2.1, p.2.2.1, p.2.2.2.1, p.2.2.2.2.1, p.2.2.2.2.2.1, p.2.2.2.2.2.2.1, p.2.2.2.2.2.2.2.1, p.2.2.2.2.2.2.2.2⟩ : S77)) (opf_cons (op_string Try.underlying9) rfl (by kernel_rfl) (opf_cons (op_string Try.underlying9) rfl (by kernel_rfl) (opf_cons (op_bool Try.underlying4) rfl (by kernel_rfl) (opf_cons (op_bool Try.underlying4) rfl (by kernel_rfl) (opf_cons (op_int .i64 Try.underlying3) rfl (by kernel_rfl) (opf_cons (op_int .i64 Try.underlying3) rfl (by kernel_rfl) (opf_cons (op_int .i64 Try.underlying3) rfl (by kernel_rfl) (opf_cons (op_int .i64 Try.underlying3) rfl (by kernel_rfl) (opf_one (op_int .i64 Try.underlying3) rfl (by kernel_rfl)) rfl) rfl) rfl) rfl) rfl) rfl) rfl) rfl) Try.underlying77 (by kernel_rfl) (fun _ => rfl)
  exact h
theorem op81 : Rds Try.prog k81 81 G81 := by
  have h := op_struct (d := (Kd.pair Kd.string (Kd.slice 3 (Kd.int .i64)))) (f := fun x : S81 => (x.f0, x.f1)) (g := fun p => (⟨p.1, p.2⟩ : S81)) (opf_cons (op_string Try.underlying9) rfl (by kernel_rfl) (opf_one (op_slice (op_int .i64 Try.underlying3) Try.underlying40 (by kernel_rfl)) rfl (by kernel_rfl)) rfl) Try.underlying81 (by kernel_rfl) (fun _ => rfl)
  exact h
theorem op98 : Rds Try.prog k98 98 G98 := by
  have h := op_struct (d := (Kd.pair Kd.string (Kd.pair (Kd.int .i64) (Kd.int .i64)))) (f := fun x : S98 => (x.f0, x.f1, x.f2)) (g := fun p => (⟨p.1, p.2.1, p.2.2⟩ : S98)) (opf_cons (op_string Try.underlying9) rfl (by kernel_rfl) (opf_cons (op_int .i64 Try.underlying3) rfl (by kernel_rfl) (opf_one (op_int .i64 Try.underlying3) rfl (by kernel_rfl)) rfl) rfl) Try.underlying98 (by kernel_rfl) (fun _ => rfl)
  exact h
theorem op86 : Rds Try.prog k86 86 G86 := by
  have h := op_struct (d := (Kd.pair (Kd.int .i64) (Kd.pair Kd.string (Kd.pair (Kd.int .i64) (Kd.pair (Kd.int .i64) (Kd.pair (Kd.int .i64) (Kd.slice 98 k98))))))) (f := fun x : S86 => (x.f0, x.f1, x.f2, x.f3, x.f4, x.f5)) (g := fun p => (⟨p.1, p.2.1, p.2.2.1, p.2.2.2.1, p.2.2.2.2.1, p.2.2.2.2.2⟩ : S86)) (opf_cons (op_int .i64 Try.underlying3) rfl (by kernel_rfl) (opf_cons (op_string Try.underlying9) rfl (by kernel_rfl) (opf_cons (op_int .i64 Try.underlying3) rfl (by kernel_rfl) (opf_cons (op_int .i64 Try.underlying3) rfl (by kernel_rfl) (opf_cons (op_int .i64 Try.underlying3) rfl (by kernel_rfl) (opf_one (op_slice op98 Try.underlying84 (by kernel_rfl)) rfl (by kernel_rfl)) rfl) rfl) rfl) rfl) rfl) Try.underlying86 (by kernel_rfl) (fun _ => rfl)
  exact h
theorem op53 : Rds Try.prog k53 53 G53 := by
  have h := op_struct (d := (Kd.pair Kd.string (Kd.pair (Kd.slice 46 k46) (Kd.pair (Kd.slice 77 k77) (Kd.pair (Kd.slice 81 k81) (Kd.pair (Kd.slice 9 Kd.string) (Kd.slice 86 k86))))))) (f := fun x : S53 => (x.f0, x.f1, x.f2, x.f3, x.f4, x.f5)) (g := fun p => (⟨p.1, p.2.1, p.2.2.1, p.2.2.2.1, p.2.2.2.2.1, p.2.2.2.2.2⟩ : S53)) (opf_cons (op_string Try.underlying9) rfl (by kernel_rfl) (opf_cons (op_slice op46 Try.underlying47 (by kernel_rfl)) rfl (by kernel_rfl) (opf_cons (op_slice op77 Try.underlying48 (by kernel_rfl)) rfl (by kernel_rfl) (opf_cons (op_slice op81 Try.underlying49 (by kernel_rfl)) rfl (by kernel_rfl) (opf_cons (op_slice (op_string Try.underlying9) Try.underlying50 (by kernel_rfl)) rfl (by kernel_rfl) (opf_one (op_slice op86 Try.underlying51 (by kernel_rfl)) rfl (by kernel_rfl)) rfl) rfl) rfl) rfl) rfl) Try.underlying53 (by kernel_rfl) (fun _ => rfl)
  exact h
end Go.Proofs.Ytdedefemggkobaa.PThread
