/- The law ApplyMatchesSpec, whatever its input: it returns true, and its arguments read as they did. No condition. -/
import Derived.Test.YtnbeamaoblmbhaaRows
import Derived.Test.YtnbeamaoblmbhaaPApplyx7
import Derived.Test.YtnbeamaoblmbhaaPApplyxOp
import Derived.Test.YtnbeamaoblmbhaaOpen
import Derived.Test.YtnbeamaoblmbhaaPureApplyMatchesSpec
import Derived.WalkKit
import Derived.ProofKit
import Derived.OpenShut
import Derived.ShutString
import Derived.ChangeOld
import Derived.Below
import Derived.Carry
import Derived.SizedLaws
namespace Go.Proofs.Ytnbeamaoblmbhaa.applyMatchesSpec
open Go.ChangeShapes Go.WideShapes Go.ChangeAt Go.RowKit Go.Proofs.YtnbeamaoblmbhaaW.PrintWords Go.Proofs.Ytnbeamaoblmbhaa.Opens Go.Proofs.Ytnbeamaoblmbhaa.PApply
open Go.ChangeMaps (open_string shut_string)
set_option linter.unusedVariables false
theorem own : ownKnob Try.prog.godebug = none := by kernel_rfl
theorem laidOut : laidOutB Try.prog = true := by kernel_rfl
set_option maxRecDepth 100000 in
set_option maxHeartbeats 1000000 in
theorem lifted (os : Os) (started : os.Started) (H : Type) (enc : TypeId × Value → H) :
    ReturnsInHanded {} Try.checked os 3 .any (Rows.applyMatchesSpecSpec.pre6 enc Try.prog Try.f3 Rows.applyMatchesSpecRow.domain false) (Rows.applyMatchesSpecSpec.post enc Try.prog Try.f3 false true false false) := by
  refine returnsInHanded_of_change_sized (C := Try.checked) own started (by kernel_rfl) Try.func3
    (ChangeSpec.witness6 (enc := enc) (C := Try.checked) false ⟨#[], #[.slice none 0 0, .agg #[.int .i64 0, .int .i64 0, .int .i64 0, .int .i64 0], .int .i64 0, .int .i64 0], []⟩ 8 (by kernel_rfl) (by kernel_rfl) (by kernel_rfl) (by kernel_rfl)) ?_
  intro W base args ds gs before hval0 hW hcnd hsz0 _
  have hsz : (DataW.weightsEach Try.prog (Try.f3.params.toList ++ Rows.applyMatchesSpecSpec.plain.varTypes Try.prog) (ds ++ gs)).all (· ≤ reachBytes) = true := hsz0
  have hval : ∀ (j : Nat) t v, Try.f3.params[j]? = some t → args[j]? = some v → Value.okWide Try.prog W .any base t v := hval0
  have hW' := hW
  obtain ⟨p, q, hA0, hV, rfl, hfz, hnd⟩ := hW
  have hA : DataW.TrodAll enc Try.prog W 0 (fun _ => true) true Try.f3.params.toList args.toList ds p := hA0
  rw [Try.params3] at hA hval hsz
  obtain ⟨v0, vs0, d0, ds0, p0, q0, hargs, rfl, rfl, h0, r0⟩ := trodAll_cons hA
  obtain ⟨v1, vs1, d1, ds1, p1, q1, rfl, rfl, rfl, h1, r1⟩ := trodAll_cons r0
  obtain ⟨v2, vs2, d2, ds2, p2, q2, rfl, rfl, rfl, h2, r2⟩ := trodAll_cons r1
  obtain ⟨v3, vs3, d3, ds3, p3, q3, rfl, rfl, rfl, h3, r3⟩ := trodAll_cons r2
  obtain ⟨rfl, rfl, rfl⟩ := trodAll_nil r3
  obtain rfl : args = #[v0, v1, v2, v3] := by cases args; simp_all
  obtain ⟨rfl, rfl⟩ := trodVars_none hV
  have k0 := h0
  have lt0 : ∀ x ∈ p0, x.block < W.heap.size := by obtain ⟨m, hm⟩ := k0; exact DataW.trod_lt m _ _ _ hm
  obtain ⟨a0, len0, cap0, rfl⟩ := okWide_slice Try.underlying22 (hval 0 22 v0 rfl rfl)
  have y0 : len0 * 1 ≤ 140737488351232 := sized_row hsz (j := 0) (t := 22) rfl rfl Try.underlying22 (by kernel_rfl) h0
  obtain ⟨f0, hf0⟩ := h0
  obtain ⟨A0, c0, l0, hcs0, hl0, hr0, hg0⟩ := open_slice_kd (op_int .u8 Try.underlying5) Try.underlying22 (by kernel_rfl) hf0
  have hcs0' : [Value.slice a0 len0 cap0] = [.slice A0 l0.length c0] := by simpa [Value.cells] using hcs0
  clear hcs0
  injection hcs0' with he0 _
  injection he0 with ha0 hn0 hc0
  subst ha0 hn0 hc0
  have k1 := h1
  have lt1 : ∀ x ∈ p1, x.block < W.heap.size := by obtain ⟨m, hm⟩ := k1; exact DataW.trod_lt m _ _ _ hm
  obtain ⟨cs1, rfl, hz1⟩ := okWide_struct Try.underlying24 (hval 1 24 v1 rfl rfl)
  obtain ⟨f1, hf1⟩ := h1
  obtain ⟨y1, hk1, hg1⟩ := op24 _ _ _ _ _ _ _ _ _ hf1
  obtain ⟨_, _, hcs1, rfl, ⟨_, _, rfl, rfl, ⟨_, _, rfl, rfl, rfl⟩⟩⟩ := hk1
  obtain rfl : cs1 = #[.int .i64 y1.f0, .int .i64 y1.f1, .int .i64 y1.f2, .int .i64 y1.f3] := by
    have z := congrArg List.toArray hcs1
    simpa [Value.cells] using z
  have k2 := h2
  have lt2 : ∀ x ∈ p2, x.block < W.heap.size := by obtain ⟨m, hm⟩ := k2; exact DataW.trod_lt m _ _ _ hm
  obtain ⟨a2, rfl, rfl, rfl, w2⟩ := open_int Try.underlying3 (hval 2 3 v2 rfl rfl) h2
  have k3 := h3
  have lt3 : ∀ x ∈ p3, x.block < W.heap.size := by obtain ⟨m, hm⟩ := k3; exact DataW.trod_lt m _ _ _ hm
  obtain ⟨a3, rfl, rfl, rfl, w3⟩ := open_int Try.underlying3 (hval 3 3 v3 rfl rfl) h3
  clear hA0 hval0 hsz0 hsz
  obtain ⟨k, h⟩ := Pure.ApplyMatchesSpec l0 y1.f0 y1.f1 y1.f2 y1.f3 a2 a3 hr0.2.1 y0 hg0 hg1 w2 w3
  refine (PApply.law_ApplyMatchesSpec.calls k _ _ l0 y1.f0 y1.f1 y1.f2 y1.f3 a2 a3 true W hr0 hl0 h).mono fun e W' hh => ?_
  obtain ⟨he, bel0⟩ := hh
  have bel : Below W.heap.size W W' := bel0
  subst he
  exact ⟨_, rfl, _, _, _, [], _, [], hW', trodAll_mk1 (shut_bool Try.underlying4 _), (trodAll_cons_mk (Below.trod laidOut (by kernel_rfl) (of_decide_eq_true (by kernel_rfl)) k0 bel lt0) (trodAll_cons_mk (Below.trod laidOut (by kernel_rfl) (of_decide_eq_true (by kernel_rfl)) k1 bel lt1) (trodAll_cons_mk (Below.trod laidOut (by kernel_rfl) (of_decide_eq_true (by kernel_rfl)) k2 bel lt2) (trodAll_cons_mk (Below.trod laidOut (by kernel_rfl) (of_decide_eq_true (by kernel_rfl)) k3 bel lt3) trodAll_mk0)))), rfl, bel.frame _, fun h => by cases h⟩
theorem over : Rows.applyMatchesSpecRow.holds Try.pinned (OpenSpec.ofChange Rows.applyMatchesSpecSpec) :=
  OpenClaim.holds_of_wide 3 Try.f3 rfl rfl rfl rfl rfl rfl rfl ⟨rfl, rfl, rfl, rfl, rfl⟩ rfl rfl rfl rfl rfl (by kernel_rfl) Try.func3 (by kernel_rfl)
    (of_decide_eq_true (by kernel_rfl)) (by unfold Func.isWrapper; first | (rw [if_pos (by decide +kernel)]; kernel_rfl) | (rw [if_neg (by decide +kernel)]; exact ⟨rfl, rfl⟩))
    (fun os started H enc _ => lifted os started H enc)
theorem proved : Rows.ApplyMatchesSpecSaid := over
#print axioms proved
end Go.Proofs.Ytnbeamaoblmbhaa.applyMatchesSpec
namespace Go.Proofs.Ytnbeamaoblmbhaa
/-- The row, under a short name, for the claim. -/
theorem applyMatchesSpec_holds : Rows.ApplyMatchesSpecSaid := applyMatchesSpec.proved
end Go.Proofs.Ytnbeamaoblmbhaa
