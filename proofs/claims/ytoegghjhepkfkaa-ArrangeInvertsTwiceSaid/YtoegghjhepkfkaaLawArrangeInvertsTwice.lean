/- The law ArrangeInvertsTwice, whatever its input: it returns true, and its arguments read as they did. No condition. -/
import Derived.Test.YtoegghjhepkfkaaRows
import Derived.Test.YtoegghjhepkfkaaPArrx14
import Derived.Test.YtoegghjhepkfkaaPArrxOp
import Derived.Test.YtoegghjhepkfkaaOpen
import Derived.Test.YtoegghjhepkfkaaPureArrangeInvertsTwice
import Derived.WalkKit
import Derived.ProofKit
import Derived.OpenShut
import Derived.ShutString
import Derived.ChangeOld
import Derived.Below
import Derived.Carry
import Derived.SizedLaws
namespace Go.Proofs.Ytoegghjhepkfkaa.arrangeInvertsTwice
open Go.ChangeShapes Go.WideShapes Go.ChangeAt Go.RowKit Go.Proofs.YtoegghjhepkfkaaW.PrintWords Go.Proofs.Ytoegghjhepkfkaa.Opens Go.Proofs.Ytoegghjhepkfkaa.PArr
open Go.ChangeMaps (open_string shut_string)
set_option linter.unusedVariables false
theorem own : ownKnob Try.prog.godebug = none := by kernel_rfl
theorem laidOut : laidOutB Try.prog = true := by kernel_rfl
set_option maxRecDepth 100000 in
set_option maxHeartbeats 1000000 in
theorem lifted (os : Os) (started : os.Started) (H : Type) (enc : TypeId × Value → H) :
    ReturnsInHanded {} Try.checked os 5 .any (Rows.arrangeInvertsTwiceSpec.pre6 enc Try.prog Try.f5 Rows.arrangeInvertsTwiceRow.domain false) (Rows.arrangeInvertsTwiceSpec.post enc Try.prog Try.f5 false true false false) := by
  refine returnsInHanded_of_change_sized (C := Try.checked) own started (by kernel_rfl) Try.func5
    (ChangeSpec.witness6 (enc := enc) (C := Try.checked) false ⟨#[], #[.slice none 0 0, .slice none 0 0], []⟩ 8 (by kernel_rfl) (by kernel_rfl) (by kernel_rfl) (by kernel_rfl)) ?_
  intro W base args ds gs before hval0 hW hcnd hsz0 _
  have hsz : (DataW.weightsEach Try.prog (Try.f5.params.toList ++ Rows.arrangeInvertsTwiceSpec.plain.varTypes Try.prog) (ds ++ gs)).all (· ≤ reachBytes) = true := hsz0
  have hval : ∀ (j : Nat) t v, Try.f5.params[j]? = some t → args[j]? = some v → Value.okWide Try.prog W .any base t v := hval0
  have hW' := hW
  obtain ⟨p, q, hA0, hV, rfl, hfz, hnd⟩ := hW
  have hA : DataW.TrodAll enc Try.prog W 0 (fun _ => true) true Try.f5.params.toList args.toList ds p := hA0
  rw [Try.params5] at hA hval hsz
  obtain ⟨v0, vs0, d0, ds0, p0, q0, hargs, rfl, rfl, h0, r0⟩ := trodAll_cons hA
  obtain ⟨v1, vs1, d1, ds1, p1, q1, rfl, rfl, rfl, h1, r1⟩ := trodAll_cons r0
  obtain ⟨rfl, rfl, rfl⟩ := trodAll_nil r1
  obtain rfl : args = #[v0, v1] := by cases args; simp_all
  obtain ⟨rfl, rfl⟩ := trodVars_none hV
  have k0 := h0
  have lt0 : ∀ x ∈ p0, x.block < W.heap.size := by obtain ⟨m, hm⟩ := k0; exact DataW.trod_lt m _ _ _ hm
  obtain ⟨a0, len0, cap0, rfl⟩ := okWide_slice Try.underlying22 (hval 0 22 v0 rfl rfl)
  have y0 : len0 * 16 ≤ 140737488351232 := sized_row hsz (j := 0) (t := 22) rfl rfl Try.underlying22 (by kernel_rfl) h0
  obtain ⟨f0, hf0⟩ := h0
  obtain ⟨A0, c0, l0, hcs0, hl0, hr0, hg0⟩ := open_slice_kd (op_string Try.underlying9) Try.underlying22 (by kernel_rfl) hf0
  have hcs0' : [Value.slice a0 len0 cap0] = [.slice A0 l0.length c0] := by simpa [Value.cells] using hcs0
  clear hcs0
  injection hcs0' with he0 _
  injection he0 with ha0 hn0 hc0
  subst ha0 hn0 hc0
  have k1 := h1
  have lt1 : ∀ x ∈ p1, x.block < W.heap.size := by obtain ⟨m, hm⟩ := k1; exact DataW.trod_lt m _ _ _ hm
  obtain ⟨a1, len1, cap1, rfl⟩ := okWide_slice Try.underlying22 (hval 1 22 v1 rfl rfl)
  have y1 : len1 * 16 ≤ 140737488351232 := sized_row hsz (j := 1) (t := 22) rfl rfl Try.underlying22 (by kernel_rfl) h1
  obtain ⟨f1, hf1⟩ := h1
  obtain ⟨A1, c1, l1, hcs1, hl1, hr1, hg1⟩ := open_slice_kd (op_string Try.underlying9) Try.underlying22 (by kernel_rfl) hf1
  have hcs1' : [Value.slice a1 len1 cap1] = [.slice A1 l1.length c1] := by simpa [Value.cells] using hcs1
  clear hcs1
  injection hcs1' with he1 _
  injection he1 with ha1 hn1 hc1
  subst ha1 hn1 hc1
  clear hA0 hval0 hsz0 hsz
  obtain ⟨k, h⟩ := Pure.ArrangeInvertsTwice l0 l1 hr0.2.1 y0 hg0 hr1.2.1 y1 hg1
  refine (PArr.law_ArrangeInvertsTwice.calls k _ _ l0 _ _ l1 true W hr0 hl0 hr1 hl1 h).mono fun e W' hh => ?_
  obtain ⟨he, bel0⟩ := hh
  have bel : Below W.heap.size W W' := bel0
  subst he
  exact ⟨_, rfl, _, _, _, [], _, [], hW', trodAll_mk1 (shut_bool Try.underlying4 _), (trodAll_cons_mk (Below.trod laidOut (by kernel_rfl) (of_decide_eq_true (by kernel_rfl)) k0 bel lt0) (trodAll_cons_mk (Below.trod laidOut (by kernel_rfl) (of_decide_eq_true (by kernel_rfl)) k1 bel lt1) trodAll_mk0)), rfl, bel.frame _, fun h => by cases h⟩
theorem over : Rows.arrangeInvertsTwiceRow.holds Try.pinned (OpenSpec.ofChange Rows.arrangeInvertsTwiceSpec) :=
  OpenClaim.holds_of_wide 5 Try.f5 rfl rfl rfl rfl rfl rfl rfl ⟨rfl, rfl, rfl, rfl, rfl⟩ rfl rfl rfl rfl rfl (by kernel_rfl) Try.func5 (by kernel_rfl)
    (of_decide_eq_true (by kernel_rfl)) (by unfold Func.isWrapper; first | (rw [if_pos (by decide +kernel)]; kernel_rfl) | (rw [if_neg (by decide +kernel)]; exact ⟨rfl, rfl⟩))
    (fun os started H enc _ => lifted os started H enc)
theorem proved : Rows.ArrangeInvertsTwiceSaid := over
#print axioms proved
end Go.Proofs.Ytoegghjhepkfkaa.arrangeInvertsTwice
namespace Go.Proofs.Ytoegghjhepkfkaa
/-- The row, under a short name, for the claim. -/
theorem arrangeInvertsTwice_holds : Rows.ArrangeInvertsTwiceSaid := arrangeInvertsTwice.proved
end Go.Proofs.Ytoegghjhepkfkaa
