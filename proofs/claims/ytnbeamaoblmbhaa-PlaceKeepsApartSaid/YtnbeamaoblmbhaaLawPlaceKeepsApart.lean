/- The law PlaceKeepsApart, whatever its input: it returns true, and its arguments read as they did. No condition. -/
import Derived.Test.YtnbeamaoblmbhaaRows
import Derived.Test.YtnbeamaoblmbhaaPPlacex15
import Derived.Test.YtnbeamaoblmbhaaPPlacexOp
import Derived.Test.YtnbeamaoblmbhaaOpen
import Derived.Test.YtnbeamaoblmbhaaPurePlaceKeepsApart
import Derived.WalkKit
import Derived.ProofKit
import Derived.OpenShut
import Derived.ShutString
import Derived.ChangeOld
import Derived.Below
import Derived.Carry
import Derived.SizedLaws
namespace Go.Proofs.Ytnbeamaoblmbhaa.placeKeepsApart
open Go.ChangeShapes Go.WideShapes Go.ChangeAt Go.RowKit Go.Proofs.YtnbeamaoblmbhaaW.PrintWords Go.Proofs.Ytnbeamaoblmbhaa.Opens Go.Proofs.Ytnbeamaoblmbhaa.PPlace
open Go.ChangeMaps (open_string shut_string)
set_option linter.unusedVariables false
theorem own : ownKnob Try.prog.godebug = none := by kernel_rfl
theorem laidOut : laidOutB Try.prog = true := by kernel_rfl
set_option maxRecDepth 100000 in
set_option maxHeartbeats 1000000 in
theorem lifted (os : Os) (started : os.Started) (H : Type) (enc : TypeId × Value → H) :
    ReturnsInHanded {} Try.checked os 8 .any (Rows.placeKeepsApartSpec.pre6 enc Try.prog Try.f8 Rows.placeKeepsApartRow.domain false) (Rows.placeKeepsApartSpec.post enc Try.prog Try.f8 false true false false) := by
  refine returnsInHanded_of_change_sized (C := Try.checked) own started (by kernel_rfl) Try.func8
    (ChangeSpec.witness6 (enc := enc) (C := Try.checked) false ⟨#[], #[.agg #[.slice none 0 0, .slice none 0 0], .slice none 0 0, .int .i64 0, .int .i64 0], []⟩ 8 (by kernel_rfl) (by kernel_rfl) (by kernel_rfl) (by kernel_rfl)) ?_
  intro W base args ds gs before hval0 hW hcnd hsz0 _
  have hsz : (DataW.weightsEach Try.prog (Try.f8.params.toList ++ Rows.placeKeepsApartSpec.plain.varTypes Try.prog) (ds ++ gs)).all (· ≤ reachBytes) = true := hsz0
  have hval : ∀ (j : Nat) t v, Try.f8.params[j]? = some t → args[j]? = some v → Value.okWide Try.prog W .any base t v := hval0
  have hW' := hW
  obtain ⟨p, q, hA0, hV, rfl, hfz, hnd⟩ := hW
  have hA : DataW.TrodAll enc Try.prog W 0 (fun _ => true) true Try.f8.params.toList args.toList ds p := hA0
  rw [Try.params8] at hA hval hsz
  obtain ⟨v0, vs0, d0, ds0, p0, q0, hargs, rfl, rfl, h0, r0⟩ := trodAll_cons hA
  obtain ⟨v1, vs1, d1, ds1, p1, q1, rfl, rfl, rfl, h1, r1⟩ := trodAll_cons r0
  obtain ⟨v2, vs2, d2, ds2, p2, q2, rfl, rfl, rfl, h2, r2⟩ := trodAll_cons r1
  obtain ⟨v3, vs3, d3, ds3, p3, q3, rfl, rfl, rfl, h3, r3⟩ := trodAll_cons r2
  obtain ⟨rfl, rfl, rfl⟩ := trodAll_nil r3
  obtain rfl : args = #[v0, v1, v2, v3] := by cases args; simp_all
  obtain ⟨rfl, rfl⟩ := trodVars_none hV
  have k0 := h0
  have lt0 : ∀ x ∈ p0, x.block < W.heap.size := by obtain ⟨m, hm⟩ := k0; exact DataW.trod_lt m _ _ _ hm
  obtain ⟨cs0, rfl, hz0⟩ := okWide_struct Try.underlying46 (hval 0 46 v0 rfl rfl)
  obtain ⟨f0, hf0⟩ := h0
  obtain ⟨y0, hk0, hg0⟩ := op46 _ _ _ _ _ _ _ _ _ hf0
  obtain ⟨_, _, hcs0, ⟨A0_0, c0_0, rfl, hl0_0, hr0_0⟩, ⟨A0_1, c0_1, rfl, hl0_1, hr0_1⟩⟩ := hk0
  obtain rfl : cs0 = #[.slice A0_0 y0.f0.length c0_0, .slice A0_1 y0.f1.length c0_1] := by
    have z := congrArg List.toArray hcs0
    simpa [Value.cells] using z
  have k1 := h1
  have lt1 : ∀ x ∈ p1, x.block < W.heap.size := by obtain ⟨m, hm⟩ := k1; exact DataW.trod_lt m _ _ _ hm
  obtain ⟨a1, len1, cap1, rfl⟩ := okWide_slice Try.underlying47 (hval 1 47 v1 rfl rfl)
  have y1 : len1 * 24 ≤ 140737488351232 := sized_row hsz (j := 1) (t := 47) rfl rfl Try.underlying47 (by kernel_rfl) h1
  obtain ⟨f1, hf1⟩ := h1
  obtain ⟨A1, c1, l1, hcs1, hl1, hr1, hg1⟩ := open_slice_kd op62 Try.underlying47 (by kernel_rfl) hf1
  have hcs1' : [Value.slice a1 len1 cap1] = [.slice A1 l1.length c1] := by simpa [Value.cells] using hcs1
  clear hcs1
  injection hcs1' with he1 _
  injection he1 with ha1 hn1 hc1
  subst ha1 hn1 hc1
  have k2 := h2
  have lt2 : ∀ x ∈ p2, x.block < W.heap.size := by obtain ⟨m, hm⟩ := k2; exact DataW.trod_lt m _ _ _ hm
  obtain ⟨a2, rfl, rfl, rfl, w2⟩ := open_int Try.underlying3 (hval 2 3 v2 rfl rfl) h2
  have k3 := h3
  have lt3 : ∀ x ∈ p3, x.block < W.heap.size := by obtain ⟨m, hm⟩ := k3; exact DataW.trod_lt m _ _ _ hm
  obtain ⟨a3, rfl, rfl, rfl, w3⟩ := open_int Try.underlying3 (hval 3 3 v3 rfl rfl) h3
  clear hA0 hval0 hsz0 hsz
  obtain ⟨k, h⟩ := Pure.PlaceKeepsApart y0.f0 y0.f1 l1 a2 a3 hg0 hr1.2.1 y1 hg1 w2 w3
  refine (PPlace.law_PlaceKeepsApart.calls k _ _ y0.f0 _ _ y0.f1 _ _ l1 a2 a3 true W hr0_0 hl0_0 hr0_1 hl0_1 hr1 hl1 h).mono fun e W' hh => ?_
  obtain ⟨he, bel0⟩ := hh
  have bel : Below W.heap.size W W' := bel0
  subst he
  exact ⟨_, rfl, _, _, _, [], _, [], hW', trodAll_mk1 (shut_bool Try.underlying4 _), (trodAll_cons_mk (Below.trod laidOut (by kernel_rfl) (of_decide_eq_true (by kernel_rfl)) k0 bel lt0) (trodAll_cons_mk (Below.trod laidOut (by kernel_rfl) (of_decide_eq_true (by kernel_rfl)) k1 bel lt1) (trodAll_cons_mk (Below.trod laidOut (by kernel_rfl) (of_decide_eq_true (by kernel_rfl)) k2 bel lt2) (trodAll_cons_mk (Below.trod laidOut (by kernel_rfl) (of_decide_eq_true (by kernel_rfl)) k3 bel lt3) trodAll_mk0)))), rfl, bel.frame _, fun h => by cases h⟩
theorem over : Rows.placeKeepsApartRow.holds Try.pinned (OpenSpec.ofChange Rows.placeKeepsApartSpec) :=
  OpenClaim.holds_of_wide 8 Try.f8 rfl rfl rfl rfl rfl rfl rfl ⟨rfl, rfl, rfl, rfl, rfl⟩ rfl rfl rfl rfl rfl (by kernel_rfl) Try.func8 (by kernel_rfl)
    (of_decide_eq_true (by kernel_rfl)) (by unfold Func.isWrapper; first | (rw [if_pos (by decide +kernel)]; kernel_rfl) | (rw [if_neg (by decide +kernel)]; exact ⟨rfl, rfl⟩))
    (fun os started H enc _ => lifted os started H enc)
theorem proved : Rows.PlaceKeepsApartSaid := over
#print axioms proved
end Go.Proofs.Ytnbeamaoblmbhaa.placeKeepsApart
namespace Go.Proofs.Ytnbeamaoblmbhaa
/-- The row, under a short name, for the claim. -/
theorem placeKeepsApart_holds : Rows.PlaceKeepsApartSaid := placeKeepsApart.proved
end Go.Proofs.Ytnbeamaoblmbhaa
