/- Where sections lie in a thread block; what thread.Find finds. No condition. -/
import Derived.Test.YtdedefemggkobaaBPureThreadF
namespace Go.Proofs.Ytdedefemggkobaa.Pure
open Go.RowKit Go.Proofs.YtdedefemggkobaaW.PrintWords Go.Proofs.YtdedefemggkobaaW.PrintLast Go.Proofs.YtdedefemggkobaaW.PrintMore Go.Proofs.Ytdedefemggkobaa.PThread
set_option linter.unusedVariables false
abbrev OF (l : List S53) (q : List (List Bool)) (i j : Int) : Int := rd (rd_L13 (bl l q l.length).1 i) j
abbrev SZ (l : List S53) (i j : Int) : Int := (D46 (D53 l i).f1 j).f4
theorem szAt_bound {l : List S53} {q : List (List Bool)} (g : Good l q) {i j : Nat} (hi : i < l.length) (hj : j ≤ (D53 l (i : Int)).f1.length) : 0 ≤ szAt l q i j ∧ szAt l q i j ≤ 300000 := by
  have mo := g.ok (i : Int) (by omega) (by omega)
  obtain ⟨b1, b2, b3, b4⟩ := bl_inv g i (by omega)
  obtain ⟨r1, r2, r3, r4⟩ := rws_inv (q := rd_L24 q (i : Int)) b3 b2 mo.secs j hj
  have := g.few
  have := mo.nsec
  unfold szAt
  omega
theorem off_bound {l : List S53} {q : List (List Bool)} (g : Good l q) {i j : Nat} (hi : i < l.length) (hj : j < (D53 l (i : Int)).f1.length) : -1 ≤ OF l q i j ∧ OF l q i j ≤ 400000 := by
  have so := (g.ok (i : Int) (by omega) (by omega)).secs (j : Int) (by omega) (by omega)
  obtain ⟨z0, z1⟩ := szAt_bound g hi (Nat.le_of_lt hj)
  unfold OF
  rw [(off_at g hi hj).2]
  obtain ⟨u1, u2, _⟩ := upr_le (n := szAt l q i j) so.align.1
  have := so.align
  by_cases hc : (D46 (D53 l (i : Int)).f1 (j : Int)).f1 = 5 ∧ rdOf false (rd_L24 q (i : Int)) (j : Int) = true
  · rw [if_pos hc]; omega
  · rw [if_neg hc]; omega
theorem c_bound {l : List S53} {q : List (List Bool)} (g : Good l q) : 0 ≤ (bl l q l.length).2.2 ∧ (bl l q l.length).2.2 ≤ 300000 := by
  obtain ⟨b1, b2, b3, b4⟩ := bl_inv g l.length (Nat.le_refl _)
  have := g.few
  omega
/-- What thread.Find says of an offset in the block. -/
def Found (l : List S53) (q : List (List Bool)) (off : Int) (r : Int × Int × Int × Int × Int × Bool × Int × Int) : Prop :=
  (∃ i j : Nat, i < l.length ∧ j < (D53 l (i : Int)).f1.length ∧ hit l q off i j ∧ r = (OF l q i j, SZ l i j, (i : Int), (j : Int), off - OF l q i j, true, 0, 0)) ∨
  ((∀ i j : Nat, i < l.length → j < (D53 l (i : Int)).f1.length → ¬ hit l q off i j) ∧ r = (0, 0, 0, 0, 0, false, 0, 0))
theorem threads_some : law_threads.f 60 = some true := by decide +kernel
theorem threads_fin : Fin (fun k => law_threads.f k) (fun r => r = true) := ⟨true, rfl, Ev.of (fun k => law_threads.mono k) threads_some⟩
theorem same_fin (a : List Int) : Fin (fun _ => ref_SameBytes.f a a) (fun t => t = true) := by
  unfold ref_SameBytes.f
  exact Fin.some (by simp)
end Go.Proofs.Ytdedefemggkobaa.Pure
