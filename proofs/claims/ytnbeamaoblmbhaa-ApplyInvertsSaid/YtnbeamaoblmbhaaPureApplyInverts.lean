/- The plain law of ApplyInverts: what the functions of package apply compute answers as the statement says, whatever the input. No condition beyond the ranges of Go's own types. -/
import Derived.Test.YtnbeamaoblmbhaaPApplyx8
import Derived.Test.YtnbeamaoblmbhaaPureApply
namespace Go.Proofs.Ytnbeamaoblmbhaa.Pure
open Go.RowKit Go.Proofs.Ytnbeamaoblmbhaa.PApply Go.Proofs.YtnbeamaoblmbhaaW.PrintWords Go.Proofs.YtnbeamaoblmbhaaW.PrintMore

theorem ApplyInverts : law_ApplyInverts.Pure := by
  intro l off kind sym add s p _ _ hb _ _ _
  refine ⟨20, ?_⟩
  unfold law_ApplyInverts.f
  rw [field_at (by decide), fills_at (by decide)]
  simp only [Option.bind_some, if_true]
  have bad : ∀ (c1 : Int), c1 ≠ 0 → law_ApplyInverts.j0 20 l s p [] (c1 != 0) off kind sym add = some true := by
    intro c1 hc
    simp only [law_ApplyInverts.j0]
    rw [if_pos (by simpa using hc), fills_at (by decide)]
    simp
  by_cases hc : (chk l.length off kind add p).1 = 0
  · rw [if_pos hc]
    by_cases hs : 0 ≤ s ∧ s ≤ 4294967295
    · rw [if_pos hs]
      by_cases hf : fits kind (rel kind s add p) = true
      · rw [if_pos hf]
        have hb2 : bytes (put l off (wd kind) (rel kind s add p)) := bytes_put hb _ _ _
        have hv := value_put hc hf
        simp only [law_ApplyInverts.j0]
        rw [if_neg (by decide), value_at (by decide) _ _ _ _ _ _ hb2]
        simp only [Option.bind_some]
        rw [put_length, if_pos hc, hv, field_at (by decide)]
        simp only [Option.bind_some]
        rw [put_length, if_pos hc, if_pos hs, if_pos hf]
        obtain ⟨h1, h2, h3, h4, h5, h6, h7, h8⟩ := chk_ok (chk_one hc)
        have hw : wd kind = 1 ∨ wd kind = 2 ∨ wd kind = 4 := by rcases wd_cases kind with h | h | h | h <;> omega
        rw [put_num (put l off (wd kind) (rel kind s add p)) off (wd kind) (rel kind s add p) _ hw h3 (by rw [put_length]; omega) hb2 rfl (num_put l off (wd kind) _ hw h3 (by omega)).symm]
        simp only [if_true, same_bytes, Option.bind_some]
      · rw [if_neg hf]
        exact bad 16 (by decide)
    · rw [if_neg hs]
      exact bad 3 (by decide)
  · rw [if_neg hc]
    exact bad _ hc

end Go.Proofs.Ytnbeamaoblmbhaa.Pure
