/- The plain law of ApplyMoves: what the functions of package apply compute answers as the statement says, whatever the input. No condition beyond the ranges of Go's own types. -/
import Derived.Test.YtnbeamaoblmbhaaPApplyx9
import Derived.Test.YtnbeamaoblmbhaaPureApply
namespace Go.Proofs.Ytnbeamaoblmbhaa.Pure
open Go.RowKit Go.Proofs.Ytnbeamaoblmbhaa.PApply Go.Proofs.YtnbeamaoblmbhaaW.PrintWords Go.Proofs.YtnbeamaoblmbhaaW.PrintMore

theorem ApplyMoves : law_ApplyMoves.Pure := by
  intro l off kind sym add s p d _ _ hb _ ws wp wb
  rw [i64_wf] at ws wp wb
  refine ⟨20, ?_⟩
  have yes : law_ApplyMoves.j0 20 l s p d true off kind sym add = some true := by simp [law_ApplyMoves.j0]
  have last : (kind = 2 ∨ kind = 3) → 0 ≤ s → s ≤ 4000000 → 0 ≤ d → d ≤ 100000 → 0 ≤ wrap64 (p + d) → wrap64 (p + d) ≤ 1048575 → ∀ b : Bool, (b = false → 0 ≤ p ∧ p ≤ 1048575) → law_ApplyMoves.j0 20 l s p d b off kind sym add = some true := by
    intro hk h1 h2 h3 h4 h5 h6 b hp
    cases b with
    | true => exact yes
    | false =>
      obtain ⟨hp0, hp1⟩ := hp rfl
      simp only [law_ApplyMoves.j0]
      rw [w64 (n := p + d) (by omega) (by omega)] at h5 h6
      rw [if_neg (by decide), w64 (n := s + d) (by omega) (by omega), w64 (n := p + d) (by omega) (by omega), field_at (by decide), field_at (by decide)]
      simp only [Option.bind_some]
      have hc : chk l.length off kind add (p + d) = chk l.length off kind add p := by
        unfold chk
        rw [if_neg (show ¬ (p + d < 0 ∨ 1048576 ≤ p + d) by omega), if_neg (show ¬ (p < 0 ∨ 1048576 ≤ p) by omega)]
      have hr : rel kind (s + d) add (p + d) = rel kind s add p := by
        unfold rel
        rw [if_pos hk, if_pos hk]
        omega
      rw [hc, hr]
      by_cases e : (chk l.length off kind add p).1 = 0
      · rw [if_pos e, if_pos e, if_pos (show 0 ≤ s ∧ s ≤ 4294967295 by omega), if_pos (show 0 ≤ s + d ∧ s + d ≤ 4294967295 by omega)]
        simp [same_bytes]
      · rw [if_neg e, if_neg e]
        simp [same_bytes]
  unfold law_ApplyMoves.f
  rw [fills_at (by decide)]
  simp only [Option.bind_some, if_true, ref_in]
  have chain : (kind = 2 ∨ kind = 3) → (if decide (0 ≤ s ∧ s ≤ 4000000) = true then (if decide (0 ≤ d ∧ d ≤ 100000) = true then (if decide (0 ≤ wrap64 (p + d) ∧ wrap64 (p + d) ≤ 1048575) = true then law_ApplyMoves.j0 20 l s p d (!decide (0 ≤ p ∧ p ≤ 1048575)) off kind sym add else law_ApplyMoves.j0 20 l s p d true off kind sym add) else law_ApplyMoves.j0 20 l s p d true off kind sym add) else law_ApplyMoves.j0 20 l s p d true off kind sym add) = some true := by
    intro hk
    by_cases c1 : 0 ≤ s ∧ s ≤ 4000000
    · rw [if_pos (decide_eq_true c1)]
      by_cases c2 : 0 ≤ d ∧ d ≤ 100000
      · rw [if_pos (decide_eq_true c2)]
        by_cases c3 : 0 ≤ wrap64 (p + d) ∧ wrap64 (p + d) ≤ 1048575
        · rw [if_pos (decide_eq_true c3)]
          exact last hk c1.1 c1.2 c2.1 c2.2 c3.1 c3.2 _ (fun h => by simpa using h)
        · rw [if_neg (by simpa using c3)]; exact yes
      · rw [if_neg (by simpa using c2)]; exact yes
    · rw [if_neg (by simpa using c1)]; exact yes
  by_cases k2 : kind = 2
  · rw [if_pos k2]
    exact chain (Or.inl k2)
  · rw [if_neg k2]
    by_cases k3 : kind = 3
    · rw [if_pos k3]
      exact chain (Or.inr k3)
    · rw [if_neg k3]
      exact yes

end Go.Proofs.Ytnbeamaoblmbhaa.Pure
