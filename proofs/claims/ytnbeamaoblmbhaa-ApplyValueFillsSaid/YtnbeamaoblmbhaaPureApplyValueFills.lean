/- The plain law of ApplyValueFills: what the functions of package apply compute answers as the statement says, whatever the input. No condition beyond the ranges of Go's own types. -/
import Derived.Test.YtnbeamaoblmbhaaPApplyx8
import Derived.Test.YtnbeamaoblmbhaaPureApply
namespace Go.Proofs.Ytnbeamaoblmbhaa.Pure
open Go.RowKit Go.Proofs.Ytnbeamaoblmbhaa.PApply Go.Proofs.YtnbeamaoblmbhaaW.PrintWords Go.Proofs.YtnbeamaoblmbhaaW.PrintMore

theorem ApplyValueFills : law_ApplyValueFills.Pure := by
  intro l off kind sym add p _ _ hb _ _
  refine ⟨20, ?_⟩
  unfold law_ApplyValueFills.f
  rw [value_at (by decide) _ _ _ _ _ _ hb, fills_at (by decide)]
  simp only [Option.bind_some, if_true]
  by_cases hc : (chk l.length off kind add p).1 = 0
  · rw [if_pos hc, if_pos rfl, ref_in]
    simp only [Option.bind_some, law_ApplyValueFills.j0]
    by_cases hn : 0 ≤ valueOf l off kind add p ∧ valueOf l off kind add p ≤ 4294967295
    · rw [if_neg (by simpa using hn), field_at (by decide)]
      simp only [Option.bind_some]
      obtain ⟨h1, h2, h3, h4, h5, h6, h7, h8⟩ := chk_ok (chk_one hc)
      have hw : wd kind = 1 ∨ wd kind = 2 ∨ wd kind = 4 := by rcases wd_cases kind with h | h | h | h <;> omega
      have hr := num_range hb off (wd kind)
      have hrel : rel kind (valueOf l off kind add p) add p = signed kind (num l off (wd kind)) := by
        unfold rel valueOf
        split <;> omega
      have hf : fits kind (signed kind (num l off (wd kind))) = true := by
        unfold fits low high signed
        rcases wd_cases kind with h | h | h | h
        · simp [h.2.1, h.2.2]; omega
        · obtain ⟨h, rfl⟩ := h
          have := hr.2.2.2 h
          simp
          split <;> omega
        · obtain ⟨h, rfl⟩ := h
          have := hr.2.2.1 h
          simp
          split <;> omega
        · omega
      have hm : signed kind (num l off (wd kind)) % (if wd kind = 1 then 256 else if wd kind = 2 then 65536 else 4294967296) = num l off (wd kind) := by
        unfold signed
        rcases wd_cases kind with h | h | h | h
        · rw [h.1]; simp [h.2.1, h.2.2]; rw [h.1] at hr; omega
        · obtain ⟨h, rfl⟩ := h
          have := hr.2.2.2 h
          simp [h] at this hr ⊢
          split <;> omega
        · obtain ⟨h, rfl⟩ := h
          have := hr.2.2.1 h
          simp [h] at this hr ⊢
          split <;> omega
        · omega
      rw [if_pos hc, if_pos hn, hrel, if_pos hf, put_num l off (wd kind) _ _ hw h3 (by omega) hb rfl hm]
      simp only [if_true, same_bytes, Option.bind_some]
    · rw [if_pos (by simp; omega), fills_at (by decide)]
      simp
  · rw [if_neg hc, if_neg hc]
    simp only [law_ApplyValueFills.j0, if_true]
    rw [fills_at (by decide)]
    simp [hc]

end Go.Proofs.Ytnbeamaoblmbhaa.Pure
