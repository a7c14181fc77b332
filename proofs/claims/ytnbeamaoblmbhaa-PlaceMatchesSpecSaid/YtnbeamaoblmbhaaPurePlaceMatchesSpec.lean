/- The law PlaceMatchesSpec in plain Lean: the package's layout and the reference's are the same plain function. -/
import Derived.Test.YtnbeamaoblmbhaaPurePlaceD
import Derived.Test.YtnbeamaoblmbhaaPPlacex14
namespace Go.Proofs.Ytnbeamaoblmbhaa.Pure
open Go.RowKit Go.Proofs.Ytnbeamaoblmbhaa.PPlace Go.Proofs.Ytnbeamaoblmbhaa.PurePlace Go.Proofs.YtnbeamaoblmbhaaW.PrintWords Go.Proofs.YtnbeamaoblmbhaaW.PrintMore

theorem lay_small (outs : List S60) (rules : List S72) (items : List S62) (hl : items.length ≤ 9223372036854775807) :
    (lay outs rules items).1.length ≤ 9223372036854775807 ∧ (lay outs rules items).2.1.length ≤ 9223372036854775807 := by
  unfold lay
  by_cases c : (sfault outs rules).1 = 0
  · obtain ⟨_, hn, _⟩ := sfault_ok c
    rw [if_pos c]
    by_cases c2 : (ifault items outs.length).1 = 0
    · rw [if_pos c2]
      have A : ∀ (d : Nat) (i c : Int) (os : List Int) (sp : List S58), (asO outs items d i c os sp).1.length ≤ os.length ∧ (asO outs items d i c os sp).2.1.length ≤ sp.length + d := by
        intro d
        induction d with
        | zero => intro i c os sp; unfold asO; exact ⟨Nat.le_refl _, Nat.le_refl _⟩
        | succ d ih =>
          intro i c os sp
          unfold asO
          split
          · exact ⟨Nat.zero_le _, Nat.zero_le _⟩
          · split
            · exact ⟨Nat.zero_le _, Nat.zero_le _⟩
            · have := ih (i + 1) (asI items i items.length 0 (startO (rd_T60 outs i) c) os).1 (asI items i items.length 0 (startO (rd_T60 outs i) c) os).2 (sp ++ [⟨startO (rd_T60 outs i) c, (asI items i items.length 0 (startO (rd_T60 outs i) c) os).1 - startO (rd_T60 outs i) c⟩])
              rw [asI_len, List.length_append, List.length_singleton] at this
              exact ⟨this.1, by omega⟩
      have := A outs.length 0 256 (List.replicate items.length 0) []
      rw [List.length_replicate, List.length_nil] at this
      unfold assign
      exact ⟨by omega, by omega⟩
    · rw [if_neg c2]; exact ⟨Nat.zero_le _, Nat.zero_le _⟩
  · rw [if_neg c]; exact ⟨Nat.zero_le _, Nat.zero_le _⟩

theorem same_end (outs : List S60) (rules : List S72) (items : List S62) (h : G46 ⟨outs, rules⟩) (hl : items.length ≤ 9223372036854775807) (R : Res) (hR : R = lay outs rules items) :
    Ev (fun k => law_PlaceMatchesSpec.j1 k items R.1 R.2.1 outs rules R.2.2.1 R.2.2.2) true := by
  have hs := lay_small outs rules items hl
  (apply Ev.step; focus (intro k; simp only [law_PlaceMatchesSpec.j1]; exact rfl))
  subst hR
  refine Ev.bind (layout outs rules items h) (Ev.bind example_true (Ev.if_pos' rfl (Ev.if_pos' (by simp) ?_)))
  exact Ev.bind (ints_same _ hs.1) (Ev.if_pos' rfl (Ev.bind (spans_same _ hs.2) (Ev.now _)))

theorem PlaceMatchesSpec : law_PlaceMatchesSpec.Pure := by
  intro outs rules items h hl _ _
  refine Ev.rounds (g := fun k => law_PlaceMatchesSpec.f k outs rules items) ?_
  unfold law_PlaceMatchesSpec.f
  refine Ev.bind (ref_fault outs rules h) ?_
  by_cases c : (sfault outs rules).1 = 0
  · obtain ⟨e, hn, ho⟩ := sfault_ok c
    refine Ev.if_pos' c (Ev.bind (ref_ifault items outs.length hn) ?_)
    (apply Ev.step; focus (intro k; simp only [law_PlaceMatchesSpec.j0]; exact rfl))
    by_cases c2 : (ifault items outs.length).1 = 0
    · obtain ⟨e2, hi, hv⟩ := ifault_ok c2
      refine Ev.if_pos' c2 (Ev.bind (ref_assign outs rules items _ ho hv hi hn) ?_)
      exact same_end outs rules items h hl (assign outs items) (by unfold lay; rw [if_pos c, if_pos c2])
    · refine Ev.if_neg' c2 ?_
      exact same_end outs rules items h hl ([], [], (ifault items outs.length).1, (ifault items outs.length).2) (by unfold lay; rw [if_pos c, if_neg c2])
  · refine Ev.if_neg' c ?_
    (apply Ev.step; focus (intro k; simp only [law_PlaceMatchesSpec.j0]; exact rfl))
    refine Ev.if_neg' c ?_
    exact same_end outs rules items h hl ([], [], (sfault outs rules).1, (sfault outs rules).2) (by unfold lay; rw [if_neg c])
end Go.Proofs.Ytnbeamaoblmbhaa.Pure
