/- The law PlaceMoreBehind in plain Lean: one more item in the last output moves no item before it. -/
import Derived.Test.YtnbeamaoblmbhaaPurePlaceD
import Derived.Test.YtnbeamaoblmbhaaPPlacex16
namespace Go.Proofs.Ytnbeamaoblmbhaa.Pure
open Go.RowKit Go.Proofs.Ytnbeamaoblmbhaa.PPlace Go.Proofs.Ytnbeamaoblmbhaa.PurePlace Go.Proofs.YtnbeamaoblmbhaaW.PrintWords Go.Proofs.YtnbeamaoblmbhaaW.PrintMore

theorem rd62_old (items : List S62) (t : S62) (q : Int) (h : q.toNat < items.length) : rd_T62 (items ++ [t]) q = rd_T62 items q := by
  unfold rd_T62
  rw [List.getD_eq_getElem?_getD, List.getD_eq_getElem?_getD, List.getElem?_append_left h]
theorem rd62_new (items : List S62) (t : S62) (q : Int) (h : q.toNat = items.length) : rd_T62 (items ++ [t]) q = t := by
  unfold rd_T62
  rw [List.getD_eq_getElem?_getD, h, List.getElem?_append_right (Nat.le_refl _), Nat.sub_self]
  rfl
theorem asI_s (items : List S62) (x : Int) (d : Nat) (j c : Int) (os : List Int) : asI items x (d + 1) j c os = if (rd_T62 items j).f0 = x then asI items x d (j + 1) (up c (rd_T62 items j).f2 + (rd_T62 items j).f1) (os.set j.toNat (up c (rd_T62 items j).f2)) else asI items x d (j + 1) c os := rfl
theorem asI_more (items : List S62) (t : S62) (x z : Int) (d : Nat) : ∀ (j c : Int) (os : List Int), 0 ≤ j → j + d = items.length → os.length = items.length →
    asI (items ++ [t]) x (d + 1) j c (os ++ [z]) = if t.f0 = x then (up (asI items x d j c os).1 t.f2 + t.f1, (asI items x d j c os).2 ++ [up (asI items x d j c os).1 t.f2]) else ((asI items x d j c os).1, (asI items x d j c os).2 ++ [z]) := by
  induction d with
  | zero =>
    intro j c os h0 hj hos
    unfold asI
    rw [rd62_new items t j (by omega)]
    unfold asI
    by_cases h : t.f0 = x
    · rw [if_pos h, if_pos h, show j.toNat = os.length by omega, List.set_append_right _ _ (Nat.le_refl _), Nat.sub_self, List.set_cons_zero]
    · rw [if_neg h, if_neg h]
  | succ d ih =>
    intro j c os h0 hj hos
    rw [asI_s (items ++ [t]) x (d + 1) j c, asI_s items x d j c os, rd62_old items t j (by omega)]
    by_cases h : (rd_T62 items j).f0 = x
    · rw [if_pos h, if_pos h, List.set_append_left _ _ (by omega)]
      exact ih (j + 1) _ _ (by omega) (by omega) (by rw [List.length_set]; exact hos)
    · rw [if_neg h, if_neg h]
      exact ih (j + 1) _ _ (by omega) (by omega) hos
theorem asO_more (outs : List S60) (items : List S62) (t : S62) (ht : t.f0 = (outs.length : Int) - 1) (d : Nat) : ∀ (i c : Int) (os : List Int) (sp : List S58) (z : Int), 0 ≤ i → i + d = outs.length → os.length = items.length →
    (asO outs items d i c os sp).2.2.1 = 0 → (asO outs (items ++ [t]) d i c (os ++ [z]) sp).2.2.1 = 0 → ∃ y, (asO outs (items ++ [t]) d i c (os ++ [z]) sp).1 = (asO outs items d i c os sp).1 ++ [y] := by
  induction d with
  | zero => intro i c os sp z _ _ _ _ _; exact ⟨z, rfl⟩
  | succ d ih =>
    intro i c os sp z h0 hi hos hz hz2
    have L := asI_len items i items.length 0 (startO (rd_T60 outs i) c) os
    have M := asI_more items t i z items.length 0 (startO (rd_T60 outs i) c) os (by omega) (by omega) hos
    rw [asO] at hz hz2
    rw [asO, asO]
    rw [List.length_append, List.length_singleton] at hz2 ⊢
    by_cases c1 : startO (rd_T60 outs i) c < c ∨ Int.tmod (startO (rd_T60 outs i) c) (rd_T60 outs i).f2 ≠ 0
    · rw [if_pos c1] at hz; exact absurd (show (13 : Int) = 0 from hz) (by decide)
    · rw [if_neg c1] at hz hz2
      rw [if_neg c1, if_neg c1]
      by_cases c2 : 1048576 < (asI items i items.length 0 (startO (rd_T60 outs i) c) os).1
      · rw [if_pos c2] at hz; exact absurd (show (10 : Int) = 0 from hz) (by decide)
      · rw [if_neg c2] at hz
        rw [if_neg c2]
        by_cases c3 : 1048576 < (asI (items ++ [t]) i (items.length + 1) 0 (startO (rd_T60 outs i) c) (os ++ [z])).1
        · rw [if_pos c3] at hz2; exact absurd (show (10 : Int) = 0 from hz2) (by decide)
        · rw [if_neg c3] at hz2
          rw [if_neg c3]
          rw [M] at hz2 ⊢
          by_cases e : t.f0 = i
          · have d0 : d = 0 := by omega
            subst d0
            rw [if_pos e]
            exact ⟨_, rfl⟩
          · rw [if_neg e] at hz2 ⊢
            exact ih (i + 1) _ _ _ z (by omega) (by omega) (by rw [L]; exact hos) hz hz2
theorem asO_len (outs : List S60) (items : List S62) (d : Nat) : ∀ (i c : Int) (os : List Int) (sp : List S58), (asO outs items d i c os sp).2.2.1 = 0 → (asO outs items d i c os sp).1.length = os.length := by
  induction d with
  | zero => intro i c os sp _; rfl
  | succ d ih =>
    intro i c os sp
    have L := asI_len items i items.length 0 (startO (rd_T60 outs i) c) os
    unfold asO
    split
    · intro h; exact absurd (show (13 : Int) = 0 from h) (by decide)
    · split
      · intro h; exact absurd (show (10 : Int) = 0 from h) (by decide)
      · intro h; rw [ih _ _ _ _ h, L]
theorem lay_some (outs : List S60) (rules : List S72) (items : List S62) (h : (lay outs rules items).2.2.1 = 0) :
    outs.length ≤ 8 ∧ items.length ≤ 200 ∧ (∀ j : Int, 0 ≤ j → j < items.length → VI outs.length (rd_T62 items j)) ∧ lay outs rules items = assign outs items := by
  unfold lay at h ⊢
  by_cases c : (sfault outs rules).1 = 0
  · obtain ⟨_, hn, ho⟩ := sfault_ok c
    rw [if_pos c] at h ⊢
    by_cases c2 : (ifault items outs.length).1 = 0
    · obtain ⟨_, hl, hv⟩ := ifault_ok c2
      rw [if_pos c2] at h ⊢
      exact ⟨hn, hl, hv, rfl⟩
    · rw [if_neg c2] at h; exact absurd h c2
  · rw [if_neg c] at h; exact absurd h c

theorem more_bad (outs : List S60) (rules : List S72) (items : List S62) (ys : List Int) (b : Int) : Ev (fun k => law_PlaceMoreBehind.j0 k (lay outs rules items).1 ys true (lay outs rules items).2.2.1 b) true := by
  (apply Ev.step; focus (intro k; simp only [law_PlaceMoreBehind.j0]; exact rfl))
  refine Ev.if_pos' trivial (Ev.bind example_true (Ev.if_pos' rfl ?_))
  by_cases z : (lay outs rules items).2.2.1 = 0
  · exact Ev.if_pos' z (Ev.now _)
  · refine Ev.if_neg' z ?_
    rw [(lay_none outs rules items z).1]
    exact Ev.now _

theorem more_good (xs : List Int) (y : Int) (h : xs.length ≤ 200) (a b : Int) : Ev (fun k => law_PlaceMoreBehind.j0 k xs (xs ++ [y]) false a b) true := by
  (apply Ev.step; focus (intro k; simp only [law_PlaceMoreBehind.j0]; exact rfl))
  refine Ev.if_neg' (by decide) (Ev.if_pos' ?_ (Ev.if_pos' (by omega) (Ev.if_pos' ?_ ?_)))
  · rw [w64 (n := (xs.length : Int) + 1) (by omega) (by omega), List.length_append, List.length_singleton]; omega
  · rw [List.length_append, List.length_singleton]; omega
  · rw [Int.toNat_natCast, List.take_left]
    exact Ev.bind (ints_same xs (by omega)) (Ev.now _)
theorem lay_more (outs : List S60) (rules : List S72) (items : List S62) (b c : Int) (ho : outs.length ≤ 9223372036854775807) (z : (lay outs rules items).2.2.1 = 0)
    (z2 : (lay outs rules (items ++ [⟨wrap64 ((outs.length : Int) - 1), b, c⟩])).2.2.1 = 0) :
    (lay outs rules items).1.length ≤ 200 ∧ ∃ y, (lay outs rules (items ++ [⟨wrap64 ((outs.length : Int) - 1), b, c⟩])).1 = (lay outs rules items).1 ++ [y] := by
  rw [w64 (n := (outs.length : Int) - 1) (by omega) (by omega)] at z2 ⊢
  obtain ⟨h1, h2, hv, e1⟩ := lay_some outs rules items z
  obtain ⟨h3, h4, hv2, e2⟩ := lay_some outs rules _ z2
  have V := hv2 items.length (by omega) (by rw [List.length_append, List.length_singleton]; omega)
  rw [rd62_new items _ _ (by omega)] at V
  have va := V.a0
  have vb := V.a1
  rw [e1] at z ⊢
  rw [e2] at z2 ⊢
  unfold assign at z z2 ⊢
  rw [show List.replicate (items ++ [(⟨(outs.length : Int) - 1, b, c⟩ : S62)]).length (0 : Int) = List.replicate items.length 0 ++ [0] by rw [List.length_append, List.length_singleton, List.replicate_succ']] at z2 ⊢
  obtain ⟨y, hy⟩ := asO_more outs items ⟨(outs.length : Int) - 1, b, c⟩ rfl outs.length 0 256 (List.replicate items.length 0) [] 0 (by omega) (by omega) (by simp) z z2
  have hL := asO_len outs items outs.length 0 256 (List.replicate items.length 0) [] z
  rw [List.length_replicate] at hL
  exact ⟨by omega, y, hy⟩

theorem PlaceMoreBehind : law_PlaceMoreBehind.Pure := by
  intro outs rules items a b c h _ hl _ _
  refine Ev.rounds (g := fun k => law_PlaceMoreBehind.f k outs rules items a b c) ?_
  have ho := h.1.1
  have hs1 : ([] : List S62).length + items.length < 5864062014805 := by rw [List.length_nil]; omega
  have hs2 : items.length + ([⟨wrap64 ((outs.length : Int) - 1), b, c⟩] : List S62).length < 5864062014805 := by rw [List.length_singleton]; omega
  have L2 := layout outs rules (items ++ [⟨wrap64 ((outs.length : Int) - 1), b, c⟩]) h
  have E := lay_more outs rules items b c ho
  have B := more_bad outs rules items
  have L1 := layout outs rules items h
  unfold law_PlaceMoreBehind.f
  generalize (⟨wrap64 ((outs.length : Int) - 1), b, c⟩ : S62) = t at *
  generalize lay outs rules (items ++ [t]) = R2 at *
  generalize lay outs rules items = R1 at *
  refine Ev.bind L1 (Ev.if_pos' hs1 ?_)
  simp only [Option.bind_some, List.nil_append]
  refine Ev.if_pos' hs2 (Ev.bind L2 (Ev.bind example_true (Ev.if_pos' rfl ?_)))
  by_cases z : R1.2.2.1 = 0
  · refine Ev.if_pos' z ?_
    by_cases z2 : R2.2.2.1 = 0
    · obtain ⟨hl2, y, hy⟩ := E z z2
      rw [hy, z2]
      exact more_good R1.1 y hl2 _ _
    · rw [show (R2.2.2.1 != 0) = true by simp [z2]]
      exact B _ _
  · exact Ev.if_neg' z (B _ _)
end Go.Proofs.Ytnbeamaoblmbhaa.Pure
