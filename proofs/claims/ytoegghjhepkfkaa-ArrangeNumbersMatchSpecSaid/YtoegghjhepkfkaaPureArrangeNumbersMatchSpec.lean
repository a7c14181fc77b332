/- The law ArrangeNumbersMatchSpec in plain Lean: orders by weights and inverses, with all errors, are as specified. No condition. -/
import Derived.Test.YtoegghjhepkfkaaPureArrD
import Derived.Test.YtoegghjhepkfkaaPArrx13
namespace Go.Proofs.Ytoegghjhepkfkaa.Pure
open Go.RowKit Go.Proofs.YtoegghjhepkfkaaW.PrintWords Go.Proofs.YtoegghjhepkfkaaW.PrintLast Go.Proofs.YtoegghjhepkfkaaW.PrintMore Go.Proofs.Ytoegghjhepkfkaa.PArr
set_option linter.unusedVariables false

theorem num_l1 {l : List Int} (hl : l.length ≤ 200) (ho : isOrder l = true) : ∀ (m i : Nat), l.length - i = m → i ≤ l.length → Ev (fun k => law_ArrangeNumbersMatchSpec.l1 k l (inv l) (i : Int)) true
  | 0, i, hm, hi => by
    have : i = l.length := by omega
    subst this
    exact Ev.step (f := fun _ => some true) (fun k => by simp only [law_ArrangeNumbersMatchSpec.l1]; rw [if_neg (by omega)]) (Ev.now true)
  | m + 1, i, hm, hi => by
    have hlt : i < l.length := by omega
    obtain ⟨p, e1, hp, e2⟩ := inv_at ho i hlt
    have hil := inv_length l
    have r1 : rd l (i : Int) = (p : Int) := by rw [rd_nat _ _ hlt, e1]
    have r2 : rd (inv l) (p : Int) = (i : Int) := by
      rw [rd_nat _ _ (by omega)]
      rw [List.getElem?_eq_getElem (by omega)] at e2
      exact Option.some.inj e2
    exact Ev.step (f := fun k => law_ArrangeNumbersMatchSpec.l1 k l (inv l) ((i + 1 : Nat) : Int)) (fun k => by
      simp only [law_ArrangeNumbersMatchSpec.l1]
      rw [r1, r2, if_pos (by omega), if_pos (by omega), if_pos (by omega), if_pos (by omega), if_pos (by omega), if_pos rfl, wr i (by omega)]) (num_l1 hl ho m (i + 1) (by omega) (by omega))
theorem num_j5 {l iv : List Int} (hl : l.length ≤ 200) {w0 w1 : Int} (hw : w0 = 0 ∧ isOrder l = true ∧ iv = inv l ∨ w0 ≠ 0 ∧ iv = []) : Ev (fun k => law_ArrangeNumbersMatchSpec.j5 k l iv false w0 w1) true := by
  refine Ev.step (fun k => by simp only [law_ArrangeNumbersMatchSpec.j5]; rfl) ?_
  refine Ev.ite_neg (by simp) ?_
  rcases hw with ⟨h0, ho, rfl⟩ | ⟨h0, rfl⟩
  · exact Ev.ite_pos h0 (num_l1 hl ho l.length 0 (by omega) (by omega))
  · exact Ev.ite_neg h0 (Ev.now true)
theorem num_j5_big {l : List Int} {w0 w1 : Int} (h0 : w0 ≠ 0) : Ev (fun k => law_ArrangeNumbersMatchSpec.j5 k l [] false w0 w1) true := by
  refine Ev.step (fun k => by simp only [law_ArrangeNumbersMatchSpec.j5]; rfl) ?_
  refine Ev.ite_neg (by simp) ?_
  exact Ev.ite_neg h0 (Ev.now true)
theorem num_j4 {l iv o : List Int} {w0 w1 v0 v1 : Int} (h5 : Ev (fun k => law_ArrangeNumbersMatchSpec.j5 k l iv false w0 w1) true) (hB : arrange_ByWeights.f l = some (o, v0, v1)) (hI : arrange_Inverse.f l = some (iv, w0, w1))
    (hv : v0 = 0 ∧ l.length ≤ 200 ∧ o = weightOrder l ∨ v0 ≠ 0 ∧ o = []) : Ev (fun k => law_ArrangeNumbersMatchSpec.j4 k l w0 w1 v0 v1) true := by
  refine Ev.step (fun k => by simp only [law_ArrangeNumbersMatchSpec.j4]; rfl) ?_
  rw [hB]
  refine Ev.bind (Ev.now _) ?_
  rw [hI]
  refine Ev.bind (Ev.now _) ?_
  refine Ev.bind orders_ev ?_
  refine Ev.ite_pos rfl ?_
  refine Ev.ite_neg (by simp) ?_
  refine Ev.ite_neg (by simp) ?_
  rcases hv with ⟨h0, hl, rfl⟩ | ⟨h0, rfl⟩
  · refine Ev.ite_pos h0 ?_
    refine Ev.bind (heavyOf_ev l (by omega)) ?_
    refine Ev.bind (ints_same _ (by rw [weight_length]; omega)) ?_
    exact h5
  · refine Ev.ite_neg h0 ?_
    exact Ev.ite_neg (by simp) h5
theorem num_tail {l o : List Int} (hl : l.length ≤ 200) {v0 v1 : Int} (x5 : Int) (hB : arrange_ByWeights.f l = some (o, v0, v1)) (hv : v0 = 0 ∧ l.length ≤ 200 ∧ o = weightOrder l ∨ v0 ≠ 0 ∧ o = []) :
    Ev (fun k => law_ArrangeNumbersMatchSpec.j2 k l x5 false 0 0 v0 v1) true := by
  refine Ev.step (fun k => by simp only [law_ArrangeNumbersMatchSpec.j2]; rfl) ?_
  refine Ev.ite_neg (by simp) ?_
  refine Ev.ite_pos (by trivial) ?_
  refine Ev.bind (permutes_ev l (by omega)) ?_
  refine Ev.step (fun k => by simp only [law_ArrangeNumbersMatchSpec.j3]; rfl) ?_
  cases ho : isOrder l with
  | true =>
    refine Ev.ite_neg (by simp) ?_
    exact num_j4 (num_j5 hl (Or.inl ⟨rfl, ho, rfl⟩)) hB (by rw [inverse_eq, if_neg (by omega), if_pos ho]) hv
  | false =>
    refine Ev.ite_pos rfl ?_
    refine Ev.bind (a := (5, -2)) (Ev.now _) ?_
    exact num_j4 (num_j5 hl (Or.inr ⟨by decide, rfl⟩)) hB (by rw [inverse_eq, if_neg (by omega), ho, if_neg (by simp)]) hv
theorem num_go {l : List Int} (hl : l.length ≤ 200) : ∀ (m i : Nat), l.length - i = m → i ≤ l.length → (∀ j, j < i → badW (l.getD j 0) = false) → Ev (fun k => law_ArrangeNumbersMatchSpec.l0 k l (i : Int) 0 0 0 0) true
  | 0, i, hm, hi, hg => by
    have : i = l.length := by omega
    subst this
    have hB : arrange_ByWeights.f l = some (weightOrder l, 0, 0) := by
      unfold arrange_ByWeights.f
      rw [if_neg (by omega), bad_none hg]
    exact Ev.step (f := fun k => law_ArrangeNumbersMatchSpec.j2 k l (l.length : Int) false 0 0 0 0) (fun k => by simp only [law_ArrangeNumbersMatchSpec.l0]; rw [if_neg (by omega)]) (num_tail hl _ hB (Or.inl ⟨rfl, hl, rfl⟩))
  | m + 1, i, hm, hi, hg => by
    have hlt : i < l.length := by omega
    have hgd : l.getD i 0 = l[i] := by simp [List.getD, List.getElem?_eq_getElem hlt]
    refine Ev.step (f := fun k => law_ArrangeNumbersMatchSpec.j2 k l (i : Int) true 0 0 0 0) (fun k => by simp only [law_ArrangeNumbersMatchSpec.l0]; rw [if_pos (by omega)]; rfl) ?_
    refine Ev.step (f := fun k => (ref_In.f l[i] 0 1000000).bind fun t => if t = true then law_ArrangeNumbersMatchSpec.l0 k l ((i + 1 : Nat) : Int) 0 0 0 0 else law_ArrangeNumbersMatchSpec.l0 k l ((i + 1 : Nat) : Int) 0 0 3 (i : Int)) (fun k => by
      simp only [law_ArrangeNumbersMatchSpec.j2, ref_At.f, Option.bind_some]
      rw [if_pos (by trivial), if_pos (by omega), if_pos (by omega), rd_nat _ _ hlt, wr i (by omega)]) ?_
    cases hb : badW l[i] with
    | false =>
      have h1 := badW_no hb
      have e : ref_In.f l[i] 0 1000000 = some true := by unfold ref_In.f; rw [if_pos (by omega), decide_eq_true (by omega)]
      rw [e]
      refine Ev.bind (Ev.now _) (Ev.ite_pos rfl ?_)
      exact num_go hl m (i + 1) (by omega) (by omega) (fun j hj => by
        by_cases e : j = i
        · subst e; rw [hgd]; exact hb
        · exact hg j (by omega))
    | true =>
      have e : ref_In.f l[i] 0 1000000 = some false := by
        unfold badW at hb
        simp only [Bool.or_eq_true, decide_eq_true_eq] at hb
        unfold ref_In.f
        by_cases h : l[i] ≥ 0
        · rw [if_pos h, decide_eq_false (by omega)]
        · rw [if_neg h]
      rw [e]
      refine Ev.bind (Ev.now _) (Ev.ite_neg (by simp) ?_)
      have hB : arrange_ByWeights.f l = some ([], 3, (i : Int)) := by
        unfold arrange_ByWeights.f
        rw [if_neg (by omega), bad_hit hlt hgd hb hg]
      refine Ev.step (f := fun k => law_ArrangeNumbersMatchSpec.j2 k l ((i + 1 : Nat) : Int) false 0 0 3 (i : Int)) (fun k => by
        simp only [law_ArrangeNumbersMatchSpec.l0]
        split <;> rfl) ?_
      exact num_tail hl _ hB (Or.inr ⟨by decide, rfl⟩)
theorem ArrangeNumbersMatchSpec : law_ArrangeNumbersMatchSpec.Pure := by
  intro l hlen _ _
  refine Ev.rounds ?_
  unfold law_ArrangeNumbersMatchSpec.f
  by_cases c : l.length > 200
  · refine Ev.ite_pos (by omega) ?_
    refine Ev.bind (a := (2, -1)) (Ev.now _) ?_
    have hB : arrange_ByWeights.f l = some ([], 2, -1) := by unfold arrange_ByWeights.f; rw [if_pos c]
    have hI : arrange_Inverse.f l = some ([], 2, -1) := by rw [inverse_eq, if_pos c]
    refine Ev.step (f := fun k => law_ArrangeNumbersMatchSpec.l0 k l 0 2 (-1) 2 (-1)) (fun k => by simp only [law_ArrangeNumbersMatchSpec.j0]) ?_
    refine Ev.step (f := fun k => law_ArrangeNumbersMatchSpec.j2 k l 0 false 2 (-1) 2 (-1)) (fun k => by simp only [law_ArrangeNumbersMatchSpec.l0]; split <;> rfl) ?_
    refine Ev.step (fun k => by simp only [law_ArrangeNumbersMatchSpec.j2]; rfl) ?_
    refine Ev.ite_neg (by simp) ?_
    refine Ev.ite_neg (by decide) ?_
    refine Ev.step (fun k => by simp only [law_ArrangeNumbersMatchSpec.j3]; rfl) ?_
    refine Ev.ite_neg (by simp) ?_
    exact num_j4 (num_j5_big (by decide)) hB hI (Or.inr ⟨by decide, rfl⟩)
  · refine Ev.ite_neg (by omega) ?_
    refine Ev.step (f := fun k => law_ArrangeNumbersMatchSpec.l0 k l ((0 : Nat) : Int) 0 0 0 0) (fun k => by simp only [law_ArrangeNumbersMatchSpec.j0]; rfl) ?_
    exact num_go (by omega) l.length 0 (by omega) (by omega) (fun j hj => by omega)
end Go.Proofs.Ytoegghjhepkfkaa.Pure
