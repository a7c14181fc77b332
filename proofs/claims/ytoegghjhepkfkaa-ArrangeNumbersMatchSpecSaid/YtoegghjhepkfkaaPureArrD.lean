/- The reference's test for orders, and its order by weights: what they come to with enough rounds. No condition. -/
import Derived.Test.YtoegghjhepkfkaaPureArrC
namespace Go.Proofs.Ytoegghjhepkfkaa.Pure
open Go.RowKit Go.Proofs.YtoegghjhepkfkaaW.PrintWords Go.Proofs.YtoegghjhepkfkaaW.PrintLast Go.Proofs.YtoegghjhepkfkaaW.PrintMore Go.Proofs.Ytoegghjhepkfkaa.PArr
set_option linter.unusedVariables false

theorem permutes_go (l : List Int) (hl : l.length < 9223372036854775807) : ∀ (m i : Nat), l.length - i = m → i ≤ l.length → (∀ j : Nat, j < i → (j : Int) ∈ l) → Ev (fun k => ref_Permutes.l0 k l (i : Int)) (isOrder l)
  | 0, i, hm, hi, ha => by
    have : i = l.length := by omega
    subst this
    rw [isOrder_of_mem ha]
    exact Ev.step (f := fun _ => some true) (fun k => by simp only [ref_Permutes.l0]; rw [if_neg (by omega)]) (Ev.now true)
  | m + 1, i, hm, hi, ha => by
    have hlt : i < l.length := by omega
    refine Ev.step (f := fun k => (ref_Has.f k l (i : Int)).bind fun t => if t = true then ref_Permutes.l0 k l ((i + 1 : Nat) : Int) else some false) (fun k => by
      simp only [ref_Permutes.l0]; rw [if_pos (by omega), wr i (by omega)]) ?_
    refine Ev.bind (has_ev l (i : Int) hl) ?_
    by_cases h : (i : Int) ∈ l
    · refine Ev.ite_pos (decide_eq_true h) ?_
      exact permutes_go l hl m (i + 1) (by omega) (by omega) (fun j hj => by
        by_cases e : j = i
        · subst e; exact h
        · exact ha j (by omega))
    · refine Ev.ite_neg (by simpa using h) ?_
      have : isOrder l = false := by
        cases ho : isOrder l with
        | false => rfl
        | true => exact absurd (isOrder_mem ho i hlt) h
      rw [this]; exact Ev.now false
theorem permutes_ev (l : List Int) (hl : l.length < 9223372036854775807) : Ev (fun k => ref_Permutes.f k l) (isOrder l) :=
  permutes_go l hl l.length 0 (by omega) (by omega) (fun j hj => by omega)

/-! ### HeavyOf -/
section
variable {l : List Int}
def wkey (l : List Int) (i : Nat) : Int := - l.getD i 0
/-- of the numbers below i that are none of the first t: the first one in the order, or -1 if there is none -/
def Best (l : List Int) (t i : Nat) (b : Int) : Prop :=
  (b = -1 ∧ ∀ j, j < i → j ∈ (ord (wkey l) l.length).take t) ∨
  ∃ q : Nat, b = (q : Int) ∧ q < i ∧ q ∉ (ord (wkey l) l.length).take t ∧ ∀ j, j < i → j ∉ (ord (wkey l) l.length).take t → j ≠ q → Bf (wkey l) q j
theorem best_end {t : Nat} (ht : t < l.length) {b : Int} (h : Best l t l.length b) : b = ((ord (wkey l) l.length)[t]'(by rw [ord_length]; exact ht) : Int) := by
  have hlen := ord_length (wkey l) l.length
  have hnd := ord_nodup (wkey l) l.length
  have ht' : t < (ord (wkey l) l.length).length := by omega
  have hx : (ord (wkey l) l.length)[t] < l.length := ord_mem.1 (List.getElem_mem ht')
  have hnot : (ord (wkey l) l.length)[t] ∉ (ord (wkey l) l.length).take t := by
    intro hm
    obtain ⟨j, hj, e⟩ := List.mem_iff_getElem.1 hm
    rw [List.getElem_take] at e
    have hj' : j < t := by simp at hj; omega
    have := (List.getElem_inj hnd).1 e
    omega
  rcases h with ⟨_, h⟩ | ⟨q, rfl, hq, hqn, hb⟩
  · exact absurd (h _ hx) hnot
  · by_cases e : (ord (wkey l) l.length)[t] = q
    · rw [e]
    · exfalso
      have h1 := hb _ hx hnot e
      have hqm : q ∈ ord (wkey l) l.length := ord_mem.2 hq
      obtain ⟨j, hj, e2⟩ := List.mem_iff_getElem.1 hqm
      have hjt : t < j := by
        rcases Nat.lt_trichotomy j t with c | c | c
        · exact absurd (by
            rw [← e2]
            exact List.mem_iff_getElem.2 ⟨j, by simp; omega, by rw [List.getElem_take]⟩) hqn
        · subst c; exact absurd e2 e
        · exact c
      have h2 := ord_get hjt hj
      rw [e2] at h2
      exact h1.asymm h2
theorem heavy_in {t : Nat} (ht : t < l.length) (hl : l.length < 1000000) {r : List Int} (H : Ev (fun k => ref_HeavyOf.l0 k l (((ord (wkey l) l.length).take (t + 1)).map fun x : Nat => (x : Int))) r) :
    ∀ (m i : Nat) (b : Int), l.length - i = m → i ≤ l.length → Best l t i b → Ev (fun k => ref_HeavyOf.l1 k l (((ord (wkey l) l.length).take t).map fun x : Nat => (x : Int)) b (i : Int)) r
  | 0, i, b, hm, hi, hb => by
    have : i = l.length := by omega
    subst this
    have e := best_end ht hb
    have ht' : t < (ord (wkey l) l.length).length := by rw [ord_length]; exact ht
    have hlen : (((ord (wkey l) l.length).take t).map fun x : Nat => (x : Int)).length ≤ l.length := by rw [List.length_map, List.length_take, ord_length]; omega
    refine Ev.step (f := fun k => ref_HeavyOf.l0 k l (((ord (wkey l) l.length).take (t + 1)).map fun x : Nat => (x : Int))) (fun k => by
      simp only [ref_HeavyOf.l1]
      rw [if_neg (by omega), if_pos (by omega), List.take_succ_eq_append_getElem ht', List.map_append, e]; rfl) H
  | m + 1, i, b, hm, hi, hb => by
    have hlt : i < l.length := by omega
    have hlen : (((ord (wkey l) l.length).take t).map fun x : Nat => (x : Int)).length ≤ l.length := by rw [List.length_map, List.length_take, ord_length]; omega
    have ki : wkey l i = - l[i] := by unfold wkey; simp [List.getD, List.getElem?_eq_getElem hlt]
    have hb0 : b < 0 ∨ 0 ≤ b ∧ b < l.length := by
      rcases hb with ⟨h, _⟩ | ⟨q, h, h2, _⟩ <;> omega
    refine Ev.step (f := fun k => (ref_Has.f k (((ord (wkey l) l.length).take t).map fun x : Nat => (x : Int)) (i : Int)).bind fun t213 => (if t213 = true then (ref_HeavyOf.l1 k l (((ord (wkey l) l.length).take t).map fun x : Nat => (x : Int)) b ((i + 1 : Nat) : Int)) else
      (if b < 0 then (ref_HeavyOf.l1 k l (((ord (wkey l) l.length).take t).map fun x : Nat => (x : Int)) (i : Int) ((i + 1 : Nat) : Int)) else
        (if l[i] > rd l b then (ref_HeavyOf.l1 k l (((ord (wkey l) l.length).take t).map fun x : Nat => (x : Int)) (i : Int) ((i + 1 : Nat) : Int)) else (ref_HeavyOf.l1 k l (((ord (wkey l) l.length).take t).map fun x : Nat => (x : Int)) b ((i + 1 : Nat) : Int)))))) (fun k => by
      simp only [ref_HeavyOf.l1]
      rw [if_pos (by omega), wr i (by omega), rd_nat _ _ hlt]
      congr 1
      funext t
      split
      · rfl
      · split
        · rfl
        · rw [if_pos (by omega), if_pos (by omega), if_pos (by omega)]) ?_
    refine Ev.bind (has_ev _ _ (by omega)) ?_
    by_cases hin : i ∈ (ord (wkey l) l.length).take t
    · refine Ev.ite_pos (decide_eq_true (mem_cast.2 hin)) ?_
      refine heavy_in ht hl H m (i + 1) b (by omega) (by omega) ?_
      rcases hb with ⟨h1, h2⟩ | ⟨q, h1, h2, h3, h4⟩
      · refine Or.inl ⟨h1, fun j hj => ?_⟩
        by_cases e : j = i
        · subst e; exact hin
        · exact h2 j (by omega)
      · refine Or.inr ⟨q, h1, by omega, h3, fun j hj hjn hjq => ?_⟩
        by_cases e : j = i
        · subst e; exact absurd hin hjn
        · exact h4 j (by omega) hjn hjq
    · refine Ev.ite_neg (fun h => hin (mem_cast.1 (by simpa using h))) ?_
      rcases hb with ⟨h1, h2⟩ | ⟨q, h1, h2, h3, h4⟩
      · refine Ev.ite_pos (by omega) ?_
        refine heavy_in ht hl H m (i + 1) (i : Int) (by omega) (by omega) (Or.inr ⟨i, rfl, by omega, hin, fun j hj hjn hji => ?_⟩)
        exact absurd (h2 j (by omega)) hjn
      · refine Ev.ite_neg (by omega) ?_
        have kq : wkey l q = - rd l b := by rw [h1]; unfold wkey rd; rw [Int.toNat_natCast]
        by_cases hgt : l[i] > rd l b
        · refine Ev.ite_pos hgt ?_
          have hiq : Bf (wkey l) i q := Or.inl (by omega)
          refine heavy_in ht hl H m (i + 1) (i : Int) (by omega) (by omega) (Or.inr ⟨i, rfl, by omega, hin, fun j hj hjn hji => ?_⟩)
          by_cases e : j = q
          · rw [e]; exact hiq
          · exact hiq.trans (h4 j (by omega) hjn e)
        · refine Ev.ite_neg hgt ?_
          refine heavy_in ht hl H m (i + 1) b (by omega) (by omega) (Or.inr ⟨q, h1, by omega, h3, fun j hj hjn hjq => ?_⟩)
          by_cases e : j = i
          · subst e
            unfold Bf
            omega
          · exact h4 j (by omega) hjn hjq
theorem heavy_out (hl : l.length < 1000000) : ∀ (m t : Nat), l.length - t = m → t ≤ l.length → Ev (fun k => ref_HeavyOf.l0 k l (((ord (wkey l) l.length).take t).map fun x : Nat => (x : Int))) ((ord (wkey l) l.length).map fun x : Nat => (x : Int))
  | 0, t, hm, ht => by
    have : t = l.length := by omega
    subst this
    have e : (ord (wkey l) l.length).take l.length = ord (wkey l) l.length := List.take_of_length_le (by rw [ord_length]; exact Nat.le_refl _)
    rw [e]
    exact Ev.step (f := fun _ => some ((ord (wkey l) l.length).map fun x : Nat => (x : Int))) (fun k => by simp only [ref_HeavyOf.l0]; rw [if_neg (by rw [List.length_map, ord_length]; omega)]) (Ev.now _)
  | m + 1, t, hm, ht => by
    have hlt : t < l.length := by omega
    refine Ev.step (f := fun k => ref_HeavyOf.l1 k l (((ord (wkey l) l.length).take t).map fun x : Nat => (x : Int)) (-1) ((0 : Nat) : Int)) (fun k => by
      simp only [ref_HeavyOf.l0]; rw [if_pos (by rw [List.length_map, List.length_take, ord_length]; omega)]; rfl) ?_
    exact heavy_in hlt hl (heavy_out hl m (t + 1) (by omega) (by omega)) l.length 0 (-1) (by omega) (by omega) (Or.inl ⟨rfl, fun j hj => by omega⟩)
theorem heavyOf_ev (l : List Int) (hl : l.length < 1000000) : Ev (fun k => ref_HeavyOf.f k l) (weightOrder l) := by
  rw [weight_ord]
  exact heavy_out hl l.length 0 (by omega) (by omega)
end
end Go.Proofs.Ytoegghjhepkfkaa.Pure
