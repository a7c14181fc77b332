/- The reference's orders: what they come to with enough rounds; the closed example. No condition. -/
import Derived.Test.YtoegghjhepkfkaaPureArrB
namespace Go.Proofs.Ytoegghjhepkfkaa.Pure
open Go.RowKit Go.Proofs.YtoegghjhepkfkaaW.PrintWords Go.Proofs.YtoegghjhepkfkaaW.PrintLast Go.Proofs.YtoegghjhepkfkaaW.PrintMore Go.Proofs.Ytoegghjhepkfkaa.PArr
set_option linter.unusedVariables false

/-! ### the closed example -/
theorem ex_names : arrange_ByNames.f [⟨#[97]⟩, ⟨#[98]⟩, ⟨#[97]⟩] [⟨#[98]⟩] = some ([1, 0, 2], 0, 0) := by
  rw [byNames_eq _ _ (by decide) (by decide)]
  have h : wantedOrder [⟨#[97]⟩, ⟨#[98]⟩, ⟨#[97]⟩] [⟨#[98]⟩] = [1, 0, 2] := by
    rw [wanted_ord]
    have := ord_unique (key := fun i => (rk [⟨#[98]⟩] (([⟨#[97]⟩, ⟨#[98]⟩, ⟨#[97]⟩] : List ByteArray).getD i ByteArray.empty) : Int)) (n := 3) (l := [1, 0, 2]) (by decide) (by
      have r0 : rk [⟨#[98]⟩] ⟨#[97]⟩ = 1 := by kernel_rfl
      have r1 : rk [⟨#[98]⟩] ⟨#[98]⟩ = 0 := by kernel_rfl
      simp [Bf, r0, r1])
    show (ord _ 3).map _ = _
    rw [← this]
    rfl
  rw [h]
  have n1 : ([⟨#[97]⟩, ⟨#[98]⟩, ⟨#[97]⟩] : List ByteArray).all nameB = true := by decide
  have n2 : ([⟨#[98]⟩] : List ByteArray).all nameB = true := by decide
  rw [n1, n2]
  rfl
theorem ex_weights : arrange_ByWeights.f [1, 5, 1] = some ([1, 0, 2], 0, 0) := by
  have h : weightOrder [1, 5, 1] = [1, 0, 2] := by
    rw [weight_ord]
    have := ord_unique (key := fun i => - ([1, 5, 1] : List Int).getD i 0) (n := 3) (l := [1, 0, 2]) (by decide) (by simp [Bf])
    show (ord _ 3).map _ = _
    rw [← this]
    rfl
  have hb : ([1, 5, 1] : List Int).findIdx? badW = none := by decide
  unfold arrange_ByWeights.f
  rw [hb, h]
  rfl
theorem ex_inverse : arrange_Inverse.f [1, 2, 0] = some ([2, 0, 1], 0, 0) := by
  rw [inverse_eq, isOrder_of_perm (n := 3) (by decide)]
  rfl
theorem ex_none : arrange_Inverse.f [1] = some ([], 5, -2) := by
  have h : isOrder [1] = false := by
    cases h : isOrder [1] with
    | false => rfl
    | true => have := order_mem h 1 (by simp); simp at this
  rw [inverse_eq, h]
  rfl
theorem orders_ev : Ev (fun k => law_orders.f k) true := by
  unfold law_orders.f
  rw [ex_names, ex_weights, ex_inverse, ex_none]
  simp only [Option.bind_some, ref_At.f, if_true, beq_self_eq_true, Bool.and_self]
  refine Ev.bind (ints_same _ (by simp)) (Ev.ite_pos rfl ?_)
  refine Ev.bind (ints_same _ (by simp)) (Ev.ite_pos rfl ?_)
  exact Ev.bind (ints_same _ (by simp)) (Ev.now true)

/-! ### OrderOf -/
section
variable (l0 l1 : List ByteArray)
/-- the names of rank w, in order, below i -/
def rkAt (i : Nat) : Nat := rk l1 (l0.getD i ByteArray.empty)
def rowOf (w i : Nat) : List Nat := (List.range i).filter fun j => rkAt l0 l1 j == w
def fullOf (w : Nat) : List Nat := (List.range w).flatMap fun v => rowOf l0 l1 v l0.length
variable {l0 l1}
theorem row_succ (w i : Nat) : rowOf l0 l1 w (i + 1) = rowOf l0 l1 w i ++ if rkAt l0 l1 i = w then [i] else [] := by
  unfold rowOf
  rw [List.range_succ, List.filter_append]
  congr 1
  by_cases h : rkAt l0 l1 i = w
  · rw [if_pos h]; simp [h]
  · rw [if_neg h]; simp [h]
theorem full_succ (w : Nat) : fullOf l0 l1 (w + 1) = fullOf l0 l1 w ++ rowOf l0 l1 w l0.length := by
  unfold fullOf
  rw [List.range_succ, List.flatMap_append]
  simp
theorem row_mem {w i j : Nat} : j ∈ rowOf l0 l1 w i ↔ j < i ∧ rkAt l0 l1 j = w := by unfold rowOf; simp
theorem full_mem {w j : Nat} : j ∈ fullOf l0 l1 w ↔ j < l0.length ∧ rkAt l0 l1 j < w := by
  unfold fullOf
  rw [List.mem_flatMap]
  constructor
  · rintro ⟨v, hv, hj⟩
    have h1 := List.mem_range.1 hv
    have h2 := row_mem.1 hj
    omega
  · rintro ⟨h1, h2⟩
    exact ⟨_, List.mem_range.2 h2, row_mem.2 ⟨h1, rfl⟩⟩
theorem full_sorted (w : Nat) : (fullOf l0 l1 w).Pairwise (Bf fun i => (rkAt l0 l1 i : Int)) := by
  unfold fullOf
  rw [List.pairwise_flatMap]
  refine ⟨fun v _ => ?_, List.pairwise_lt_range.imp fun {a b} h x hx y hy => ?_⟩
  · unfold rowOf
    refine List.Pairwise.imp_of_mem ?_ (List.pairwise_lt_range.filter _)
    intro a b ha hb h
    have ha := (List.mem_filter.1 ha).2
    have hb := (List.mem_filter.1 hb).2
    simp only [beq_iff_eq] at ha hb
    exact Or.inr ⟨by show (rkAt l0 l1 a : Int) = (rkAt l0 l1 b : Int); omega, h⟩
  · have h1 := row_mem.1 hx
    have h2 := row_mem.1 hy
    exact Or.inl (by show (rkAt l0 l1 x : Int) < (rkAt l0 l1 y : Int); omega)
theorem full_nodup (w : Nat) : (fullOf l0 l1 w).Nodup := (full_sorted w).imp fun {a b} h e => by subst e; exact h.irrefl
theorem state_nodup (w i : Nat) : (fullOf l0 l1 w ++ rowOf l0 l1 w i).Nodup := by
  rw [List.nodup_append]
  refine ⟨full_nodup w, List.nodup_range.filter _, fun a ha b hb e => ?_⟩
  subst e
  have h1 := full_mem.1 ha
  have h2 := row_mem.1 hb
  omega
theorem len_le : ∀ (xs ys : List Nat), xs.Nodup → xs ⊆ ys → xs.length ≤ ys.length
  | [], _, _, _ => Nat.zero_le _
  | x :: xs, ys, hn, hs => by
    have hx := hs List.mem_cons_self
    have hn' := List.nodup_cons.1 hn
    have ih := len_le xs (ys.erase x) hn'.2 (fun y hy => (List.mem_erase_of_ne (fun e => hn'.1 (by rw [← e]; exact hy))).2 (hs (List.mem_cons_of_mem _ hy)))
    have hp := List.length_pos_of_mem hx
    rw [List.length_erase_of_mem hx] at ih
    simp only [List.length_cons]
    omega
theorem state_length {w i : Nat} (hi : i ≤ l0.length) : (fullOf l0 l1 w ++ rowOf l0 l1 w i).length ≤ l0.length := by
  have := len_le (fullOf l0 l1 w ++ rowOf l0 l1 w i) (List.range l0.length) (state_nodup w i) (fun x hx => by
    rcases List.mem_append.1 hx with h | h
    · exact List.mem_range.2 (full_mem.1 h).1
    · exact List.mem_range.2 (by have := (row_mem.1 h).1; omega))
  simpa using this
theorem mem_cast {L : List Nat} {i : Nat} : ((i : Int) ∈ L.map fun x : Nat => (x : Int)) ↔ i ∈ L := by
  rw [List.mem_map]
  constructor
  · rintro ⟨j, hj, e⟩
    have : j = i := by omega
    rw [← this]; exact hj
  · intro h; exact ⟨i, h, rfl⟩
theorem rkAt_le (i : Nat) : rkAt l0 l1 i ≤ l1.length := rk_le _ _
/-- of a name that is not of an earlier rank: it is of rank w just where it is the w-th wanted one, or w is behind them all -/
theorem rk_hit {i w : Nat} (hw : w < l1.length) (hr : w ≤ rkAt l0 l1 i) : (rkAt l0 l1 i = w) ↔ (l0.getD i ByteArray.empty).toList = l1[w].toList := by
  unfold rkAt rk at *
  cases h : l1.findIdx? (fun b => decide ((l0.getD i ByteArray.empty).toList = b.toList)) with
  | none =>
    rw [h] at hr
    rw [List.findIdx?_eq_none_iff] at h
    have := h l1[w] (List.getElem_mem hw)
    simp only [Option.getD_none] at *
    simp only [decide_eq_false_iff_not] at this
    exact ⟨fun e => by omega, fun e => absurd e this⟩
  | some j =>
    rw [h] at hr
    obtain ⟨h1, h2, h3⟩ := List.findIdx?_eq_some_iff_getElem.1 h
    simp only [Option.getD_some] at *
    constructor
    · rintro rfl; simpa using h2
    · intro e
      rcases Nat.lt_or_ge w j with q | q
      · exact absurd (decide_eq_true e) (h3 w q)
      · omega
theorem order_in {w : Nat} (hw : w ≤ l1.length) (hl0 : l0.length < 1000000) (hl1 : l1.length < 1000000) {r : List Int} (H : Ev (fun k => ref_OrderOf.l0 k l0 l1 ((fullOf l0 l1 (w + 1)).map fun x : Nat => (x : Int)) ((w + 1 : Nat) : Int)) r) :
    ∀ (m i : Nat), l0.length - i = m → i ≤ l0.length → Ev (fun k => ref_OrderOf.l1 k l0 l1 ((fullOf l0 l1 w ++ rowOf l0 l1 w i).map fun x : Nat => (x : Int)) (w : Int) (i : Int)) r
  | 0, i, hm, hi => by
    have : i = l0.length := by omega
    subst this
    rw [← full_succ]
    exact Ev.step (f := fun k => ref_OrderOf.l0 k l0 l1 ((fullOf l0 l1 (w + 1)).map fun x : Nat => (x : Int)) ((w + 1 : Nat) : Int)) (fun k => by
      simp only [ref_OrderOf.l1]; rw [if_neg (by omega), wr w (by omega)]) H
  | m + 1, i, hm, hi => by
    have hlt : i < l0.length := by omega
    have ih := order_in hw hl0 hl1 H m (i + 1) (by omega) (by omega)
    rw [row_succ] at ih
    have hlen : ((fullOf l0 l1 w ++ rowOf l0 l1 w i).map fun x : Nat => (x : Int)).length ≤ l0.length := by rw [List.length_map]; exact state_length hi
    have hgd : l0.getD i ByteArray.empty = l0[i] := by simp [List.getD, List.getElem?_eq_getElem hlt]
    refine Ev.step (f := fun k => (ref_Has.f k ((fullOf l0 l1 w ++ rowOf l0 l1 w i).map fun x : Nat => (x : Int)) (i : Int)).bind fun t181 => (if t181 = true then (ref_OrderOf.l1 k l0 l1 ((fullOf l0 l1 w ++ rowOf l0 l1 w i).map fun x : Nat => (x : Int)) (w : Int) ((i + 1 : Nat) : Int)) else
      (if (w : Int) = (l1.length : Int) ∨ ((w : Int) < (l1.length : Int) ∧ l0[i].toList = (rdOf ByteArray.empty l1 (w : Int)).toList) then (ref_OrderOf.l1 k l0 l1 ((fullOf l0 l1 w ++ rowOf l0 l1 w i).map (fun x : Nat => (x : Int)) ++ [(i : Int)]) (w : Int) ((i + 1 : Nat) : Int)) else (ref_OrderOf.l1 k l0 l1 ((fullOf l0 l1 w ++ rowOf l0 l1 w i).map fun x : Nat => (x : Int)) (w : Int) ((i + 1 : Nat) : Int))))) (fun k => by
      simp only [ref_OrderOf.l1]
      rw [if_pos (by omega), wr i (by omega)]
      congr 1
      funext t
      split
      · rfl
      · by_cases e : (w : Int) = (l1.length : Int)
        · rw [if_pos e, if_pos (by omega), if_pos (Or.inl e)]
        · rw [if_neg e, if_pos (by omega), if_pos (by omega), if_pos (by omega), rdOf_nat _ _ _ hlt]
          by_cases e2 : l0[i].toList = (rdOf ByteArray.empty l1 (w : Int)).toList
          · rw [if_pos e2, if_pos (by omega), if_pos (Or.inr ⟨by omega, e2⟩)]
          · rw [if_neg e2, if_neg (fun h => by
              rcases h with h | h
              · exact e h
              · exact e2 h.2)]) ?_
    refine Ev.bind (has_ev _ _ (by omega)) ?_
    have hmem : ((i : Int) ∈ (fullOf l0 l1 w ++ rowOf l0 l1 w i).map fun x : Nat => (x : Int)) ↔ rkAt l0 l1 i < w := by
      rw [mem_cast, List.mem_append, full_mem, row_mem]
      constructor
      · rintro (h | h) <;> omega
      · intro h; exact Or.inl ⟨hlt, h⟩
    by_cases hr : rkAt l0 l1 i < w
    · refine Ev.ite_pos (by simpa using hmem.2 hr) ?_
      rw [if_neg (by omega), List.append_nil] at ih
      exact ih
    · refine Ev.ite_neg (by simpa using fun h => hr (hmem.1 h)) ?_
      by_cases e : w = l1.length
      · have hrw : rkAt l0 l1 i = w := by have := rkAt_le (l0 := l0) (l1 := l1) i; omega
        refine Ev.ite_pos (Or.inl (by omega)) ?_
        rw [if_pos hrw] at ih
        simpa using ih
      · have hw' : w < l1.length := by omega
        have hh := rk_hit (l0 := l0) (i := i) hw' (by omega)
        rw [hgd] at hh
        rw [rdOf_nat _ _ _ hw']
        by_cases hrw : rkAt l0 l1 i = w
        · refine Ev.ite_pos (Or.inr ⟨by omega, hh.1 hrw⟩) ?_
          rw [if_pos hrw] at ih
          simpa using ih
        · refine Ev.ite_neg (fun h => by
            rcases h with h | h
            · omega
            · exact hrw (hh.2 h.2)) ?_
          rw [if_neg hrw, List.append_nil] at ih
          exact ih
theorem order_out (hl0 : l0.length < 1000000) (hl1 : l1.length < 1000000) : ∀ (m w : Nat), l1.length + 1 - w = m → w ≤ l1.length + 1 → Ev (fun k => ref_OrderOf.l0 k l0 l1 ((fullOf l0 l1 w).map fun x : Nat => (x : Int)) (w : Int)) ((fullOf l0 l1 (l1.length + 1)).map fun x : Nat => (x : Int))
  | 0, w, hm, hw => by
    have : w = l1.length + 1 := by omega
    subst this
    exact Ev.step (f := fun _ => some ((fullOf l0 l1 (l1.length + 1)).map fun x : Nat => (x : Int))) (fun k => by simp only [ref_OrderOf.l0]; rw [if_neg (by omega)]) (Ev.now _)
  | m + 1, w, hm, hw => by
    have ih := order_in (l0 := l0) (l1 := l1) (w := w) (by omega) hl0 hl1 (order_out hl0 hl1 m (w + 1) (by omega) (by omega)) l0.length 0 (by omega) (by omega)
    have e : rowOf l0 l1 w 0 = [] := rfl
    rw [e, List.append_nil] at ih
    exact Ev.step (f := fun k => ref_OrderOf.l1 k l0 l1 ((fullOf l0 l1 w).map fun x : Nat => (x : Int)) (w : Int) ((0 : Nat) : Int)) (fun k => by simp only [ref_OrderOf.l0]; rw [if_pos (by omega)]; rfl) ih
theorem orderOf_ev (l0 l1 : List ByteArray) (hl0 : l0.length < 1000000) (hl1 : l1.length < 1000000) : Ev (fun k => ref_OrderOf.f k l0 l1) (wantedOrder l0 l1) := by
  have h := order_out (l0 := l0) (l1 := l1) hl0 hl1 (l1.length + 1) 0 (by omega) (by omega)
  have e : fullOf l0 l1 (l1.length + 1) = ord (fun i => (rk l1 (l0.getD i ByteArray.empty) : Int)) l0.length := by
    refine ord_unique ?_ (full_sorted _)
    refine (List.perm_ext_iff_of_nodup (full_nodup _) List.nodup_range).2 fun a => ?_
    rw [full_mem, List.mem_range]
    have := rkAt_le (l0 := l0) (l1 := l1) a
    omega
  rw [e, ← wanted_ord] at h
  exact h
end
end Go.Proofs.Ytoegghjhepkfkaa.Pure
