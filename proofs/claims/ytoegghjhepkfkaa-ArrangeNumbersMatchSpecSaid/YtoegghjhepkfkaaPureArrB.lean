/- Plain facts on orders by a key, equal keys by their numbers, and on inverses of orders. No condition. -/
import Derived.Test.YtoegghjhepkfkaaPureArrA
namespace Go.Proofs.Ytoegghjhepkfkaa.Pure
open Go.RowKit Go.Proofs.YtoegghjhepkfkaaW.PrintWords Go.Proofs.YtoegghjhepkfkaaW.PrintLast Go.Proofs.YtoegghjhepkfkaaW.PrintMore Go.Proofs.Ytoegghjhepkfkaa.PArr
set_option linter.unusedVariables false

/-- before: by the key; equal keys by the number -/
def Bf (key : Nat → Int) (x y : Nat) : Prop := key x < key y ∨ key x = key y ∧ x < y
def ord (key : Nat → Int) (n : Nat) : List Nat := (List.range n).mergeSort fun x y => !decide (key y < key x ∨ key y = key x ∧ y < x)
theorem Bf.trans {key : Nat → Int} {x y z : Nat} (h : Bf key x y) (k : Bf key y z) : Bf key x z := by unfold Bf at *; omega
theorem Bf.irrefl {key : Nat → Int} {x : Nat} (h : Bf key x x) : False := by unfold Bf at h; omega
theorem Bf.asymm {key : Nat → Int} {x y : Nat} (h : Bf key x y) (k : Bf key y x) : False := (h.trans k).irrefl
theorem ord_perm (key : Nat → Int) (n : Nat) : (ord key n).Perm (List.range n) := List.mergeSort_perm _ _
theorem ord_length (key : Nat → Int) (n : Nat) : (ord key n).length = n := by rw [(ord_perm key n).length_eq, List.length_range]
theorem ord_mem {key : Nat → Int} {n x : Nat} : x ∈ ord key n ↔ x < n := by rw [(ord_perm key n).mem_iff, List.mem_range]
theorem ord_nodup (key : Nat → Int) (n : Nat) : (ord key n).Nodup := (ord_perm key n).nodup_iff.2 List.nodup_range
theorem ord_sorted (key : Nat → Int) (n : Nat) : (ord key n).Pairwise (Bf key) := by
  have h : (ord key n).Pairwise (fun x y => (!decide (key y < key x ∨ key y = key x ∧ y < x)) = true) := List.pairwise_mergeSort (fun a b c h1 h2 => by
    simp only [Bool.not_eq_true', decide_eq_false_iff_not] at *; omega) (fun a b => by
    simp only [Bool.or_eq_true, Bool.not_eq_true', decide_eq_false_iff_not]; omega) _
  have hn : (ord key n).Pairwise (· ≠ ·) := ord_nodup key n
  refine (h.and hn).imp ?_
  intro a b ⟨h1, h2⟩
  simp only [Bool.not_eq_true', decide_eq_false_iff_not] at h1
  unfold Bf
  omega
theorem ord_unique {key : Nat → Int} {n : Nat} {l : List Nat} (hp : l.Perm (List.range n)) (hs : l.Pairwise (Bf key)) : l = ord key n :=
  List.Perm.eq_of_pairwise (le := Bf key) (fun a b _ _ h1 h2 => (h1.asymm h2).elim) hs (ord_sorted key n) (hp.trans (ord_perm key n).symm)
theorem ord_get {key : Nat → Int} {n i j : Nat} (hij : i < j) (hj : j < (ord key n).length) : Bf key ((ord key n)[i]'(by omega)) (ord key n)[j] :=
  List.pairwise_iff_getElem.1 (ord_sorted key n) i j (by omega) hj hij

theorem wanted_ord (l0 l1 : List ByteArray) : wantedOrder l0 l1 = (ord (fun i => (rk l1 (l0.getD i ByteArray.empty) : Int)) l0.length).map fun x : Nat => (x : Int) := by
  unfold wantedOrder ord
  simp only [Int.ofNat_lt, Int.ofNat_inj]
theorem weight_ord (l0 : List Int) : weightOrder l0 = (ord (fun i => - l0.getD i 0) l0.length).map fun x : Nat => (x : Int) := by
  have e1 : ∀ x y : Nat, (- l0.getD y 0 < - l0.getD x 0) = (l0.getD x 0 < l0.getD y 0) := fun x y => propext (by omega)
  have e2 : ∀ x y : Nat, (- l0.getD y 0 = - l0.getD x 0) = (l0.getD x 0 = l0.getD y 0) := fun x y => propext (by omega)
  unfold weightOrder ord
  simp only [e1, e2]
theorem wanted_length (l0 l1 : List ByteArray) : (wantedOrder l0 l1).length = l0.length := by rw [wanted_ord, List.length_map, ord_length]
theorem weight_length (l0 : List Int) : (weightOrder l0).length = l0.length := by rw [weight_ord, List.length_map, ord_length]

/-! ### orders and their inverses -/
theorem sorted_range (n : Nat) : ((List.range n).map fun x : Nat => (x : Int)).Pairwise (fun x y => decide (x ≤ y) = true) := by
  rw [List.pairwise_map]
  exact List.pairwise_lt_range.imp (fun {a b} h => by simpa using Nat.le_of_lt h)
theorem isOrder_of_perm {l : List Int} {n : Nat} (h : l.Perm ((List.range n).map fun x : Nat => (x : Int))) : isOrder l = true := by
  have hl : l.length = n := by rw [h.length_eq]; simp
  unfold isOrder
  rw [decide_eq_true_eq, hl]
  refine List.Perm.eq_of_pairwise (le := fun x y => decide (x ≤ y) = true) (fun a b _ _ h1 h2 => by simp only [decide_eq_true_eq] at h1 h2; omega) ?_ (sorted_range n) ((List.mergeSort_perm _ _).trans h)
  exact List.pairwise_mergeSort (fun a b c h1 h2 => by simp only [decide_eq_true_eq] at *; omega) (fun a b => by simp only [Bool.or_eq_true, decide_eq_true_eq]; omega) _
theorem perm_of_isOrder {l : List Int} (h : isOrder l = true) : l.Perm ((List.range l.length).map fun x : Nat => (x : Int)) := by
  unfold isOrder at h
  rw [decide_eq_true_eq] at h
  exact (List.mergeSort_perm l fun x y => decide (x ≤ y)).symm.trans (h ▸ List.Perm.refl _)
theorem cast_nodup (n : Nat) : ((List.range n).map fun x : Nat => (x : Int)).Nodup := by
  refine List.Pairwise.map _ (R := (· ≠ ·)) (fun a b h e => h (Int.ofNat_inj.1 e)) ?_
  exact List.nodup_range
theorem isOrder_nodup {l : List Int} (h : isOrder l = true) : l.Nodup := (perm_of_isOrder h).nodup_iff.2 (cast_nodup _)
theorem isOrder_mem {l : List Int} (h : isOrder l = true) (i : Nat) (hi : i < l.length) : (i : Int) ∈ l := (perm_of_isOrder h).mem_iff.2 (List.mem_map.2 ⟨i, List.mem_range.2 hi, rfl⟩)
theorem perm_of_nodup : ∀ (xs ys : List Int), xs.Nodup → xs ⊆ ys → ys.length ≤ xs.length → xs.Perm ys
  | [], ys, _, _, h => by
    have : ys = [] := List.eq_nil_of_length_eq_zero (by simpa using h)
    rw [this]
  | x :: xs, ys, hn, hs, h => by
    have hx := hs List.mem_cons_self
    have hn' := List.nodup_cons.1 hn
    have ih := perm_of_nodup xs (ys.erase x) hn'.2 (fun y hy => (List.mem_erase_of_ne (fun e => hn'.1 (by rw [← e]; exact hy))).2 (hs (List.mem_cons_of_mem _ hy))) (by
      rw [List.length_erase_of_mem hx]; simp at h; omega)
    exact (ih.cons x).trans (List.perm_cons_erase hx).symm
theorem isOrder_of_mem {l : List Int} (h : ∀ i : Nat, i < l.length → (i : Int) ∈ l) : isOrder l = true := by
  have hs : ((List.range l.length).map fun x : Nat => (x : Int)) ⊆ l := fun x hx => by
    obtain ⟨j, hj, rfl⟩ := List.mem_map.1 hx
    exact h j (List.mem_range.1 hj)
  exact isOrder_of_perm (perm_of_nodup _ _ (cast_nodup l.length) hs (by simp)).symm
theorem wanted_isOrder (l0 l1 : List ByteArray) : isOrder (wantedOrder l0 l1) = true := by
  rw [wanted_ord]
  exact isOrder_of_perm ((ord_perm _ _).map _)

theorem invGo_other : ∀ (ks : List Int) (j : Nat) (out : List Int) (p : Nat), (∀ k ∈ ks, 0 ≤ k) → (p : Int) ∉ ks → (invGo j ks out)[p]? = out[p]?
  | [], _, _, _, _, _ => rfl
  | k :: ks, j, out, p, h0, hp => by
    rw [invGo, invGo_other ks (j + 1) _ p (fun k hk => h0 k (List.mem_cons_of_mem _ hk)) (fun h => hp (List.mem_cons_of_mem _ h))]
    have := h0 k List.mem_cons_self
    rw [List.getElem?_set_ne]
    intro e
    exact hp (by rw [← e, Int.toNat_of_nonneg this]; exact List.mem_cons_self)
theorem invGo_at : ∀ (ks : List Int) (j : Nat) (out : List Int) (p q : Nat), (∀ k ∈ ks, 0 ≤ k) → ks.Nodup → p < out.length → ks[q]? = some (p : Int) → (invGo j ks out)[p]? = some ((j + q : Nat) : Int)
  | [], _, _, _, _, _, _, _, h => by simp at h
  | k :: ks, j, out, p, 0, h0, hn, hp, h => by
    have e : k = (p : Int) := by simpa using h
    subst e
    rw [invGo, invGo_other ks (j + 1) _ p (fun k hk => h0 k (List.mem_cons_of_mem _ hk)) (List.nodup_cons.1 hn).1, Int.toNat_natCast, List.getElem?_set_self hp]
    rfl
  | k :: ks, j, out, p, q + 1, h0, hn, hp, h => by
    have h' : ks[q]? = some (p : Int) := by simpa using h
    rw [invGo, invGo_at ks (j + 1) _ p q (fun k hk => h0 k (List.mem_cons_of_mem _ hk)) (List.nodup_cons.1 hn).2 (by rw [List.length_set]; exact hp) h', show j + 1 + q = j + (q + 1) by omega]
/-- the inverse of an order -/
def inv (l : List Int) : List Int := invGo 0 l (List.replicate l.length 0)
theorem inv_length (l : List Int) : (inv l).length = l.length := by unfold inv; rw [invGo_length]; simp
theorem inv_at {l : List Int} (h : isOrder l = true) (q : Nat) (hq : q < l.length) : ∃ p : Nat, l[q] = (p : Int) ∧ p < l.length ∧ (inv l)[p]? = some (q : Int) := by
  have hm := order_mem h l[q] (List.getElem_mem hq)
  refine ⟨l[q].toNat, by omega, by omega, ?_⟩
  have := invGo_at l 0 (List.replicate l.length 0) l[q].toNat q (fun k hk => (order_mem h k hk).1) (isOrder_nodup h) (by simp; omega) (by rw [List.getElem?_eq_getElem hq]; congr 1; omega)
  rw [Nat.zero_add] at this
  exact this
theorem inv_isOrder {l : List Int} (h : isOrder l = true) : isOrder (inv l) = true := isOrder_of_mem fun i hi => by
  rw [inv_length] at hi
  obtain ⟨p, _, _, e⟩ := inv_at h i hi
  exact List.mem_of_getElem? e
theorem inv_inv {l : List Int} (h : isOrder l = true) : inv (inv l) = l := by
  apply List.ext_getElem?
  intro q
  by_cases hq : q < l.length
  · obtain ⟨p, e1, hp, e2⟩ := inv_at h q hq
    have hp' : p < (inv l).length := by rw [inv_length]; exact hp
    obtain ⟨q', f1, hq', f2⟩ := inv_at (inv_isOrder h) p hp'
    rw [List.getElem?_eq_getElem hp'] at e2
    injection e2 with e2
    have : q' = q := by omega
    subst this
    rw [f2, List.getElem?_eq_getElem hq, e1]
  · rw [List.getElem?_eq_none (by rw [inv_length, inv_length]; omega), List.getElem?_eq_none (by omega)]
theorem inverse_eq (l : List Int) : arrange_Inverse.f l = some (if l.length > 200 then ([], 2, -1) else if isOrder l = true then (inv l, 0, 0) else ([], 5, -2)) := rfl
end Go.Proofs.Ytoegghjhepkfkaa.Pure
