/- The law ArrangeWantedFirst in plain Lean: a wanted name comes before every name that is not wanted, and equal names keep their order. No condition. -/
import Derived.Test.YtoegghjhepkfkaaPureArrD
import Derived.Test.YtoegghjhepkfkaaPArrx15
namespace Go.Proofs.Ytoegghjhepkfkaa.Pure
open Go.RowKit Go.Proofs.YtoegghjhepkfkaaW.PrintWords Go.Proofs.YtoegghjhepkfkaaW.PrintLast Go.Proofs.YtoegghjhepkfkaaW.PrintMore Go.Proofs.Ytoegghjhepkfkaa.PArr
set_option linter.unusedVariables false

theorem rk_lt {l1 : List ByteArray} {s : ByteArray} : rk l1 s < l1.length ↔ l1.any (fun b => b.toList == s.toList) = true := by
  unfold rk
  rw [List.any_eq_true]
  cases h : l1.findIdx? (fun b => decide (s.toList = b.toList)) with
  | none =>
    rw [List.findIdx?_eq_none_iff] at h
    constructor
    · intro e; simp at e
    · rintro ⟨b, hb, e⟩
      have := h b hb
      simp only [decide_eq_false_iff_not] at this
      exact absurd (beq_iff_eq.1 e).symm this
  | some j =>
    obtain ⟨h1, h2, _⟩ := List.findIdx?_eq_some_iff_getElem.1 h
    exact ⟨fun _ => ⟨l1[j], List.getElem_mem h1, beq_iff_eq.2 (of_decide_eq_true h2).symm⟩, fun _ => h1⟩
theorem rk_same {l1 : List ByteArray} {s t : ByteArray} (h : s.toList = t.toList) : rk l1 s = rk l1 t := by unfold rk; rw [h]

/-- the flags of the two names behind the first i wanted ones -/
theorem first_go {l0 l1 : List ByteArray} {o : List Int} {x y : Nat} {p q : Nat} (hx : x < o.length) (hy : y < o.length) (ep : rd o (x : Int) = (p : Int)) (eq' : rd o (y : Int) = (q : Int)) (hp : p < l0.length) (hq : q < l0.length) (hl1 : l1.length < 1000000) :
    ∀ (m i : Nat), l1.length - i = m → i ≤ l1.length → Ev (fun k => law_ArrangeWantedFirst.l0 k l0 l1 (x : Int) (y : Int) o ((l1.take i).any fun b => b.toList == l0[p].toList) ((l1.take i).any fun b => b.toList == l0[q].toList) (i : Int))
      ((l1.any fun b => b.toList == l0[p].toList) || !(l1.any fun b => b.toList == l0[q].toList))
  | 0, i, hm, hi => by
    have : i = l1.length := by omega
    subst this
    rw [List.take_length]
    generalize (l1.any fun b => b.toList == l0[p].toList) = A
    generalize (l1.any fun b => b.toList == l0[q].toList) = B
    refine Ev.step (f := fun _ => some (A || !B)) (fun k => by
      simp only [law_ArrangeWantedFirst.l0]; rw [if_neg (by omega)]
      cases A <;> rfl) (Ev.now _)
  | m + 1, i, hm, hi => by
    have hlt : i < l1.length := by omega
    have ih := first_go (l0 := l0) (l1 := l1) hx hy ep eq' hp hq hl1 m (i + 1) (by omega) (by omega)
    have e1 : ∀ s : List UInt8, ((l1.take (i + 1)).any fun b => b.toList == s) = (((l1.take i).any fun b => b.toList == s) || (l1[i].toList == s)) := fun s => by
      rw [List.take_succ_eq_append_getElem hlt, List.any_append]; simp
    rw [e1, e1] at ih
    generalize ((l1.take i).any fun b => b.toList == l0[p].toList) = A at ih ⊢
    generalize ((l1.take i).any fun b => b.toList == l0[q].toList) = B at ih ⊢
    refine Ev.step (f := fun k => law_ArrangeWantedFirst.l0 k l0 l1 (x : Int) (y : Int) o (A || (l1[i].toList == l0[p].toList)) (B || (l1[i].toList == l0[q].toList)) ((i + 1 : Nat) : Int)) (fun k => by
      simp only [law_ArrangeWantedFirst.l0]
      rw [ep, eq', wr i (by omega), rdOf_nat _ _ _ hp, rdOf_nat _ _ _ hq, rdOf_nat _ _ _ hlt]
      have c1 : (i : Int) < (l1.length : Int) := by omega
      have c2 : (0 : Int) ≤ (i : Int) := by omega
      have c3 : (0 : Int) ≤ (x : Int) := by omega
      have c4 : (x : Int) < (o.length : Int) := by omega
      have c5 : (0 : Int) ≤ (p : Int) := by omega
      have c6 : (p : Int) < (l0.length : Int) := by omega
      have c7 : (0 : Int) ≤ (y : Int) := by omega
      have c8 : (y : Int) < (o.length : Int) := by omega
      have c9 : (0 : Int) ≤ (q : Int) := by omega
      have c10 : (q : Int) < (l0.length : Int) := by omega
      simp only [c1, c2, c3, c4, c5, c6, c7, c8, c9, c10, if_true]
      cases A <;> cases B <;> simp) ih

theorem first_err {l0 l1 : List ByteArray} {a b : Int} {o : List Int} {c i : Int} (h : c = 0 ∨ o = []) : Ev (fun k => law_ArrangeWantedFirst.j0 k l0 l1 a b o true c i) true := by
  refine Ev.step (fun k => by simp only [law_ArrangeWantedFirst.j0]; rfl) ?_
  refine Ev.ite_pos (by trivial) ?_
  refine Ev.bind orders_ev ?_
  refine Ev.ite_pos rfl ?_
  by_cases hc : c = 0
  · exact Ev.ite_pos hc (Ev.now true)
  · refine Ev.ite_neg hc ?_
    rcases h with h | h
    · exact absurd h hc
    · rw [h]; exact Ev.now true
theorem in_true {x a b : Int} (h1 : a ≤ x) (h2 : x ≤ b) : ref_In.f x a b = some true := by unfold ref_In.f; rw [if_pos h1, decide_eq_true h2]
theorem in_not {x a b : Int} (h : ¬ (a ≤ x ∧ x ≤ b)) : ref_In.f x a b = some false := by
  unfold ref_In.f
  by_cases h1 : x ≥ a
  · rw [if_pos h1, decide_eq_false (by omega)]
  · rw [if_neg h1]

theorem first_ok {l0 l1 : List ByteArray} (hl0 : l0.length ≤ 200) (hl1 : l1.length ≤ 40) (a b : Int) (h : arrange_ByNames.f l0 l1 = some (wantedOrder l0 l1, 0, 0)) : Ev (fun k => law_ArrangeWantedFirst.f k l0 l1 a b) true := by
  unfold law_ArrangeWantedFirst.f
  rw [h]
  refine Ev.bind (Ev.now _) ?_
  refine Ev.bind orders_ev ?_
  refine Ev.ite_pos rfl ?_
  refine Ev.ite_pos rfl ?_
  have hlen := wanted_length l0 l1
  have hw : wrap64 (((wantedOrder l0 l1).length : Int) - 1) = (l0.length : Int) - 1 := by rw [hlen]; unfold wrap64; omega
  show Ev (fun k => (ref_In.f a 0 (wrap64 (((wantedOrder l0 l1).length : Int) - 1))).bind fun t278 => if t278 = true then ((ref_In.f b 0 (wrap64 (((wantedOrder l0 l1).length : Int) - 1))).bind fun t279 => (if t279 = true then (law_ArrangeWantedFirst.j0 k l0 l1 a b (wantedOrder l0 l1) (decide (a ≥ b)) 0 0) else (law_ArrangeWantedFirst.j0 k l0 l1 a b (wantedOrder l0 l1) true 0 0))) else (law_ArrangeWantedFirst.j0 k l0 l1 a b (wantedOrder l0 l1) true 0 0)) true
  rw [hw]
  clear hw
  by_cases ha : 0 ≤ a ∧ a ≤ (l0.length : Int) - 1
  · rw [in_true ha.1 ha.2]
    refine Ev.bind (Ev.now _) (Ev.ite_pos rfl ?_)
    by_cases hb : 0 ≤ b ∧ b ≤ (l0.length : Int) - 1
    · rw [in_true hb.1 hb.2]
      refine Ev.bind (Ev.now _) (Ev.ite_pos rfl ?_)
      by_cases hab : a ≥ b
      · rw [decide_eq_true hab]; exact first_err (Or.inl rfl)
      · rw [decide_eq_false hab]
        obtain ⟨x, rfl⟩ : ∃ x : Nat, a = (x : Int) := ⟨a.toNat, by omega⟩
        obtain ⟨y, rfl⟩ : ∃ y : Nat, b = (y : Int) := ⟨b.toNat, by omega⟩
        have hx : x < l0.length := by omega
        have hy : y < l0.length := by omega
        have hxy : x < y := by omega
        have hL := ord_length (fun i => (rk l1 (l0.getD i ByteArray.empty) : Int)) l0.length
        have hbf := ord_get (key := fun i => (rk l1 (l0.getD i ByteArray.empty) : Int)) (n := l0.length) hxy (by omega)
        have hpm : (ord (fun i => (rk l1 (l0.getD i ByteArray.empty) : Int)) l0.length)[x]'(by omega) < l0.length := ord_mem.1 (List.getElem_mem _)
        have hqm : (ord (fun i => (rk l1 (l0.getD i ByteArray.empty) : Int)) l0.length)[y]'(by omega) < l0.length := ord_mem.1 (List.getElem_mem _)
        have ep : rd (wantedOrder l0 l1) (x : Int) = (((ord (fun i => (rk l1 (l0.getD i ByteArray.empty) : Int)) l0.length)[x]'(by omega) : Nat) : Int) := by
          rw [rd_nat _ _ (by omega)]; simp only [wanted_ord, List.getElem_map]
        have eq' : rd (wantedOrder l0 l1) (y : Int) = (((ord (fun i => (rk l1 (l0.getD i ByteArray.empty) : Int)) l0.length)[y]'(by omega) : Nat) : Int) := by
          rw [rd_nat _ _ (by omega)]; simp only [wanted_ord, List.getElem_map]
        generalize (ord (fun i => (rk l1 (l0.getD i ByteArray.empty) : Int)) l0.length)[x]'(by omega) = p at ep hpm hbf
        generalize (ord (fun i => (rk l1 (l0.getD i ByteArray.empty) : Int)) l0.length)[y]'(by omega) = q at eq' hqm hbf
        have gp : l0.getD p ByteArray.empty = l0[p] := by simp [List.getD, List.getElem?_eq_getElem hpm]
        have gq : l0.getD q ByteArray.empty = l0[q] := by simp [List.getD, List.getElem?_eq_getElem hqm]
        unfold Bf at hbf
        simp only [gp, gq] at hbf
        have hw2 : wrap64 ((l0.length : Int) - 1) = (l0.length : Int) - 1 := by unfold wrap64; omega
        have fin := first_go (l0 := l0) (l1 := l1) (o := wantedOrder l0 l1) (x := x) (y := y) (by omega) (by omega) ep eq' hpm hqm (by omega) l1.length 0 (by omega) (by omega)
        have hres : ((l1.any fun b => b.toList == l0[p].toList) || !(l1.any fun b => b.toList == l0[q].toList)) = true := by
          cases hA : (l1.any fun b => b.toList == l0[p].toList) with
          | true => rfl
          | false =>
            cases hB : (l1.any fun b => b.toList == l0[q].toList) with
            | false => rfl
            | true =>
              have h1 := rk_lt.2 hB
              have h2 : ¬ rk l1 l0[p] < l1.length := fun e => by have := rk_lt.1 e; rw [hA] at this; cases this
              omega
        rw [hres, List.take_zero, List.any_nil, List.any_nil] at fin
        refine Ev.step (fun k => by simp only [law_ArrangeWantedFirst.j0]; rfl) ?_
        refine Ev.ite_neg (by simp) ?_
        refine Ev.ite_pos (by omega) ?_
        refine Ev.ite_pos (by omega) ?_
        rw [ep, eq', hw2, in_true (by omega) (by omega), in_true (by omega) (by omega)]
        clear hw2
        refine Ev.bind (Ev.now _) (Ev.ite_pos rfl ?_)
        refine Ev.ite_pos (by omega) ?_
        refine Ev.ite_pos (by omega) ?_
        refine Ev.bind (Ev.now _) ?_
        refine Ev.step (fun k => by simp only [law_ArrangeWantedFirst.j1]; rfl) ?_
        refine Ev.ite_neg (by simp) ?_
        refine Ev.ite_pos (by omega) ?_
        refine Ev.ite_pos (by omega) ?_
        rw [ep, eq']
        refine Ev.ite_pos (by omega) ?_
        refine Ev.ite_pos (by omega) ?_
        refine Ev.ite_pos (by omega) ?_
        refine Ev.ite_pos (by omega) ?_
        refine Ev.ite_pos (by omega) ?_
        refine Ev.ite_pos (by omega) ?_
        rw [rdOf_nat _ _ _ hpm, rdOf_nat _ _ _ hqm]
        have j2 : Ev (fun k => law_ArrangeWantedFirst.j2 k l0 l1 (x : Int) (y : Int) (wantedOrder l0 l1) false) true := by
          refine Ev.step (fun k => by simp only [law_ArrangeWantedFirst.j2]; rfl) ?_
          exact Ev.ite_neg (by simp) fin
        by_cases hn : l0[p].toList = l0[q].toList
        · refine Ev.ite_pos hn ?_
          have := rk_same (l1 := l1) hn
          rw [decide_eq_false (show ¬ ((p : Int) > (q : Int)) by omega)]
          exact j2
        · exact Ev.ite_neg hn j2
    · rw [in_not hb]
      exact Ev.bind (Ev.now _) (Ev.ite_neg (by simp) (first_err (Or.inl rfl)))
  · rw [in_not ha]
    exact Ev.bind (Ev.now _) (Ev.ite_neg (by simp) (first_err (Or.inl rfl)))
theorem first_no {l0 l1 : List ByteArray} (a b : Int) {c i : Int} (hc : c ≠ 0) (h : arrange_ByNames.f l0 l1 = some ([], c, i)) : Ev (fun k => law_ArrangeWantedFirst.f k l0 l1 a b) true := by
  unfold law_ArrangeWantedFirst.f
  rw [h]
  refine Ev.bind (Ev.now _) ?_
  refine Ev.bind orders_ev ?_
  refine Ev.ite_pos rfl ?_
  exact Ev.ite_neg hc (first_err (Or.inr rfl))
theorem ArrangeWantedFirst : law_ArrangeWantedFirst.Pure := by
  intro l0 l1 a b b0 _ h0 b1 _ h1 _ _
  refine Ev.rounds ?_
  have hb := byNames_eq l0 l1 h0 h1
  by_cases c1 : l0.length > 200
  · rw [if_pos c1] at hb; exact first_no a b (by decide) hb
  · rw [if_neg c1] at hb
    cases n0 : l0.all nameB with
    | false => rw [n0, if_pos rfl] at hb; exact first_no a b (by decide) hb
    | true =>
      rw [n0, if_neg (by simp)] at hb
      by_cases c2 : l1.length > 40
      · rw [if_pos c2] at hb; exact first_no a b (by decide) hb
      · rw [if_neg c2] at hb
        cases n1 : l1.all nameB with
        | false => rw [n1, if_pos rfl] at hb; exact first_no a b (by decide) hb
        | true => rw [n1, if_neg (by simp)] at hb; exact first_ok (by omega) (by omega) a b hb
end Go.Proofs.Ytoegghjhepkfkaa.Pure
