/- The law ArrangeInvertsTwice in plain Lean: the inverse of the inverse of an order is the order. No condition. -/
import Derived.Test.YtoegghjhepkfkaaPureArrD
import Derived.Test.YtoegghjhepkfkaaPArrx14
namespace Go.Proofs.Ytoegghjhepkfkaa.Pure
open Go.RowKit Go.Proofs.YtoegghjhepkfkaaW.PrintWords Go.Proofs.YtoegghjhepkfkaaW.PrintLast Go.Proofs.YtoegghjhepkfkaaW.PrintMore Go.Proofs.Ytoegghjhepkfkaa.PArr
set_option linter.unusedVariables false

theorem twice_err {l0 l1 : List ByteArray} {c i : Int} (hc : c ≠ 0) (h : arrange_ByNames.f l0 l1 = some ([], c, i)) : Ev (fun k => law_ArrangeInvertsTwice.f k l0 l1) true := by
  unfold law_ArrangeInvertsTwice.f
  rw [h]
  refine Ev.bind (Ev.now _) ?_
  refine Ev.bind orders_ev ?_
  refine Ev.ite_pos rfl ?_
  refine Ev.step (fun k => by simp only [law_ArrangeInvertsTwice.j0]; rfl) ?_
  refine Ev.ite_pos (by simpa using hc) ?_
  refine Ev.bind orders_ev ?_
  exact Ev.ite_pos rfl (Ev.now true)
theorem twice_ok {l0 l1 : List ByteArray} (hl0 : l0.length ≤ 200) (h : arrange_ByNames.f l0 l1 = some (wantedOrder l0 l1, 0, 0)) : Ev (fun k => law_ArrangeInvertsTwice.f k l0 l1) true := by
  unfold law_ArrangeInvertsTwice.f
  rw [h]
  refine Ev.bind (Ev.now _) ?_
  refine Ev.bind orders_ev ?_
  refine Ev.ite_pos rfl ?_
  have hlen := wanted_length l0 l1
  have ho := wanted_isOrder l0 l1
  generalize wantedOrder l0 l1 = o at hlen ho ⊢
  refine Ev.step (fun k => by simp only [law_ArrangeInvertsTwice.j0]; rfl) ?_
  refine Ev.ite_neg (by simp) ?_
  have e1 : arrange_Inverse.f o = some (inv o, 0, 0) := by rw [inverse_eq, if_neg (by omega), if_pos ho]
  have e2 : arrange_Inverse.f (inv o) = some (o, 0, 0) := by rw [inverse_eq, if_neg (by rw [inv_length]; omega), if_pos (inv_isOrder ho), inv_inv ho]
  rw [e1]
  refine Ev.bind (Ev.now _) ?_
  show Ev (fun n => (arrange_Inverse.f (inv o)).bind _) true
  rw [e2]
  refine Ev.bind (Ev.now _) ?_
  refine Ev.ite_pos rfl ?_
  refine Ev.ite_pos rfl ?_
  refine Ev.ite_pos (by omega) ?_
  have hp := permutes_ev o (by omega)
  rw [ho] at hp
  refine Ev.bind hp ?_
  refine Ev.ite_pos rfl ?_
  exact Ev.bind (ints_same _ (by show o.length < _; omega)) (Ev.now true)
theorem ArrangeInvertsTwice : law_ArrangeInvertsTwice.Pure := by
  intro l0 l1 b0 _ h0 b1 _ h1
  refine Ev.rounds ?_
  have hb := byNames_eq l0 l1 h0 h1
  by_cases c1 : l0.length > 200
  · rw [if_pos c1] at hb; exact twice_err (by decide) hb
  · rw [if_neg c1] at hb
    cases n0 : l0.all nameB with
    | false => rw [n0, if_pos rfl] at hb; exact twice_err (by decide) hb
    | true =>
      rw [n0, if_neg (by simp)] at hb
      by_cases c2 : l1.length > 40
      · rw [if_pos c2] at hb; exact twice_err (by decide) hb
      · rw [if_neg c2] at hb
        cases n1 : l1.all nameB with
        | false => rw [n1, if_pos rfl] at hb; exact twice_err (by decide) hb
        | true => rw [n1, if_neg (by simp)] at hb; exact twice_ok (by omega) hb
end Go.Proofs.Ytoegghjhepkfkaa.Pure
