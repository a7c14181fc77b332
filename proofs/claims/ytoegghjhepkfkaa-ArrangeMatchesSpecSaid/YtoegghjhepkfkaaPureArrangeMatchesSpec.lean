/- The law ArrangeMatchesSpec in plain Lean: orders by names, with all errors, are as specified. No condition. -/
import Derived.Test.YtoegghjhepkfkaaPureArrC
namespace Go.Proofs.Ytoegghjhepkfkaa.Pure
open Go.RowKit Go.Proofs.YtoegghjhepkfkaaW.PrintWords Go.Proofs.YtoegghjhepkfkaaW.PrintLast Go.Proofs.YtoegghjhepkfkaaW.PrintMore Go.Proofs.Ytoegghjhepkfkaa.PArr
set_option linter.unusedVariables false

theorem match_err {l0 l1 : List ByteArray} {c i : Int} (hc : c ≠ 0) (h : arrange_ByNames.f l0 l1 = some ([], c, i)) : Ev (fun k => law_ArrangeMatchesSpec.j0 k l0 l1 c i) true := by
  refine Ev.step (fun k => by simp only [law_ArrangeMatchesSpec.j0]; rfl) ?_
  rw [h]
  refine Ev.bind (Ev.now _) ?_
  refine Ev.bind orders_ev ?_
  refine Ev.ite_pos rfl ?_
  refine Ev.ite_pos (by simp) ?_
  refine Ev.ite_neg hc ?_
  exact Ev.ite_pos (by simp) (Ev.now true)
theorem match_ok {l0 l1 : List ByteArray} (hl0 : l0.length < 1000000) (hl1 : l1.length < 1000000) (h : arrange_ByNames.f l0 l1 = some (wantedOrder l0 l1, 0, 0)) : Ev (fun k => law_ArrangeMatchesSpec.j0 k l0 l1 0 0) true := by
  refine Ev.step (fun k => by simp only [law_ArrangeMatchesSpec.j0]; rfl) ?_
  rw [h]
  refine Ev.bind (Ev.now _) ?_
  refine Ev.bind orders_ev ?_
  refine Ev.ite_pos rfl ?_
  refine Ev.ite_pos (by simp) ?_
  refine Ev.ite_pos (by trivial) ?_
  refine Ev.bind (orderOf_ev l0 l1 hl0 hl1) ?_
  exact Ev.bind (ints_same _ (by rw [wanted_length]; omega)) (Ev.now true)
theorem ArrangeMatchesSpec : law_ArrangeMatchesSpec.Pure := by
  intro l0 l1 b0 _ h0 b1 _ h1
  refine Ev.rounds ?_
  have hb := byNames_eq l0 l1 h0 h1
  unfold law_ArrangeMatchesSpec.f
  simp only [ref_At.f, Option.bind_some]
  by_cases c1 : l0.length > 200
  · rw [if_pos c1] at hb
    exact Ev.ite_pos (by omega) (match_err (by decide) hb)
  · rw [if_neg c1] at hb
    refine Ev.ite_neg (by omega) ?_
    refine Ev.bind (refNames_ev l0 (by omega) h0) ?_
    cases n0 : l0.all nameB with
    | false =>
      rw [n0, if_pos rfl] at hb
      exact Ev.ite_neg (by simp) (match_err (by decide) hb)
    | true =>
      rw [n0, if_neg (by simp)] at hb
      refine Ev.ite_pos rfl ?_
      by_cases c2 : l1.length > 40
      · rw [if_pos c2] at hb
        exact Ev.ite_pos (by omega) (match_err (by decide) hb)
      · rw [if_neg c2] at hb
        refine Ev.ite_neg (by omega) ?_
        refine Ev.bind (refNames_ev l1 (by omega) h1) ?_
        cases n1 : l1.all nameB with
        | false =>
          rw [n1, if_pos rfl] at hb
          exact Ev.ite_neg (by simp) (match_err (by decide) hb)
        | true =>
          rw [n1, if_neg (by simp)] at hb
          exact Ev.ite_pos rfl (match_ok (by omega) (by omega) hb)
end Go.Proofs.Ytoegghjhepkfkaa.Pure
