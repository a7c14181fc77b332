/- Written by a program of this session, for the law(s) Arr: contracts of the Go functions that the law reaches, each against a plain Lean function. No condition. -/
import Derived.Test.YtoegghjhepkfkaaPArrx0
import Derived.Test.YtoegghjhepkfkaaPArrx1
import Derived.Test.YtoegghjhepkfkaaPArrx2
import Derived.Test.YtoegghjhepkfkaaPArrx7
import Derived.Test.YtoegghjhepkfkaaPArrx8
import Derived.Test.YtoegghjhepkfkaaPArrx10
import Derived.Test.YtoegghjhepkfkaaPArrx11
import Derived.Test.YtoegghjhepkfkaaPArrx12
namespace Go.Proofs.Ytoegghjhepkfkaa.PArr
open Go.RowKit Go.Proofs.YtoegghjhepkfkaaW.PrintWords Go.Proofs.YtoegghjhepkfkaaW.PrintLast Go.Proofs.YtoegghjhepkfkaaW.PrintMore
attribute [local go_sem] max2_int min2_int max_two min_two max_three min_three max_four min_four   -- for this text's walks alone
set_option linter.unusedVariables false
set_option linter.unusedSimpArgs false

attribute [local go_sem high] eqA24
/-! ### law_ArrangeNumbersMatchSpec: function 4 -/
mutual
def law_ArrangeNumbersMatchSpec.j0 : Nat → List Int → Int → Int → Option (Bool)
 | 0, _, _, _ => none
 | k + 1, x0, x220000, x220001 => law_ArrangeNumbersMatchSpec.l0 k x0 0 x220000 x220001 x220000 x220001
def law_ArrangeNumbersMatchSpec.l0 : Nat → List Int → Int → Int → Int → Int → Int → Option (Bool)
 | 0, _, _, _, _, _, _ => none
 | k + 1, x0, x5, x220000, x220001, x223000, x223001 => if x5 < (x0.length : Int) then (law_ArrangeNumbersMatchSpec.j2 k x0 x5 (x223000 == 0) x220000 x220001 x223000 x223001) else (law_ArrangeNumbersMatchSpec.j2 k x0 x5 false x220000 x220001 x223000 x223001)
def law_ArrangeNumbersMatchSpec.j2 : Nat → List Int → Int → Bool → Int → Int → Int → Int → Option (Bool)
 | 0, _, _, _, _, _, _, _ => none
 | k + 1, x0, x5, x25, x220000, x220001, x223000, x223001 => if x25 = true then (if 0 ≤ x5 then (if x5 < (x0.length : Int) then ((ref_In.f (rd x0 x5) 0 1000000).bind fun t224 => (if t224 = true then (law_ArrangeNumbersMatchSpec.l0 k x0 (wrap64 (x5 + 1)) x220000 x220001 x223000 x223001) else ((ref_At.f 3 x5).bind fun bt225 => (law_ArrangeNumbersMatchSpec.l0 k x0 (wrap64 (x5 + 1)) x220000 x220001 bt225.1 bt225.2)))) else (none)) else (none)) else (if x220000 = 0 then ((ref_Permutes.f k x0).bind fun t227 => (law_ArrangeNumbersMatchSpec.j3 k x0 (!t227) x220000 x220001 x223000 x223001)) else (law_ArrangeNumbersMatchSpec.j3 k x0 false x220000 x220001 x223000 x223001))
def law_ArrangeNumbersMatchSpec.j3 : Nat → List Int → Bool → Int → Int → Int → Int → Option (Bool)
 | 0, _, _, _, _, _, _ => none
 | k + 1, x0, x43, x220000, x220001, x223000, x223001 => if x43 = true then ((ref_At.f 5 (-2)).bind fun bt228 => (law_ArrangeNumbersMatchSpec.j4 k x0 bt228.1 bt228.2 x223000 x223001)) else (law_ArrangeNumbersMatchSpec.j4 k x0 x220000 x220001 x223000 x223001)
def law_ArrangeNumbersMatchSpec.j4 : Nat → List Int → Int → Int → Int → Int → Option (Bool)
 | 0, _, _, _, _, _ => none
 | k + 1, x0, x220000, x220001, x223000, x223001 => (arrange_ByWeights.f x0).bind fun bt230 => ((arrange_Inverse.f x0).bind fun bt236 => ((law_orders.f k).bind fun t242 => (if t242 = true then (if (!(bt230.2.1 == x223000) || (!(bt230.2.2 == x223001))) = true then (law_ArrangeNumbersMatchSpec.j5 k x0 bt236.1 true x220000 x220001) else (if (!(bt236.2.1 == x220000) || (!(bt236.2.2 == x220001))) = true then (law_ArrangeNumbersMatchSpec.j5 k x0 bt236.1 true x220000 x220001) else (if x223000 = 0 then ((ref_HeavyOf.f k x0).bind fun t243 => ((law_ints.f k bt230.1 t243).bind fun t246 => (law_ArrangeNumbersMatchSpec.j5 k x0 bt236.1 (!t246) x220000 x220001))) else (if (bt230.1.length : Int) > 0 then (law_ArrangeNumbersMatchSpec.j5 k x0 bt236.1 true x220000 x220001) else (law_ArrangeNumbersMatchSpec.j5 k x0 bt236.1 false x220000 x220001))))) else (law_ArrangeNumbersMatchSpec.j5 k x0 bt236.1 true x220000 x220001))))
def law_ArrangeNumbersMatchSpec.j5 : Nat → List Int → List Int → Bool → Int → Int → Option (Bool)
 | 0, _, _, _, _, _ => none
 | k + 1, x0, x8, x88, x220000, x220001 => if x88 = true then (none) else (if x220000 = 0 then (law_ArrangeNumbersMatchSpec.l1 k x0 x8 0) else (some ((x8.length : Int) == 0)))
def law_ArrangeNumbersMatchSpec.l1 : Nat → List Int → List Int → Int → Option (Bool)
 | 0, _, _, _ => none
 | k + 1, x0, x8, x10 => if x10 < (x0.length : Int) then (if (x8.length : Int) = (x0.length : Int) then (if 0 ≤ x10 then (if 0 ≤ (rd x0 x10) then (if (rd x0 x10) < (x8.length : Int) then (if (rd x8 (rd x0 x10)) = x10 then (law_ArrangeNumbersMatchSpec.l1 k x0 x8 (wrap64 (x10 + 1))) else (none)) else (none)) else (none)) else (none)) else (none)) else (some true)
end
def law_ArrangeNumbersMatchSpec.f (k : Nat) (l0 : List Int) : Option (Bool) := if (l0.length : Int) > 200 then ((ref_At.f 2 (-1)).bind fun bt220 => (law_ArrangeNumbersMatchSpec.j0 k l0 bt220.1 bt220.2)) else (law_ArrangeNumbersMatchSpec.j0 k l0 0 0)
theorem law_ArrangeNumbersMatchSpec.mono_l : ∀ k, (∀ y0 y1 y2, LeO (law_ArrangeNumbersMatchSpec.j0 k y0 y1 y2) (law_ArrangeNumbersMatchSpec.j0 (k + 1) y0 y1 y2)) ∧ (∀ y0 y1 y2 y3 y4 y5, LeO (law_ArrangeNumbersMatchSpec.l0 k y0 y1 y2 y3 y4 y5) (law_ArrangeNumbersMatchSpec.l0 (k + 1) y0 y1 y2 y3 y4 y5)) ∧ (∀ y0 y1 y2 y3 y4 y5 y6, LeO (law_ArrangeNumbersMatchSpec.j2 k y0 y1 y2 y3 y4 y5 y6) (law_ArrangeNumbersMatchSpec.j2 (k + 1) y0 y1 y2 y3 y4 y5 y6)) ∧ (∀ y0 y1 y2 y3 y4 y5, LeO (law_ArrangeNumbersMatchSpec.j3 k y0 y1 y2 y3 y4 y5) (law_ArrangeNumbersMatchSpec.j3 (k + 1) y0 y1 y2 y3 y4 y5)) ∧ (∀ y0 y1 y2 y3 y4, LeO (law_ArrangeNumbersMatchSpec.j4 k y0 y1 y2 y3 y4) (law_ArrangeNumbersMatchSpec.j4 (k + 1) y0 y1 y2 y3 y4)) ∧ (∀ y0 y1 y2 y3 y4, LeO (law_ArrangeNumbersMatchSpec.j5 k y0 y1 y2 y3 y4) (law_ArrangeNumbersMatchSpec.j5 (k + 1) y0 y1 y2 y3 y4)) ∧ (∀ y0 y1 y2, LeO (law_ArrangeNumbersMatchSpec.l1 k y0 y1 y2) (law_ArrangeNumbersMatchSpec.l1 (k + 1) y0 y1 y2))
 | 0 => ⟨fun _ _ _ r h => by simp [law_ArrangeNumbersMatchSpec.j0] at h, fun _ _ _ _ _ _ r h => by simp [law_ArrangeNumbersMatchSpec.l0] at h, fun _ _ _ _ _ _ _ r h => by simp [law_ArrangeNumbersMatchSpec.j2] at h, fun _ _ _ _ _ _ r h => by simp [law_ArrangeNumbersMatchSpec.j3] at h, fun _ _ _ _ _ r h => by simp [law_ArrangeNumbersMatchSpec.j4] at h, fun _ _ _ _ _ r h => by simp [law_ArrangeNumbersMatchSpec.j5] at h, fun _ _ _ r h => by simp [law_ArrangeNumbersMatchSpec.l1] at h⟩
 | k + 1 => by
  obtain ⟨ih0, ih1, ih2, ih3, ih4, ih5, ih6⟩ := law_ArrangeNumbersMatchSpec.mono_l k
  refine ⟨?_, ?_, ?_, ?_, ?_, ?_, ?_⟩
  ·intro y0 y1 y2
   unfold law_ArrangeNumbersMatchSpec.j0
   repeat' first
   | (with_reducible exact ih0 _ _ _)
   | (with_reducible exact ih1 _ _ _ _ _ _)
   | (with_reducible exact ih2 _ _ _ _ _ _ _)
   | (with_reducible exact ih3 _ _ _ _ _ _)
   | (with_reducible exact ih4 _ _ _ _ _)
   | (with_reducible exact ih5 _ _ _ _ _)
   | (with_reducible exact ih6 _ _ _)
   | (with_reducible exact law_ints.mono _ _ _)
   | (with_reducible exact law_orders.mono _)
   | (with_reducible exact ref_HeavyOf.mono _ _)
   | (with_reducible exact ref_Permutes.mono _ _)
   | (with_reducible exact LeO.refl _)
   | (with_reducible exact LeO.none _)
   | (with_reducible refine LeO.ite ?_ ?_)
   | (with_reducible refine LeO.bind ?_ (fun _ => ?_))
   | exact ih0 _ _ _
   | exact ih1 _ _ _ _ _ _
   | exact ih2 _ _ _ _ _ _ _
   | exact ih3 _ _ _ _ _ _
   | exact ih4 _ _ _ _ _
   | exact ih5 _ _ _ _ _
   | exact ih6 _ _ _
   | exact law_ints.mono _ _ _
   | exact law_orders.mono _
   | exact ref_HeavyOf.mono _ _
   | exact ref_Permutes.mono _ _
   | exact LeO.none _
   | refine LeO.ite ?_ ?_
   | refine LeO.bind ?_ (fun _ => ?_)
  ·intro y0 y1 y2 y3 y4 y5
   unfold law_ArrangeNumbersMatchSpec.l0
   repeat' first
   | (with_reducible exact ih0 _ _ _)
   | (with_reducible exact ih1 _ _ _ _ _ _)
   | (with_reducible exact ih2 _ _ _ _ _ _ _)
   | (with_reducible exact ih3 _ _ _ _ _ _)
   | (with_reducible exact ih4 _ _ _ _ _)
   | (with_reducible exact ih5 _ _ _ _ _)
   | (with_reducible exact ih6 _ _ _)
   | (with_reducible exact law_ints.mono _ _ _)
   | (with_reducible exact law_orders.mono _)
   | (with_reducible exact ref_HeavyOf.mono _ _)
   | (with_reducible exact ref_Permutes.mono _ _)
   | (with_reducible exact LeO.refl _)
   | (with_reducible exact LeO.none _)
   | (with_reducible refine LeO.ite ?_ ?_)
   | (with_reducible refine LeO.bind ?_ (fun _ => ?_))
   | exact ih0 _ _ _
   | exact ih1 _ _ _ _ _ _
   | exact ih2 _ _ _ _ _ _ _
   | exact ih3 _ _ _ _ _ _
   | exact ih4 _ _ _ _ _
   | exact ih5 _ _ _ _ _
   | exact ih6 _ _ _
   | exact law_ints.mono _ _ _
   | exact law_orders.mono _
   | exact ref_HeavyOf.mono _ _
   | exact ref_Permutes.mono _ _
   | exact LeO.none _
   | refine LeO.ite ?_ ?_
   | refine LeO.bind ?_ (fun _ => ?_)
  ·intro y0 y1 y2 y3 y4 y5 y6
   unfold law_ArrangeNumbersMatchSpec.j2
   repeat' first
   | (with_reducible exact ih0 _ _ _)
   | (with_reducible exact ih1 _ _ _ _ _ _)
   | (with_reducible exact ih2 _ _ _ _ _ _ _)
   | (with_reducible exact ih3 _ _ _ _ _ _)
   | (with_reducible exact ih4 _ _ _ _ _)
   | (with_reducible exact ih5 _ _ _ _ _)
   | (with_reducible exact ih6 _ _ _)
   | (with_reducible exact law_ints.mono _ _ _)
   | (with_reducible exact law_orders.mono _)
   | (with_reducible exact ref_HeavyOf.mono _ _)
   | (with_reducible exact ref_Permutes.mono _ _)
   | (with_reducible exact LeO.refl _)
   | (with_reducible exact LeO.none _)
   | (with_reducible refine LeO.ite ?_ ?_)
   | (with_reducible refine LeO.bind ?_ (fun _ => ?_))
   | exact ih0 _ _ _
   | exact ih1 _ _ _ _ _ _
   | exact ih2 _ _ _ _ _ _ _
   | exact ih3 _ _ _ _ _ _
   | exact ih4 _ _ _ _ _
   | exact ih5 _ _ _ _ _
   | exact ih6 _ _ _
   | exact law_ints.mono _ _ _
   | exact law_orders.mono _
   | exact ref_HeavyOf.mono _ _
   | exact ref_Permutes.mono _ _
   | exact LeO.none _
   | refine LeO.ite ?_ ?_
   | refine LeO.bind ?_ (fun _ => ?_)
  ·intro y0 y1 y2 y3 y4 y5
   unfold law_ArrangeNumbersMatchSpec.j3
   repeat' first
   | (with_reducible exact ih0 _ _ _)
   | (with_reducible exact ih1 _ _ _ _ _ _)
   | (with_reducible exact ih2 _ _ _ _ _ _ _)
   | (with_reducible exact ih3 _ _ _ _ _ _)
   | (with_reducible exact ih4 _ _ _ _ _)
   | (with_reducible exact ih5 _ _ _ _ _)
   | (with_reducible exact ih6 _ _ _)
   | (with_reducible exact law_ints.mono _ _ _)
   | (with_reducible exact law_orders.mono _)
   | (with_reducible exact ref_HeavyOf.mono _ _)
   | (with_reducible exact ref_Permutes.mono _ _)
   | (with_reducible exact LeO.refl _)
   | (with_reducible exact LeO.none _)
   | (with_reducible refine LeO.ite ?_ ?_)
   | (with_reducible refine LeO.bind ?_ (fun _ => ?_))
   | exact ih0 _ _ _
   | exact ih1 _ _ _ _ _ _
   | exact ih2 _ _ _ _ _ _ _
   | exact ih3 _ _ _ _ _ _
   | exact ih4 _ _ _ _ _
   | exact ih5 _ _ _ _ _
   | exact ih6 _ _ _
   | exact law_ints.mono _ _ _
   | exact law_orders.mono _
   | exact ref_HeavyOf.mono _ _
   | exact ref_Permutes.mono _ _
   | exact LeO.none _
   | refine LeO.ite ?_ ?_
   | refine LeO.bind ?_ (fun _ => ?_)
  ·intro y0 y1 y2 y3 y4
   unfold law_ArrangeNumbersMatchSpec.j4
   repeat' first
   | (with_reducible exact ih0 _ _ _)
   | (with_reducible exact ih1 _ _ _ _ _ _)
   | (with_reducible exact ih2 _ _ _ _ _ _ _)
   | (with_reducible exact ih3 _ _ _ _ _ _)
   | (with_reducible exact ih4 _ _ _ _ _)
   | (with_reducible exact ih5 _ _ _ _ _)
   | (with_reducible exact ih6 _ _ _)
   | (with_reducible exact law_ints.mono _ _ _)
   | (with_reducible exact law_orders.mono _)
   | (with_reducible exact ref_HeavyOf.mono _ _)
   | (with_reducible exact ref_Permutes.mono _ _)
   | (with_reducible exact LeO.refl _)
   | (with_reducible exact LeO.none _)
   | (with_reducible refine LeO.ite ?_ ?_)
   | (with_reducible refine LeO.bind ?_ (fun _ => ?_))
   | exact ih0 _ _ _
   | exact ih1 _ _ _ _ _ _
   | exact ih2 _ _ _ _ _ _ _
   | exact ih3 _ _ _ _ _ _
   | exact ih4 _ _ _ _ _
   | exact ih5 _ _ _ _ _
   | exact ih6 _ _ _
   | exact law_ints.mono _ _ _
   | exact law_orders.mono _
   | exact ref_HeavyOf.mono _ _
   | exact ref_Permutes.mono _ _
   | exact LeO.none _
   | refine LeO.ite ?_ ?_
   | refine LeO.bind ?_ (fun _ => ?_)
  ·intro y0 y1 y2 y3 y4
   unfold law_ArrangeNumbersMatchSpec.j5
   repeat' first
   | (with_reducible exact ih0 _ _ _)
   | (with_reducible exact ih1 _ _ _ _ _ _)
   | (with_reducible exact ih2 _ _ _ _ _ _ _)
   | (with_reducible exact ih3 _ _ _ _ _ _)
   | (with_reducible exact ih4 _ _ _ _ _)
   | (with_reducible exact ih5 _ _ _ _ _)
   | (with_reducible exact ih6 _ _ _)
   | (with_reducible exact law_ints.mono _ _ _)
   | (with_reducible exact law_orders.mono _)
   | (with_reducible exact ref_HeavyOf.mono _ _)
   | (with_reducible exact ref_Permutes.mono _ _)
   | (with_reducible exact LeO.refl _)
   | (with_reducible exact LeO.none _)
   | (with_reducible refine LeO.ite ?_ ?_)
   | (with_reducible refine LeO.bind ?_ (fun _ => ?_))
   | exact ih0 _ _ _
   | exact ih1 _ _ _ _ _ _
   | exact ih2 _ _ _ _ _ _ _
   | exact ih3 _ _ _ _ _ _
   | exact ih4 _ _ _ _ _
   | exact ih5 _ _ _ _ _
   | exact ih6 _ _ _
   | exact law_ints.mono _ _ _
   | exact law_orders.mono _
   | exact ref_HeavyOf.mono _ _
   | exact ref_Permutes.mono _ _
   | exact LeO.none _
   | refine LeO.ite ?_ ?_
   | refine LeO.bind ?_ (fun _ => ?_)
  ·intro y0 y1 y2
   unfold law_ArrangeNumbersMatchSpec.l1
   repeat' first
   | (with_reducible exact ih0 _ _ _)
   | (with_reducible exact ih1 _ _ _ _ _ _)
   | (with_reducible exact ih2 _ _ _ _ _ _ _)
   | (with_reducible exact ih3 _ _ _ _ _ _)
   | (with_reducible exact ih4 _ _ _ _ _)
   | (with_reducible exact ih5 _ _ _ _ _)
   | (with_reducible exact ih6 _ _ _)
   | (with_reducible exact law_ints.mono _ _ _)
   | (with_reducible exact law_orders.mono _)
   | (with_reducible exact ref_HeavyOf.mono _ _)
   | (with_reducible exact ref_Permutes.mono _ _)
   | (with_reducible exact LeO.refl _)
   | (with_reducible exact LeO.none _)
   | (with_reducible refine LeO.ite ?_ ?_)
   | (with_reducible refine LeO.bind ?_ (fun _ => ?_))
   | exact ih0 _ _ _
   | exact ih1 _ _ _ _ _ _
   | exact ih2 _ _ _ _ _ _ _
   | exact ih3 _ _ _ _ _ _
   | exact ih4 _ _ _ _ _
   | exact ih5 _ _ _ _ _
   | exact ih6 _ _ _
   | exact law_ints.mono _ _ _
   | exact law_orders.mono _
   | exact ref_HeavyOf.mono _ _
   | exact ref_Permutes.mono _ _
   | exact LeO.none _
   | refine LeO.ite ?_ ?_
   | refine LeO.bind ?_ (fun _ => ?_)
theorem law_ArrangeNumbersMatchSpec.mono : ∀ a0 k, LeO (law_ArrangeNumbersMatchSpec.f k a0) (law_ArrangeNumbersMatchSpec.f (k + 1) a0) := by
 intro a0 k
 obtain ⟨ih0, ih1, ih2, ih3, ih4, ih5, ih6⟩ := law_ArrangeNumbersMatchSpec.mono_l k
 unfold law_ArrangeNumbersMatchSpec.f
 repeat' first
   | (with_reducible exact ih0 _ _ _)
   | (with_reducible exact ih1 _ _ _ _ _ _)
   | (with_reducible exact ih2 _ _ _ _ _ _ _)
   | (with_reducible exact ih3 _ _ _ _ _ _)
   | (with_reducible exact ih4 _ _ _ _ _)
   | (with_reducible exact ih5 _ _ _ _ _)
   | (with_reducible exact ih6 _ _ _)
   | (with_reducible exact law_ints.mono _ _ _)
   | (with_reducible exact law_orders.mono _)
   | (with_reducible exact ref_HeavyOf.mono _ _)
   | (with_reducible exact ref_Permutes.mono _ _)
   | (with_reducible exact LeO.refl _)
   | (with_reducible exact LeO.none _)
   | (with_reducible refine LeO.ite ?_ ?_)
   | (with_reducible refine LeO.bind ?_ (fun _ => ?_))
   | exact ih0 _ _ _
   | exact ih1 _ _ _ _ _ _
   | exact ih2 _ _ _ _ _ _ _
   | exact ih3 _ _ _ _ _ _
   | exact ih4 _ _ _ _ _
   | exact ih5 _ _ _ _ _
   | exact ih6 _ _ _
   | exact law_ints.mono _ _ _
   | exact law_orders.mono _
   | exact ref_HeavyOf.mono _ _
   | exact ref_Permutes.mono _ _
   | exact LeO.none _
   | refine LeO.ite ?_ ?_
   | refine LeO.bind ?_ (fun _ => ?_)
set_option maxHeartbeats 8000000 in
set_option maxRecDepth 100000 in
theorem law_ArrangeNumbersMatchSpec.calls (k : Nat) (A0 : Option Addr) (c0 : Nat) (l0 : List Int) (r : Bool) (w : World) (hr0 : Kd.C (Kd.int .i64) w A0 l0.length l0) (hc0 : l0.length ≤ c0) (h : law_ArrangeNumbersMatchSpec.f k l0 = some r) :
  Calls Try.prog 4 #[.slice A0 l0.length c0] w fun e w' => e = .returned (.bool r) ∧ Below w.heap.size w w' := by
 have hu24 := Try.underlying24
 have HR0 := Aside0.mk hr0
 have HC0 := Aside0.mk hc0
 clear hr0 hc0
 have HB := Aside0.mk (Below.refl w.heap.size w)
 have H : (if (l0.length : Int) > 200 then ((ref_At.f 2 (-1)).bind fun bt220 => (law_ArrangeNumbersMatchSpec.j0 k l0 bt220.1 bt220.2)) else (law_ArrangeNumbersMatchSpec.j0 k l0 0 0)) = some r := h
 clear h
 have HC2 := Aside0.mk H
 clear H
 go_enter Try.func4, Try.ntmps4
 go_upto_if 14 with (first | ((with_reducible refine gate_dst (N := 3) rfl ?_); (try (refine gate_guard (by rfl) ?_; dsimp only)); refine qX (N := 3) (cs := #[.int .i64 0, .int .i64 0]) (t := 24) ?_; intro gb219 hg w3 hbox hb; refine up4 (bH hb) (am hbox) (bW hg) (bW hg) ?_; clear HB hb hbox hg; intro HB BK219 GW219 GE219; have hcz4 := blkC2 BK219.out))
 (try simp only [Act.put, List.setIfInBounds_toArray, List.set_cons_zero, List.set_cons_succ])
 go_cut [] (fun wc => ∃ (kq : Nat) (x220000_1 : Int) (x220001_1 : Int), Aside0 (law_ArrangeNumbersMatchSpec.j0 kq l0 x220000_1 x220001_1 = some r) ∧ Aside0 (kq ≤ k) ∧ Aside0 (wc.heap[gb219]? = some (.cells #[.int .i64 x220000_1, .int .i64 x220001_1] 24 (0, 0))) ∧ Aside0 (Below w.heap.size w wc))
 case first =>
  have H := HC2.out
  clear HC2
  by_cases c5 : (l0.length : Int) > 200
  ·rw [if_pos c5] at H
   have c5b0 : decide (200 < (l0.length : Int)) = true := decide_eq_true c5
   have c5b1 : decide (200 < l0.length) = true := decide_eq_true (by omega)
   clear c5
   (first | rw [c5b0] | (simp only [i64_w, i32_w]; rw [c5b0]) | skip)
   replace H := Option.bind_eq_some_iff.mp H
   obtain ⟨⟨t220, t221⟩, A60, H⟩ := H
   replace H : (law_ArrangeNumbersMatchSpec.j0 k l0 t220 t221) = some r := H
   have A6 := Aside0.mk A60
   clear A60
   have H' := Aside0.mk H
   clear H
   go_wp2_with (first | ((with_reducible refine gate_callee (f := 7) rfl ?_); refine goesL_ (some 15) rfl rfl Try.func7 (by kernel_rfl) rfl #[.int .i64 2, .int .i64 (-1)] rfl qA ?_; (with_reducible refine (ref_At.calls 2 (-1) t220 t221 _ A6.out).mono ?_); rintro e w7 ⟨rfl, hb⟩; refine ⟨_, rfl, ?_⟩; refine up2 (bP (o := .cells #[.int .i64 0, .int .i64 0] 24 (0, 0)) BK219 hb) (bH hb) ?_; clear BK219 HB; intro BK219 HB; (try clear hb); (try clear hb2); (try clear hk); (try clear hi); have hcz8 := blkC2 BK219.out))
   go_meet
   case rel => exact ⟨_, (t220), (t221), H', ⟨by first | omega | exact Nat.le_refl _⟩, ⟨qP BK219⟩, ⟨qB⟩⟩
  ·rw [if_neg c5] at H
   have c5b0 : decide (200 < (l0.length : Int)) = false := decide_eq_false c5
   have c5b1 : decide (200 < l0.length) = false := decide_eq_false (by omega)
   clear c5
   (first | rw [c5b0] | (simp only [i64_w, i32_w]; rw [c5b0]) | skip)
   have H' := Aside0.mk H
   clear H
   go_wp2
   go_meet
   case rel => exact ⟨_, (0), (0), H', ⟨by first | omega | exact Nat.le_refl _⟩, ⟨qP BK219⟩, ⟨qB⟩⟩
 case rest =>
  clear HC2
  try clear p2
  try clear c4
  try clear c5
  try clear c5b0
  try clear c5b1
  try clear c7
  try clear hcz4
  try clear hcz8
  obtain ⟨kq, x220000_1, x220001_1, HA, HJ1, BK219, HB⟩ := hcut
  cases kq with
  | zero => exact absurd HA.out (by simp [law_ArrangeNumbersMatchSpec.j0])
  | succ kj1 =>
   have H := HA.out
   clear HA
   simp only [law_ArrangeNumbersMatchSpec.j0] at H
   have H' := Aside0.mk H
   clear H
   have hcz9 := blkC2 BK219.out
   go_wp2_with (first | ((with_reducible refine gate_dst (N := 4) rfl ?_); (try (refine gate_guard (by rfl) ?_; dsimp only)); refine qX (N := 4) (cs := #[.int .i64 0, .int .i64 0]) (t := 24) ?_; intro gb222 hg w10 hbox hb; refine up7 (bB BK219 hb) (bH hb) (am hbox) (bW hg) (bW hg) (bL BK219 hg) (bG BK219 hg) ?_; clear BK219 HB hb hbox hg; intro BK219 HB BK222 GW222 GE222 NB219_222 NB222_219; have hnb11 := NB222_219.out; have hnc11 := NB219_222.out; have hcz12 := blkC2 BK222.out))
   go_loopg [5] kj1 (fun kq v5 w' => ∃ (x5_2 : Int) (x223000_2 : Int) (x223001_2 : Int), v5 = .int .i64 x5_2 ∧ Aside0 (law_ArrangeNumbersMatchSpec.l0 kq l0 x5_2 x220000_1 x220001_1 x223000_2 x223001_2 = some r) ∧ Aside0 (kq ≤ kj1) ∧ Aside0 (w'.heap[gb219]? = some (.cells #[.int .i64 x220000_1, .int .i64 x220001_1] 24 (0, 0))) ∧ Aside0 (w'.heap[gb222]? = some (.cells #[.int .i64 x223000_2, .int .i64 x223001_2] 24 (0, 0))) ∧ Aside0 (Below w.heap.size w w'))
   case atStart => exact ⟨(0), (x220000_1), (x220001_1), qF, H', ⟨Nat.le_refl _⟩, ⟨qP BK219⟩, ⟨qP BK222⟩, ⟨qB⟩⟩
   case round =>
    clear H'
    try clear c1
    try clear p2
    try clear c4
    try clear c5
    try clear c5b0
    try clear c5b1
    try clear c7
    try clear c11
    try clear hcz12
    try clear hcz4
    try clear hcz8
    try clear hcz9
    try clear p2
    obtain ⟨x5_2, x223000_2, x223001_2, rfl, HA, HK2, BK219, BK222, HB⟩ := hrel
    cases gk with
    | zero => exact absurd HA.out (by simp [law_ArrangeNumbersMatchSpec.l0])
    | succ k2 =>
     have H := HA.out
     clear HA
     simp only [law_ArrangeNumbersMatchSpec.l0] at H
     have HC13 := Aside0.mk H
     clear H
     go_upto_region 6 with (fail)
     go_cut [25] (fun v25 wc => ∃ (kq : Nat) (x25_12 : Bool), v25 = .bool x25_12 ∧ Aside0 (law_ArrangeNumbersMatchSpec.j2 kq l0 x5_2 x25_12 x220000_1 x220001_1 x223000_2 x223001_2 = some r) ∧ Aside0 (kq ≤ k2) ∧ Aside0 (wc.heap[gb219]? = some (.cells #[.int .i64 x220000_1, .int .i64 x220001_1] 24 (0, 0))) ∧ Aside0 (wc.heap[gb222]? = some (.cells #[.int .i64 x223000_2, .int .i64 x223001_2] 24 (0, 0))) ∧ Aside0 (Below w.heap.size w wc))
     case first =>
      have H := HC13.out
      clear HC13
      by_cases c14 : x5_2 < (l0.length : Int)
      ·rw [if_pos c14] at H
       have c14b0 : decide (x5_2 < (l0.length : Int)) = true := decide_eq_true c14
       clear c14
       (first | rw [c14b0] | (simp only [i64_w, i32_w]; rw [c14b0]) | skip)
       have H' := Aside0.mk H
       clear H
       have hnb15 := NB222_219.out
       have hnc15 := NB219_222.out
       have hcz16 := blkC2 BK222.out
       go_wp2
       go_meet
       case rel => exact ⟨_, ((x223000_2 == 0)), qF, H', ⟨by have := HJ1.out; have := HK2.out; first | omega | exact Nat.le_refl _⟩, ⟨qK BK219⟩, ⟨qK BK222⟩, ⟨qB⟩⟩
      ·rw [if_neg c14] at H
       have c14b0 : decide (x5_2 < (l0.length : Int)) = false := decide_eq_false c14
       clear c14
       (first | rw [c14b0] | (simp only [i64_w, i32_w]; rw [c14b0]) | skip)
       have H' := Aside0.mk H
       clear H
       go_wp2
       go_meet
       case rel => exact ⟨_, (false), qF, H', ⟨by have := HJ1.out; have := HK2.out; first | omega | exact Nat.le_refl _⟩, ⟨qK BK219⟩, ⟨qK BK222⟩, ⟨qB⟩⟩
     case rest =>
      clear HC13
      try clear c1
      try clear p2
      try clear c4
      try clear c5
      try clear c5b0
      try clear c5b1
      try clear c7
      try clear c11
      try clear c14
      try clear c14b0
      try clear c15
      try clear hcz12
      try clear hcz16
      try clear hcz4
      try clear hcz8
      try clear hcz9
      try clear p2
      obtain ⟨kq, x25_12, rfl, HA, HJ12, BK219, BK222, HB⟩ := hcut
      cases kq with
      | zero => exact absurd HA.out (by simp [law_ArrangeNumbersMatchSpec.j2])
      | succ kj12 =>
       have H := HA.out
       clear HA
       simp only [law_ArrangeNumbersMatchSpec.j2] at H
       by_cases c17 : x25_12 = true
       ·subst c17
        have H1 : (if 0 ≤ x5_2 then (if x5_2 < (l0.length : Int) then ((ref_In.f (rd l0 x5_2) 0 1000000).bind fun t224 => (if t224 = true then (law_ArrangeNumbersMatchSpec.l0 kj12 l0 (wrap64 (x5_2 + 1)) x220000_1 x220001_1 x223000_2 x223001_2) else ((ref_At.f 3 x5_2).bind fun bt225 => (law_ArrangeNumbersMatchSpec.l0 kj12 l0 (wrap64 (x5_2 + 1)) x220000_1 x220001_1 bt225.1 bt225.2)))) else (none)) else (none)) = some r := by rw [if_pos rfl] at H; exact H
        clear H
        have H := H1
        clear H1
        by_cases c18 : 0 ≤ x5_2
        ·rw [if_pos c18] at H
         have c18b0 : decide (0 ≤ x5_2) = true := decide_eq_true c18
         clear c18
         by_cases c19 : x5_2 < (l0.length : Int)
         ·rw [if_pos c19] at H
          have c19b0 : decide (x5_2 < (l0.length : Int)) = true := decide_eq_true c19
          clear c19
          replace H := Option.bind_eq_some_iff.mp H
          obtain ⟨t224, A200, H⟩ := H
          replace H : (if t224 = true then (law_ArrangeNumbersMatchSpec.l0 kj12 l0 (wrap64 (x5_2 + 1)) x220000_1 x220001_1 x223000_2 x223001_2) else ((ref_At.f 3 x5_2).bind fun bt225 => (law_ArrangeNumbersMatchSpec.l0 kj12 l0 (wrap64 (x5_2 + 1)) x220000_1 x220001_1 bt225.1 bt225.2))) = some r := H
          have A20 := Aside0.mk A200
          clear A200
          by_cases c21 : t224 = true
          ·subst c21
           have H1 : (law_ArrangeNumbersMatchSpec.l0 kj12 l0 (wrap64 (x5_2 + 1)) x220000_1 x220001_1 x223000_2 x223001_2) = some r := by rw [if_pos rfl] at H; exact H
           clear H
           have H := H1
           clear H1
           have H' := Aside0.mk H
           clear H
           have p223 : 0 ≤ (x5_2 : Int) := of_decide_eq_true qO
           have q223 : x5_2 < (l0.length : Int) := of_decide_eq_true qO
           obtain ⟨ad223, e223, hx223_0⟩ := Kd.at_int HR0.out x5_2 p223 q223
           cases e223
           replace hx223_0 := qH HB hx223_0
           replace p223 := eq_true p223
           replace q223 := eq_true q223
           go_wp2_with (first | ((with_reducible refine gate_callee (f := 13) rfl ?_); refine goesL_ (some 32) rfl rfl Try.func13 (by kernel_rfl) rfl #[.int .i64 (rd l0 x5_2), .int .i64 0, .int .i64 1000000] rfl qA ?_; (with_reducible refine (ref_In.calls (rd l0 x5_2) 0 1000000 true _ A20.out).mono ?_); rintro e w' ⟨rfl, ⟨nd, rfl⟩⟩; refine ⟨_, rfl, ?_⟩))
           go_roundg kj12
           case measure => have := HJ1.out; have := HK2.out; have := HJ12.out; omega
           case rel => exact ⟨(wrap64 (x5_2 + 1)), (x223000_2), (x223001_2), qF, H', ⟨by have := HJ1.out; have := HK2.out; have := HJ12.out; omega⟩, ⟨qK BK219⟩, ⟨qK BK222⟩, ⟨qB⟩⟩
          ·replace c21 := Bool.eq_false_iff.mpr c21
           subst c21
           have H1 : ((ref_At.f 3 x5_2).bind fun bt225 => (law_ArrangeNumbersMatchSpec.l0 kj12 l0 (wrap64 (x5_2 + 1)) x220000_1 x220001_1 bt225.1 bt225.2)) = some r := by rw [if_neg (show ¬ (false = true) by decide)] at H; exact H
           clear H
           have H := H1
           clear H1
           replace H := Option.bind_eq_some_iff.mp H
           obtain ⟨⟨t225, t226⟩, A220, H⟩ := H
           replace H : (law_ArrangeNumbersMatchSpec.l0 kj12 l0 (wrap64 (x5_2 + 1)) x220000_1 x220001_1 t225 t226) = some r := H
           have A22 := Aside0.mk A220
           clear A220
           have H' := Aside0.mk H
           clear H
           have p223 : 0 ≤ (x5_2 : Int) := of_decide_eq_true qO
           have q223 : x5_2 < (l0.length : Int) := of_decide_eq_true qO
           obtain ⟨ad223, e223, hx223_0⟩ := Kd.at_int HR0.out x5_2 p223 q223
           cases e223
           replace hx223_0 := qH HB hx223_0
           replace p223 := eq_true p223
           replace q223 := eq_true q223
           go_wp2_with (first | ((with_reducible refine gate_callee (f := 13) rfl ?_); refine goesL_ (some 32) rfl rfl Try.func13 (by kernel_rfl) rfl #[.int .i64 (rd l0 x5_2), .int .i64 0, .int .i64 1000000] rfl qA ?_; (with_reducible refine (ref_In.calls (rd l0 x5_2) 0 1000000 false _ A20.out).mono ?_); rintro e w' ⟨rfl, ⟨nd, rfl⟩⟩; refine ⟨_, rfl, ?_⟩; (try (rw [drewN_self wc]; generalize hq_ : World.drewN wc _ = wc; refine up3 (eB hq_ BK219) (eB hq_ BK222) (eH hq_) ?_; clear BK219 BK222 HB hq_; intro BK219 BK222 HB; have hu_BK219 := blkC2 BK219.out; have hu_BK222 := blkC2 BK222.out))) | ((with_reducible refine gate_callee (f := 7) rfl ?_); refine goesL_ (some 35) rfl rfl Try.func7 (by kernel_rfl) rfl #[.int .i64 3, .int .i64 x5_2] rfl qA ?_; (with_reducible refine (ref_At.calls 3 x5_2 t225 t226 _ A22.out).mono ?_); rintro e w23 ⟨rfl, hb⟩; refine ⟨_, rfl, ?_⟩; refine up3 (bB BK219 hb) (bB BK222 hb) (bH hb) ?_; clear BK219 BK222 HB; intro BK219 BK222 HB; (try clear hb); (try clear hb2); (try clear hk); (try clear hi); have hnb24 := NB222_219.out; have hnc24 := NB219_222.out; have hcz25 := blkC2 BK222.out))
           go_roundg kj12
           case measure => have := HJ1.out; have := HK2.out; have := HJ12.out; omega
           case rel => exact ⟨(wrap64 (x5_2 + 1)), (t225), (t226), qF, H', ⟨by have := HJ1.out; have := HK2.out; have := HJ12.out; omega⟩, ⟨qP BK219⟩, ⟨qP BK222⟩, ⟨qB⟩⟩
         ·rw [if_neg c19] at H
          exact absurd H (by simp)
        ·rw [if_neg c18] at H
         exact absurd H (by simp)
       ·replace c17 := Bool.eq_false_iff.mpr c17
        subst c17
        have H1 : (if x220000_1 = 0 then ((ref_Permutes.f kj12 l0).bind fun t227 => (law_ArrangeNumbersMatchSpec.j3 kj12 l0 (!t227) x220000_1 x220001_1 x223000_2 x223001_2)) else (law_ArrangeNumbersMatchSpec.j3 kj12 l0 false x220000_1 x220001_1 x223000_2 x223001_2)) = some r := by rw [if_neg (show ¬ (false = true) by decide)] at H; exact H
        clear H
        have H := H1
        clear H1
        have HC26 := Aside0.mk H
        clear H
        go_upto_region 10 with (fail)
        go_cut [43] (fun v43 wc => ∃ (kq : Nat) (x43_25 : Bool), v43 = .bool x43_25 ∧ Aside0 (law_ArrangeNumbersMatchSpec.j3 kq l0 x43_25 x220000_1 x220001_1 x223000_2 x223001_2 = some r) ∧ Aside0 (kq ≤ kj12) ∧ Aside0 (wc.heap[gb219]? = some (.cells #[.int .i64 x220000_1, .int .i64 x220001_1] 24 (0, 0))) ∧ Aside0 (wc.heap[gb222]? = some (.cells #[.int .i64 x223000_2, .int .i64 x223001_2] 24 (0, 0))) ∧ Aside0 (Below w.heap.size w wc))
        case first =>
         have H := HC26.out
         clear HC26
         by_cases c27 : x220000_1 = 0
         ·rw [if_pos c27] at H
          have c27b0 : (x220000_1 == 0) = true := beq_iff_eq.mpr c27
          have c27b1 : (x220000_1 != 0) = false := bne_eq_false_iff_eq.mpr c27
          clear c27
          (first | rw [c27b0] | (simp only [i64_w, i32_w]; rw [c27b0]) | skip)
          replace H := Option.bind_eq_some_iff.mp H
          obtain ⟨t227, A280, H⟩ := H
          replace H : (law_ArrangeNumbersMatchSpec.j3 kj12 l0 (!t227) x220000_1 x220001_1 x223000_2 x223001_2) = some r := H
          have A28 := Aside0.mk A280
          clear A280
          have H' := Aside0.mk H
          clear H
          have hnb29 := NB219_222.out
          have hnc29 := NB222_219.out
          have hcz30 := blkC2 BK219.out
          go_wp2_with (first | (go_at_call 14; (with_reducible refine (ref_Permutes.calls kj12 _ _ l0 t227 _ ?side1 ?side2 A28.out).mono ?_); (case side1 => exact qC HR0 HB); (case side2 => exact HC0.out); rintro e w' ⟨rfl, ⟨nd, rfl⟩⟩))
          go_meet
          case rel => exact ⟨_, (!t227), qF, H', ⟨by have := HJ1.out; have := HK2.out; have := HJ12.out; first | omega | exact Nat.le_refl _⟩, ⟨qK BK219⟩, ⟨qK BK222⟩, ⟨qB⟩⟩
         ·rw [if_neg c27] at H
          have c27b0 : (x220000_1 == 0) = false := beq_eq_false_iff_ne.mpr c27
          have c27b1 : (x220000_1 != 0) = true := bne_iff_ne.mpr c27
          (first | rw [c27b0] | (simp only [i64_w, i32_w]; rw [c27b0]) | skip)
          have H' := Aside0.mk H
          clear H
          have hnb31 := NB219_222.out
          have hnc31 := NB222_219.out
          have hcz32 := blkC2 BK219.out
          go_wp2
          go_meet
          case rel => exact ⟨_, (false), qF, H', ⟨by have := HJ1.out; have := HK2.out; have := HJ12.out; first | omega | exact Nat.le_refl _⟩, ⟨qK BK219⟩, ⟨qK BK222⟩, ⟨qB⟩⟩
        case rest =>
         clear HC26
         try clear c1
         try clear c2
         try clear p2
         try clear q2
         try clear hx2
         try clear c3
         try clear c4
         try clear c5
         try clear c5b0
         try clear c5b1
         try clear p6
         try clear c7
         try clear c11
         try clear c13
         try clear c14
         try clear c14b0
         try clear c15
         try clear c17
         try clear c18
         try clear c18b0
         try clear c19
         try clear c19b0
         try clear c21
         try clear p22
         try clear q22
         try clear hx22
         try clear c24
         try clear c27
         try clear c27b0
         try clear c27b1
         try clear c29
         try clear c31
         try clear hcz12
         try clear hcz16
         try clear hcz25
         try clear hcz30
         try clear hcz32
         try clear hcz4
         try clear hcz8
         try clear hcz9
         try clear hx223_0
         try clear p2
         try clear p223
         try clear q223
         obtain ⟨kq, x43_25, rfl, HA, HJ25, BK219, BK222, HB⟩ := hcut
         cases kq with
         | zero => exact absurd HA.out (by simp [law_ArrangeNumbersMatchSpec.j3])
         | succ kj25 =>
          have H := HA.out
          clear HA
          simp only [law_ArrangeNumbersMatchSpec.j3] at H
          have HC33 := Aside0.mk H
          clear H
          go_upto_if 43 with (fail)
          go_cut [] (fun wc => ∃ (kq : Nat) (x220000_32 : Int) (x220001_32 : Int), Aside0 (law_ArrangeNumbersMatchSpec.j4 kq l0 x220000_32 x220001_32 x223000_2 x223001_2 = some r) ∧ Aside0 (kq ≤ kj25) ∧ Aside0 (wc.heap[gb219]? = some (.cells #[.int .i64 x220000_32, .int .i64 x220001_32] 24 (0, 0))) ∧ Aside0 (wc.heap[gb222]? = some (.cells #[.int .i64 x223000_2, .int .i64 x223001_2] 24 (0, 0))) ∧ Aside0 (Below w.heap.size w wc))
          case first =>
           have H := HC33.out
           clear HC33
           by_cases c34 : x43_25 = true
           ·subst c34
            have H1 : ((ref_At.f 5 (-2)).bind fun bt228 => (law_ArrangeNumbersMatchSpec.j4 kj25 l0 bt228.1 bt228.2 x223000_2 x223001_2)) = some r := by rw [if_pos rfl] at H; exact H
            clear H
            have H := H1
            clear H1
            replace H := Option.bind_eq_some_iff.mp H
            obtain ⟨⟨t228, t229⟩, A350, H⟩ := H
            replace H : (law_ArrangeNumbersMatchSpec.j4 kj25 l0 t228 t229 x223000_2 x223001_2) = some r := H
            have A35 := Aside0.mk A350
            clear A350
            have H' := Aside0.mk H
            clear H
            go_wp2_with (first | ((with_reducible refine gate_callee (f := 7) rfl ?_); refine goesL_ (some 44) rfl rfl Try.func7 (by kernel_rfl) rfl #[.int .i64 5, .int .i64 (-2)] rfl qA ?_; (with_reducible refine (ref_At.calls 5 (-2) t228 t229 _ A35.out).mono ?_); rintro e w36 ⟨rfl, hb⟩; refine ⟨_, rfl, ?_⟩; refine up3 (bB BK219 hb) (bB BK222 hb) (bH hb) ?_; clear BK219 BK222 HB; intro BK219 BK222 HB; (try clear hb); (try clear hb2); (try clear hk); (try clear hi); have hnb37 := NB219_222.out; have hnc37 := NB222_219.out; have hcz38 := blkC2 BK219.out))
            go_meet
            case rel => exact ⟨_, (t228), (t229), H', ⟨by have := HJ1.out; have := HK2.out; have := HJ12.out; have := HJ25.out; first | omega | exact Nat.le_refl _⟩, ⟨qP BK219⟩, ⟨qP BK222⟩, ⟨qB⟩⟩
           ·replace c34 := Bool.eq_false_iff.mpr c34
            subst c34
            have H1 : (law_ArrangeNumbersMatchSpec.j4 kj25 l0 x220000_1 x220001_1 x223000_2 x223001_2) = some r := by rw [if_neg (show ¬ (false = true) by decide)] at H; exact H
            clear H
            have H := H1
            clear H1
            have H' := Aside0.mk H
            clear H
            go_wp2
            go_meet
            case rel => exact ⟨_, (x220000_1), (x220001_1), H', ⟨by have := HJ1.out; have := HK2.out; have := HJ12.out; have := HJ25.out; first | omega | exact Nat.le_refl _⟩, ⟨qK BK219⟩, ⟨qK BK222⟩, ⟨qB⟩⟩
          case rest =>
           clear HC33
           try clear c1
           try clear c2
           try clear p2
           try clear q2
           try clear hx2
           try clear c3
           try clear c4
           try clear c5
           try clear c5b0
           try clear c5b1
           try clear p6
           try clear c7
           try clear c11
           try clear c13
           try clear c14
           try clear c14b0
           try clear c15
           try clear c17
           try clear c18
           try clear c18b0
           try clear c19
           try clear c19b0
           try clear c21
           try clear p22
           try clear q22
           try clear hx22
           try clear c24
           try clear c27
           try clear c27b0
           try clear c27b1
           try clear c29
           try clear c31
           try clear c34
           try clear c37
           try clear hcz12
           try clear hcz16
           try clear hcz25
           try clear hcz30
           try clear hcz32
           try clear hcz38
           try clear hcz4
           try clear hcz8
           try clear hcz9
           try clear hx223_0
           try clear p2
           try clear p22
           try clear p223
           try clear p6
           try clear q2
           try clear q22
           try clear q223
           obtain ⟨kq, x220000_32, x220001_32, HA, HJ32, BK219, BK222, HB⟩ := hcut
           cases kq with
           | zero => exact absurd HA.out (by simp [law_ArrangeNumbersMatchSpec.j4])
           | succ kj32 =>
            have H := HA.out
            clear HA
            simp only [law_ArrangeNumbersMatchSpec.j4] at H
            replace H := Option.bind_eq_some_iff.mp H
            obtain ⟨⟨t230, t233, t234⟩, A390, H⟩ := H
            replace H : ((arrange_Inverse.f l0).bind fun bt236 => ((law_orders.f kj32).bind fun t242 => (if t242 = true then (if (!(t233 == x223000_2) || (!(t234 == x223001_2))) = true then (law_ArrangeNumbersMatchSpec.j5 kj32 l0 bt236.1 true x220000_32 x220001_32) else (if (!(bt236.2.1 == x220000_32) || (!(bt236.2.2 == x220001_32))) = true then (law_ArrangeNumbersMatchSpec.j5 kj32 l0 bt236.1 true x220000_32 x220001_32) else (if x223000_2 = 0 then ((ref_HeavyOf.f kj32 l0).bind fun t243 => ((law_ints.f kj32 t230 t243).bind fun t246 => (law_ArrangeNumbersMatchSpec.j5 kj32 l0 bt236.1 (!t246) x220000_32 x220001_32))) else (if (t230.length : Int) > 0 then (law_ArrangeNumbersMatchSpec.j5 kj32 l0 bt236.1 true x220000_32 x220001_32) else (law_ArrangeNumbersMatchSpec.j5 kj32 l0 bt236.1 false x220000_32 x220001_32))))) else (law_ArrangeNumbersMatchSpec.j5 kj32 l0 bt236.1 true x220000_32 x220001_32)))) = some r := H
            have A39 := Aside0.mk A390
            clear A390
            replace H := Option.bind_eq_some_iff.mp H
            obtain ⟨⟨t236, t239, t240⟩, A400, H⟩ := H
            replace H : ((law_orders.f kj32).bind fun t242 => (if t242 = true then (if (!(t233 == x223000_2) || (!(t234 == x223001_2))) = true then (law_ArrangeNumbersMatchSpec.j5 kj32 l0 t236 true x220000_32 x220001_32) else (if (!(t239 == x220000_32) || (!(t240 == x220001_32))) = true then (law_ArrangeNumbersMatchSpec.j5 kj32 l0 t236 true x220000_32 x220001_32) else (if x223000_2 = 0 then ((ref_HeavyOf.f kj32 l0).bind fun t243 => ((law_ints.f kj32 t230 t243).bind fun t246 => (law_ArrangeNumbersMatchSpec.j5 kj32 l0 t236 (!t246) x220000_32 x220001_32))) else (if (t230.length : Int) > 0 then (law_ArrangeNumbersMatchSpec.j5 kj32 l0 t236 true x220000_32 x220001_32) else (law_ArrangeNumbersMatchSpec.j5 kj32 l0 t236 false x220000_32 x220001_32))))) else (law_ArrangeNumbersMatchSpec.j5 kj32 l0 t236 true x220000_32 x220001_32))) = some r := H
            have A40 := Aside0.mk A400
            clear A400
            have HC41 := Aside0.mk H
            clear H
            go_upto_region 14 with (first | ((with_reducible refine gate_callee (f := 15) rfl ?_); refine goesL_ (some 47) rfl rfl Try.func15 (by kernel_rfl) rfl #[.slice A0 l0.length c0] rfl qA ?_; (with_reducible refine (arrange_ByWeights.calls _ _ l0 t230 t233 t234 _ ?side1 ?side2 A39.out).mono ?_); (case side1 => exact qC HR0 HB); (case side2 => exact HC0.out); rintro e w42 ⟨v231, rfl, ho0, hb⟩; refine ⟨_, rfl, ?_⟩; refine up4 (am (Kd.R_lower ho0 (below_size qB))) (bB BK219 hb) (bB BK222 hb) (bH hb) ?_; clear BK219 BK222 HB; intro HO232 BK219 BK222 HB; (try clear hb); (try clear hb2); (try clear hk); (try clear hi); (try clear ho0)) | ((with_reducible refine gate_dst (N := 7) rfl ?_); (try (refine gate_guard (by rfl) ?_; dsimp only)); refine qX (N := 7) (cs := #[.int .i64 0, .int .i64 0]) (t := 24) ?_; intro gb235 hg w43 hbox hb; refine up11 (am (Kd.R_below (qR HO232) hb)) (bB BK219 hb) (bB BK222 hb) (bH hb) (am hbox) (bW hg) (bW hg) (bL BK219 hg) (bG BK219 hg) (bL BK222 hg) (bG BK222 hg) ?_; clear HO232 BK219 BK222 HB hb hbox hg; intro HO232 BK219 BK222 HB BK235 GW235 GE235 NB219_235 NB235_219 NB222_235 NB235_222; have hnb44 := NB235_219.out; have hnc44 := NB219_235.out; have hnb45 := NB235_222.out; have hnc45 := NB222_235.out; have hcz46 := blkC2 BK235.out) | ((with_reducible refine gate_callee (f := 16) rfl ?_); refine goesL_ (some 52) rfl rfl Try.func16 (by kernel_rfl) rfl #[.slice A0 l0.length c0] rfl qA ?_; (with_reducible refine (arrange_Inverse.calls _ _ l0 t236 t239 t240 _ ?side1 ?side2 A40.out).mono ?_); (case side1 => exact Kd.C_below HR0.out qB); (case side2 => exact HC0.out); rintro e w47 ⟨v237, rfl, ho0, hb⟩; refine ⟨_, rfl, ?_⟩; refine up6 (am (Kd.R_elder' (by (with_reducible repeat (first | apply Kd.R_alloc | apply Kd.R_drewN | apply Kd.R_drew)); exact (Kd.R_mono (Kd.R_far (p := ⟨gb235, 1, none⟩) (Kd.R_far (p := ⟨gb235, 0, none⟩) (Kd.R_types HO232.out BK235.out (by decide)) (fun _ hk => hk.2) (.int .i64 t233)) (fun _ hk => hk.2) (.int .i64 t234)) (fun _ h_ => h_.1))) (Kd.R_base ho0) hb)) (am (Kd.R_lower (Kd.R_new' ho0 (Kd.R_lt (by (with_reducible repeat (first | apply Kd.R_alloc | apply Kd.R_drewN | apply Kd.R_drew)); exact (Kd.R_mono (Kd.R_far (p := ⟨gb235, 1, none⟩) (Kd.R_far (p := ⟨gb235, 0, none⟩) (Kd.R_types HO232.out BK235.out (by decide)) (fun _ hk => hk.2) (.int .i64 t233)) (fun _ hk => hk.2) (.int .i64 t234)) (fun _ h_ => h_.1))))) (below_size qB))) (bP (o := .cells #[.int .i64 x220000_32, .int .i64 x220001_32] 24 (0, 0)) BK219 hb) (bP (o := .cells #[.int .i64 x223000_2, .int .i64 x223001_2] 24 (0, 0)) BK222 hb) (bP (o := .cells #[.int .i64 t233, .int .i64 t234] 24 (0, 0)) BK235 hb) (bH hb) ?_; clear HO232 BK219 BK222 BK235 HB; intro HO232 HO238 BK219 BK222 BK235 HB; (try clear hb); (try clear hb2); (try clear hk); (try clear hi); (try clear ho0)) | ((with_reducible refine gate_dst (N := 9) rfl ?_); (try (refine gate_guard (by rfl) ?_; dsimp only)); refine qX (N := 9) (cs := #[.int .i64 0, .int .i64 0]) (t := 24) ?_; intro gb241 hg w48 hbox hb; refine up15 (am (Kd.R_below (qR HO232) hb)) (am (Kd.R_below (qR HO238) hb)) (bB BK219 hb) (bB BK222 hb) (bB BK235 hb) (bH hb) (am hbox) (bW hg) (bW hg) (bL BK219 hg) (bG BK219 hg) (bL BK222 hg) (bG BK222 hg) (bL BK235 hg) (bG BK235 hg) ?_; clear HO232 HO238 BK219 BK222 BK235 HB hb hbox hg; intro HO232 HO238 BK219 BK222 BK235 HB BK241 GW241 GE241 NB219_241 NB241_219 NB222_241 NB241_222 NB235_241 NB241_235; have hnb49 := NB241_219.out; have hnc49 := NB219_241.out; have hnb50 := NB241_222.out; have hnc50 := NB222_241.out; have hnb51 := NB241_235.out; have hnc51 := NB235_241.out; have hcz52 := blkC2 BK241.out))
            (try simp only [Act.put, List.setIfInBounds_toArray, List.set_cons_zero, List.set_cons_succ])
            go_cut [88] (fun v88 wc => ∃ (kq : Nat) (x88_40 : Bool), v88 = .bool x88_40 ∧ Aside0 (law_ArrangeNumbersMatchSpec.j5 kq l0 t236 x88_40 x220000_32 x220001_32 = some r) ∧ Aside0 (kq ≤ kj32) ∧ Aside0 (Kd.R (Kd.int .i64) 3 wc w.heap.size (fun _ => True) v237 t236) ∧ Aside0 (wc.heap[gb219]? = some (.cells #[.int .i64 x220000_32, .int .i64 x220001_32] 24 (0, 0))) ∧ Aside0 (wc.heap[gb222]? = some (.cells #[.int .i64 x223000_2, .int .i64 x223001_2] 24 (0, 0))) ∧ Aside0 (wc.heap[gb235]? = some (.cells #[.int .i64 t233, .int .i64 t234] 24 (0, 0))) ∧ Aside0 (wc.heap[gb241]? = some (.cells #[.int .i64 t239, .int .i64 t240] 24 (0, 0))) ∧ Aside0 (Below w.heap.size w wc))
            case first =>
             have H := HC41.out
             clear HC41
             replace H := Option.bind_eq_some_iff.mp H
             obtain ⟨t242, A530, H⟩ := H
             replace H : (if t242 = true then (if (!(t233 == x223000_2) || (!(t234 == x223001_2))) = true then (law_ArrangeNumbersMatchSpec.j5 kj32 l0 t236 true x220000_32 x220001_32) else (if (!(t239 == x220000_32) || (!(t240 == x220001_32))) = true then (law_ArrangeNumbersMatchSpec.j5 kj32 l0 t236 true x220000_32 x220001_32) else (if x223000_2 = 0 then ((ref_HeavyOf.f kj32 l0).bind fun t243 => ((law_ints.f kj32 t230 t243).bind fun t246 => (law_ArrangeNumbersMatchSpec.j5 kj32 l0 t236 (!t246) x220000_32 x220001_32))) else (if (t230.length : Int) > 0 then (law_ArrangeNumbersMatchSpec.j5 kj32 l0 t236 true x220000_32 x220001_32) else (law_ArrangeNumbersMatchSpec.j5 kj32 l0 t236 false x220000_32 x220001_32))))) else (law_ArrangeNumbersMatchSpec.j5 kj32 l0 t236 true x220000_32 x220001_32)) = some r := H
             have A53 := Aside0.mk A530
             clear A530
             by_cases c54 : t242 = true
             ·subst c54
              have H1 : (if (!(t233 == x223000_2) || (!(t234 == x223001_2))) = true then (law_ArrangeNumbersMatchSpec.j5 kj32 l0 t236 true x220000_32 x220001_32) else (if (!(t239 == x220000_32) || (!(t240 == x220001_32))) = true then (law_ArrangeNumbersMatchSpec.j5 kj32 l0 t236 true x220000_32 x220001_32) else (if x223000_2 = 0 then ((ref_HeavyOf.f kj32 l0).bind fun t243 => ((law_ints.f kj32 t230 t243).bind fun t246 => (law_ArrangeNumbersMatchSpec.j5 kj32 l0 t236 (!t246) x220000_32 x220001_32))) else (if (t230.length : Int) > 0 then (law_ArrangeNumbersMatchSpec.j5 kj32 l0 t236 true x220000_32 x220001_32) else (law_ArrangeNumbersMatchSpec.j5 kj32 l0 t236 false x220000_32 x220001_32))))) = some r := by rw [if_pos rfl] at H; exact H
              clear H
              have H := H1
              clear H1
              by_cases c55 : (!(t233 == x223000_2) || (!(t234 == x223001_2))) = true
              ·rw [if_pos c55] at H
               have c55b0 : (!(t233 == x223000_2) || (!(t234 == x223001_2))) = true := c55
               clear c55
               (first | rw [c55b0] | (simp only [i64_w, i32_w]; rw [c55b0]) | skip)
               have H' := Aside0.mk H
               clear H
               go_wp2_with (first | ((with_reducible refine gate_callee (f := 10) rfl ?_); refine goesL_ (some 55) rfl rfl Try.func10 (by kernel_rfl) rfl #[] rfl qA ?_; (with_reducible refine (law_orders.calls kj32  true _ A53.out).mono ?_); rintro e w56 ⟨rfl, hb⟩; refine ⟨_, rfl, ?_⟩; refine up7 (am (Kd.R_below (by (with_reducible repeat (first | apply Kd.R_alloc | apply Kd.R_drewN | apply Kd.R_drew)); exact (Kd.R_mono (Kd.R_far (p := ⟨gb241, 1, none⟩) (Kd.R_far (p := ⟨gb241, 0, none⟩) (Kd.R_types HO232.out BK241.out (by decide)) (fun _ hk => hk.2) (.int .i64 t239)) (fun _ hk => hk.2) (.int .i64 t240)) (fun _ h_ => h_.1))) hb)) (am (Kd.R_below (by (with_reducible repeat (first | apply Kd.R_alloc | apply Kd.R_drewN | apply Kd.R_drew)); exact (Kd.R_mono (Kd.R_far (p := ⟨gb241, 1, none⟩) (Kd.R_far (p := ⟨gb241, 0, none⟩) (Kd.R_types HO238.out BK241.out (by decide)) (fun _ hk => hk.2) (.int .i64 t239)) (fun _ hk => hk.2) (.int .i64 t240)) (fun _ h_ => h_.1))) hb)) (bP (o := .cells #[.int .i64 x220000_32, .int .i64 x220001_32] 24 (0, 0)) BK219 hb) (bP (o := .cells #[.int .i64 x223000_2, .int .i64 x223001_2] 24 (0, 0)) BK222 hb) (bP (o := .cells #[.int .i64 t233, .int .i64 t234] 24 (0, 0)) BK235 hb) (bP (o := .cells #[.int .i64 t239, .int .i64 t240] 24 (0, 0)) BK241 hb) (bH hb) ?_; clear HO232 HO238 BK219 BK222 BK235 BK241 HB; intro HO232 HO238 BK219 BK222 BK235 BK241 HB; (try clear hb); (try clear hb2); (try clear hk); (try clear hi); have hnb57 := NB235_219.out; have hnc57 := NB219_235.out; have hnb58 := NB235_222.out; have hnc58 := NB222_235.out; have hnb59 := NB235_241.out; have hnc59 := NB241_235.out; have hcz60 := blkC2 BK235.out; have hnb61 := NB222_219.out; have hnc61 := NB219_222.out; have hnb62 := NB222_241.out; have hnc62 := NB241_222.out; have hcz63 := blkC2 BK222.out))
               go_meet
               case rel => exact ⟨_, (true), qF, H', ⟨by have := HJ1.out; have := HK2.out; have := HJ12.out; have := HJ25.out; have := HJ32.out; first | omega | exact Nat.le_refl _⟩, ⟨by (with_reducible repeat (first | apply Kd.R_alloc | apply Kd.R_drewN | apply Kd.R_drew)); exact Kd.R_mono HO238.out (fun _ hk => trivial)⟩, ⟨qK BK219⟩, ⟨qK BK222⟩, ⟨qK BK235⟩, ⟨qK BK241⟩, ⟨qB⟩⟩
              ·rw [if_neg c55] at H
               have c55b0 : (!(t233 == x223000_2) || (!(t234 == x223001_2))) = false := by simpa using c55
               clear c55
               (first | rw [c55b0] | (simp only [i64_w, i32_w]; rw [c55b0]) | skip)
               by_cases c64 : (!(t239 == x220000_32) || (!(t240 == x220001_32))) = true
               ·rw [if_pos c64] at H
                have c64b0 : (!(t239 == x220000_32) || (!(t240 == x220001_32))) = true := c64
                clear c64
                have H' := Aside0.mk H
                clear H
                go_wp2_with (first | ((with_reducible refine gate_callee (f := 10) rfl ?_); refine goesL_ (some 55) rfl rfl Try.func10 (by kernel_rfl) rfl #[] rfl qA ?_; (with_reducible refine (law_orders.calls kj32  true _ A53.out).mono ?_); rintro e w65 ⟨rfl, hb⟩; refine ⟨_, rfl, ?_⟩; refine up7 (am (Kd.R_below (by (with_reducible repeat (first | apply Kd.R_alloc | apply Kd.R_drewN | apply Kd.R_drew)); exact (Kd.R_mono (Kd.R_far (p := ⟨gb241, 1, none⟩) (Kd.R_far (p := ⟨gb241, 0, none⟩) (Kd.R_types HO232.out BK241.out (by decide)) (fun _ hk => hk.2) (.int .i64 t239)) (fun _ hk => hk.2) (.int .i64 t240)) (fun _ h_ => h_.1))) hb)) (am (Kd.R_below (by (with_reducible repeat (first | apply Kd.R_alloc | apply Kd.R_drewN | apply Kd.R_drew)); exact (Kd.R_mono (Kd.R_far (p := ⟨gb241, 1, none⟩) (Kd.R_far (p := ⟨gb241, 0, none⟩) (Kd.R_types HO238.out BK241.out (by decide)) (fun _ hk => hk.2) (.int .i64 t239)) (fun _ hk => hk.2) (.int .i64 t240)) (fun _ h_ => h_.1))) hb)) (bP (o := .cells #[.int .i64 x220000_32, .int .i64 x220001_32] 24 (0, 0)) BK219 hb) (bP (o := .cells #[.int .i64 x223000_2, .int .i64 x223001_2] 24 (0, 0)) BK222 hb) (bP (o := .cells #[.int .i64 t233, .int .i64 t234] 24 (0, 0)) BK235 hb) (bP (o := .cells #[.int .i64 t239, .int .i64 t240] 24 (0, 0)) BK241 hb) (bH hb) ?_; clear HO232 HO238 BK219 BK222 BK235 BK241 HB; intro HO232 HO238 BK219 BK222 BK235 BK241 HB; (try clear hb); (try clear hb2); (try clear hk); (try clear hi); have hnb66 := NB235_219.out; have hnc66 := NB219_235.out; have hnb67 := NB235_222.out; have hnc67 := NB222_235.out; have hnb68 := NB235_241.out; have hnc68 := NB241_235.out; have hcz69 := blkC2 BK235.out; have hnb70 := NB222_219.out; have hnc70 := NB219_222.out; have hnb71 := NB222_241.out; have hnc71 := NB241_222.out; have hcz72 := blkC2 BK222.out; have hnb73 := NB241_219.out; have hnc73 := NB219_241.out; have hcz74 := blkC2 BK241.out; have hcz75 := blkC2 BK219.out))
                go_meet
                case rel => exact ⟨_, (true), qF, H', ⟨by have := HJ1.out; have := HK2.out; have := HJ12.out; have := HJ25.out; have := HJ32.out; first | omega | exact Nat.le_refl _⟩, ⟨by (with_reducible repeat (first | apply Kd.R_alloc | apply Kd.R_drewN | apply Kd.R_drew)); exact Kd.R_mono HO238.out (fun _ hk => trivial)⟩, ⟨qK BK219⟩, ⟨qK BK222⟩, ⟨qK BK235⟩, ⟨qK BK241⟩, ⟨qB⟩⟩
               ·rw [if_neg c64] at H
                have c64b0 : (!(t239 == x220000_32) || (!(t240 == x220001_32))) = false := by simpa using c64
                clear c64
                by_cases c76 : x223000_2 = 0
                ·rw [if_pos c76] at H
                 have c76b0 : (x223000_2 == 0) = true := beq_iff_eq.mpr c76
                 have c76b1 : (x223000_2 != 0) = false := bne_eq_false_iff_eq.mpr c76
                 clear c76
                 replace H := Option.bind_eq_some_iff.mp H
                 obtain ⟨t243, A770, H⟩ := H
                 replace H : ((law_ints.f kj32 t230 t243).bind fun t246 => (law_ArrangeNumbersMatchSpec.j5 kj32 l0 t236 (!t246) x220000_32 x220001_32)) = some r := H
                 have A77 := Aside0.mk A770
                 clear A770
                 replace H := Option.bind_eq_some_iff.mp H
                 obtain ⟨t246, A780, H⟩ := H
                 replace H : (law_ArrangeNumbersMatchSpec.j5 kj32 l0 t236 (!t246) x220000_32 x220001_32) = some r := H
                 have A78 := Aside0.mk A780
                 clear A780
                 have H' := Aside0.mk H
                 clear H
                 go_wp2_with (first | ((with_reducible refine gate_callee (f := 10) rfl ?_); refine goesL_ (some 55) rfl rfl Try.func10 (by kernel_rfl) rfl #[] rfl qA ?_; (with_reducible refine (law_orders.calls kj32  true _ A53.out).mono ?_); rintro e w79 ⟨rfl, hb⟩; refine ⟨_, rfl, ?_⟩; refine up7 (am (Kd.R_below (by (with_reducible repeat (first | apply Kd.R_alloc | apply Kd.R_drewN | apply Kd.R_drew)); exact (Kd.R_mono (Kd.R_far (p := ⟨gb241, 1, none⟩) (Kd.R_far (p := ⟨gb241, 0, none⟩) (Kd.R_types HO232.out BK241.out (by decide)) (fun _ hk => hk.2) (.int .i64 t239)) (fun _ hk => hk.2) (.int .i64 t240)) (fun _ h_ => h_.1))) hb)) (am (Kd.R_below (by (with_reducible repeat (first | apply Kd.R_alloc | apply Kd.R_drewN | apply Kd.R_drew)); exact (Kd.R_mono (Kd.R_far (p := ⟨gb241, 1, none⟩) (Kd.R_far (p := ⟨gb241, 0, none⟩) (Kd.R_types HO238.out BK241.out (by decide)) (fun _ hk => hk.2) (.int .i64 t239)) (fun _ hk => hk.2) (.int .i64 t240)) (fun _ h_ => h_.1))) hb)) (bP (o := .cells #[.int .i64 x220000_32, .int .i64 x220001_32] 24 (0, 0)) BK219 hb) (bP (o := .cells #[.int .i64 x223000_2, .int .i64 x223001_2] 24 (0, 0)) BK222 hb) (bP (o := .cells #[.int .i64 t233, .int .i64 t234] 24 (0, 0)) BK235 hb) (bP (o := .cells #[.int .i64 t239, .int .i64 t240] 24 (0, 0)) BK241 hb) (bH hb) ?_; clear HO232 HO238 BK219 BK222 BK235 BK241 HB; intro HO232 HO238 BK219 BK222 BK235 BK241 HB; (try clear hb); (try clear hb2); (try clear hk); (try clear hi); have hnb80 := NB235_219.out; have hnc80 := NB219_235.out; have hnb81 := NB235_222.out; have hnc81 := NB222_235.out; have hnb82 := NB235_241.out; have hnc82 := NB241_235.out; have hcz83 := blkC2 BK235.out; have hnb84 := NB222_219.out; have hnc84 := NB219_222.out; have hnb85 := NB222_241.out; have hnc85 := NB241_222.out; have hcz86 := blkC2 BK222.out; have hnb87 := NB241_219.out; have hnc87 := NB219_241.out; have hcz88 := blkC2 BK241.out; have hcz89 := blkC2 BK219.out) | (go_at_call 17; (with_reducible refine (ref_HeavyOf.calls kj32 _ _ l0 t243 _ ?side1 ?side2 A77.out).mono ?_); (case side1 => exact qC HR0 HB); (case side2 => exact HC0.out); rintro e w90 ⟨v244, rfl, ho0, hb⟩; refine up8 (am (Kd.R_elder' (qR HO232) (Kd.R_base ho0) hb)) (am (Kd.R_elder' (qR HO238) (Kd.R_base ho0) hb)) (am (Kd.R_lower (Kd.R_new' (Kd.R_new' ho0 (Kd.R_lt (qR HO232))) (Kd.R_lt (qR HO238))) (below_size qB))) (bB BK219 hb) (bB BK222 hb) (bB BK235 hb) (bB BK241 hb) (bH hb) ?_; clear HO232 HO238 BK219 BK222 BK235 BK241 HB; intro HO232 HO238 HO245 BK219 BK222 BK235 BK241 HB; (try clear hb); (try clear hb2); (try clear hk); (try clear hi); (try clear ho0); obtain ⟨Ao91, co91, eo91⟩ := Kd.R_slice HO232.out; subst eo91; obtain ⟨Ao92, co92, eo92⟩ := Kd.R_slice HO245.out; subst eo92) | (go_at_call 11; (with_reducible refine (law_ints.calls kj32 _ _ t230 _ _ t243 t246 _ ?side1 ?side2 ?side3 ?side4 A78.out).mono ?_); (case side1 => repeat (first | exact (Kd.R_reads' HO232.out).2.2 | (with_reducible refine Kd.C_alloc ?_ _) | (with_reducible refine Kd.C_drewN ?_ _) | (with_reducible refine Kd.C_drew ?_))); (case side2 => exact (Kd.R_reads' HO232.out).2.1); (case side3 => repeat (first | exact (Kd.R_reads' HO245.out).2.2 | (with_reducible refine Kd.C_alloc ?_ _) | (with_reducible refine Kd.C_drewN ?_ _) | (with_reducible refine Kd.C_drew ?_))); (case side4 => exact (Kd.R_reads' HO245.out).2.1); rintro e w' ⟨rfl, ⟨nd, rfl⟩⟩))
                 go_meet
                 case rel => exact ⟨_, (!t246), qF, H', ⟨by have := HJ1.out; have := HK2.out; have := HJ12.out; have := HJ25.out; have := HJ32.out; first | omega | exact Nat.le_refl _⟩, ⟨by (with_reducible repeat (first | apply Kd.R_alloc | apply Kd.R_drewN | apply Kd.R_drew)); exact Kd.R_mono HO238.out (fun _ hk => trivial)⟩, ⟨qK BK219⟩, ⟨qK BK222⟩, ⟨qK BK235⟩, ⟨qK BK241⟩, ⟨qB⟩⟩
                ·rw [if_neg c76] at H
                 have c76b0 : (x223000_2 == 0) = false := beq_eq_false_iff_ne.mpr c76
                 have c76b1 : (x223000_2 != 0) = true := bne_iff_ne.mpr c76
                 by_cases c93 : (t230.length : Int) > 0
                 ·rw [if_pos c93] at H
                  have c93b0 : decide (0 < (t230.length : Int)) = true := decide_eq_true c93
                  have c93b1 : decide (0 < t230.length) = true := decide_eq_true (by omega)
                  clear c93
                  have H' := Aside0.mk H
                  clear H
                  go_wp2_with (first | ((with_reducible refine gate_callee (f := 10) rfl ?_); refine goesL_ (some 55) rfl rfl Try.func10 (by kernel_rfl) rfl #[] rfl qA ?_; (with_reducible refine (law_orders.calls kj32  true _ A53.out).mono ?_); rintro e w94 ⟨rfl, hb⟩; refine ⟨_, rfl, ?_⟩; refine up7 (am (Kd.R_below (by (with_reducible repeat (first | apply Kd.R_alloc | apply Kd.R_drewN | apply Kd.R_drew)); exact (Kd.R_mono (Kd.R_far (p := ⟨gb241, 1, none⟩) (Kd.R_far (p := ⟨gb241, 0, none⟩) (Kd.R_types HO232.out BK241.out (by decide)) (fun _ hk => hk.2) (.int .i64 t239)) (fun _ hk => hk.2) (.int .i64 t240)) (fun _ h_ => h_.1))) hb)) (am (Kd.R_below (by (with_reducible repeat (first | apply Kd.R_alloc | apply Kd.R_drewN | apply Kd.R_drew)); exact (Kd.R_mono (Kd.R_far (p := ⟨gb241, 1, none⟩) (Kd.R_far (p := ⟨gb241, 0, none⟩) (Kd.R_types HO238.out BK241.out (by decide)) (fun _ hk => hk.2) (.int .i64 t239)) (fun _ hk => hk.2) (.int .i64 t240)) (fun _ h_ => h_.1))) hb)) (bP (o := .cells #[.int .i64 x220000_32, .int .i64 x220001_32] 24 (0, 0)) BK219 hb) (bP (o := .cells #[.int .i64 x223000_2, .int .i64 x223001_2] 24 (0, 0)) BK222 hb) (bP (o := .cells #[.int .i64 t233, .int .i64 t234] 24 (0, 0)) BK235 hb) (bP (o := .cells #[.int .i64 t239, .int .i64 t240] 24 (0, 0)) BK241 hb) (bH hb) ?_; clear HO232 HO238 BK219 BK222 BK235 BK241 HB; intro HO232 HO238 BK219 BK222 BK235 BK241 HB; (try clear hb); (try clear hb2); (try clear hk); (try clear hi); have hnb95 := NB235_219.out; have hnc95 := NB219_235.out; have hnb96 := NB235_222.out; have hnc96 := NB222_235.out; have hnb97 := NB235_241.out; have hnc97 := NB241_235.out; have hcz98 := blkC2 BK235.out; have hnb99 := NB222_219.out; have hnc99 := NB219_222.out; have hnb100 := NB222_241.out; have hnc100 := NB241_222.out; have hcz101 := blkC2 BK222.out; have hnb102 := NB241_219.out; have hnc102 := NB219_241.out; have hcz103 := blkC2 BK241.out; have hcz104 := blkC2 BK219.out; obtain ⟨Ao105, co105, eo105⟩ := Kd.R_slice HO232.out; subst eo105))
                  go_meet
                  case rel => exact ⟨_, (true), qF, H', ⟨by have := HJ1.out; have := HK2.out; have := HJ12.out; have := HJ25.out; have := HJ32.out; first | omega | exact Nat.le_refl _⟩, ⟨by (with_reducible repeat (first | apply Kd.R_alloc | apply Kd.R_drewN | apply Kd.R_drew)); exact Kd.R_mono HO238.out (fun _ hk => trivial)⟩, ⟨qK BK219⟩, ⟨qK BK222⟩, ⟨qK BK235⟩, ⟨qK BK241⟩, ⟨qB⟩⟩
                 ·rw [if_neg c93] at H
                  have c93b0 : decide (0 < (t230.length : Int)) = false := decide_eq_false c93
                  have c93b1 : decide (0 < t230.length) = false := decide_eq_false (by omega)
                  clear c93
                  have H' := Aside0.mk H
                  clear H
                  go_wp2_with (first | ((with_reducible refine gate_callee (f := 10) rfl ?_); refine goesL_ (some 55) rfl rfl Try.func10 (by kernel_rfl) rfl #[] rfl qA ?_; (with_reducible refine (law_orders.calls kj32  true _ A53.out).mono ?_); rintro e w106 ⟨rfl, hb⟩; refine ⟨_, rfl, ?_⟩; refine up7 (am (Kd.R_below (by (with_reducible repeat (first | apply Kd.R_alloc | apply Kd.R_drewN | apply Kd.R_drew)); exact (Kd.R_mono (Kd.R_far (p := ⟨gb241, 1, none⟩) (Kd.R_far (p := ⟨gb241, 0, none⟩) (Kd.R_types HO232.out BK241.out (by decide)) (fun _ hk => hk.2) (.int .i64 t239)) (fun _ hk => hk.2) (.int .i64 t240)) (fun _ h_ => h_.1))) hb)) (am (Kd.R_below (by (with_reducible repeat (first | apply Kd.R_alloc | apply Kd.R_drewN | apply Kd.R_drew)); exact (Kd.R_mono (Kd.R_far (p := ⟨gb241, 1, none⟩) (Kd.R_far (p := ⟨gb241, 0, none⟩) (Kd.R_types HO238.out BK241.out (by decide)) (fun _ hk => hk.2) (.int .i64 t239)) (fun _ hk => hk.2) (.int .i64 t240)) (fun _ h_ => h_.1))) hb)) (bP (o := .cells #[.int .i64 x220000_32, .int .i64 x220001_32] 24 (0, 0)) BK219 hb) (bP (o := .cells #[.int .i64 x223000_2, .int .i64 x223001_2] 24 (0, 0)) BK222 hb) (bP (o := .cells #[.int .i64 t233, .int .i64 t234] 24 (0, 0)) BK235 hb) (bP (o := .cells #[.int .i64 t239, .int .i64 t240] 24 (0, 0)) BK241 hb) (bH hb) ?_; clear HO232 HO238 BK219 BK222 BK235 BK241 HB; intro HO232 HO238 BK219 BK222 BK235 BK241 HB; (try clear hb); (try clear hb2); (try clear hk); (try clear hi); have hnb107 := NB235_219.out; have hnc107 := NB219_235.out; have hnb108 := NB235_222.out; have hnc108 := NB222_235.out; have hnb109 := NB235_241.out; have hnc109 := NB241_235.out; have hcz110 := blkC2 BK235.out; have hnb111 := NB222_219.out; have hnc111 := NB219_222.out; have hnb112 := NB222_241.out; have hnc112 := NB241_222.out; have hcz113 := blkC2 BK222.out; have hnb114 := NB241_219.out; have hnc114 := NB219_241.out; have hcz115 := blkC2 BK241.out; have hcz116 := blkC2 BK219.out; obtain ⟨Ao117, co117, eo117⟩ := Kd.R_slice HO232.out; subst eo117))
                  go_meet
                  case rel => exact ⟨_, (false), qF, H', ⟨by have := HJ1.out; have := HK2.out; have := HJ12.out; have := HJ25.out; have := HJ32.out; first | omega | exact Nat.le_refl _⟩, ⟨by (with_reducible repeat (first | apply Kd.R_alloc | apply Kd.R_drewN | apply Kd.R_drew)); exact Kd.R_mono HO238.out (fun _ hk => trivial)⟩, ⟨qK BK219⟩, ⟨qK BK222⟩, ⟨qK BK235⟩, ⟨qK BK241⟩, ⟨qB⟩⟩
             ·replace c54 := Bool.eq_false_iff.mpr c54
              subst c54
              have H1 : (law_ArrangeNumbersMatchSpec.j5 kj32 l0 t236 true x220000_32 x220001_32) = some r := by rw [if_neg (show ¬ (false = true) by decide)] at H; exact H
              clear H
              have H := H1
              clear H1
              have H' := Aside0.mk H
              clear H
              go_wp2_with (first | ((with_reducible refine gate_callee (f := 10) rfl ?_); refine goesL_ (some 55) rfl rfl Try.func10 (by kernel_rfl) rfl #[] rfl qA ?_; (with_reducible refine (law_orders.calls kj32  false _ A53.out).mono ?_); rintro e w118 ⟨rfl, hb⟩; refine ⟨_, rfl, ?_⟩; refine up7 (am (Kd.R_below (by (with_reducible repeat (first | apply Kd.R_alloc | apply Kd.R_drewN | apply Kd.R_drew)); exact (Kd.R_mono (Kd.R_far (p := ⟨gb241, 1, none⟩) (Kd.R_far (p := ⟨gb241, 0, none⟩) (Kd.R_types HO232.out BK241.out (by decide)) (fun _ hk => hk.2) (.int .i64 t239)) (fun _ hk => hk.2) (.int .i64 t240)) (fun _ h_ => h_.1))) hb)) (am (Kd.R_below (by (with_reducible repeat (first | apply Kd.R_alloc | apply Kd.R_drewN | apply Kd.R_drew)); exact (Kd.R_mono (Kd.R_far (p := ⟨gb241, 1, none⟩) (Kd.R_far (p := ⟨gb241, 0, none⟩) (Kd.R_types HO238.out BK241.out (by decide)) (fun _ hk => hk.2) (.int .i64 t239)) (fun _ hk => hk.2) (.int .i64 t240)) (fun _ h_ => h_.1))) hb)) (bP (o := .cells #[.int .i64 x220000_32, .int .i64 x220001_32] 24 (0, 0)) BK219 hb) (bP (o := .cells #[.int .i64 x223000_2, .int .i64 x223001_2] 24 (0, 0)) BK222 hb) (bP (o := .cells #[.int .i64 t233, .int .i64 t234] 24 (0, 0)) BK235 hb) (bP (o := .cells #[.int .i64 t239, .int .i64 t240] 24 (0, 0)) BK241 hb) (bH hb) ?_; clear HO232 HO238 BK219 BK222 BK235 BK241 HB; intro HO232 HO238 BK219 BK222 BK235 BK241 HB; (try clear hb); (try clear hb2); (try clear hk); (try clear hi)))
              go_meet
              case rel => exact ⟨_, (true), qF, H', ⟨by have := HJ1.out; have := HK2.out; have := HJ12.out; have := HJ25.out; have := HJ32.out; first | omega | exact Nat.le_refl _⟩, ⟨by (with_reducible repeat (first | apply Kd.R_alloc | apply Kd.R_drewN | apply Kd.R_drew)); exact Kd.R_mono HO238.out (fun _ hk => trivial)⟩, ⟨qK BK219⟩, ⟨qK BK222⟩, ⟨qK BK235⟩, ⟨qK BK241⟩, ⟨qB⟩⟩
            case rest =>
             clear HC41
             try clear c1
             try clear c2
             try clear p2
             try clear q2
             try clear hx2
             try clear c3
             try clear c4
             try clear c5
             try clear c5b0
             try clear c5b1
             try clear c6
             try clear p6
             try clear c7
             try clear c8
             try clear c9
             try clear c10
             try clear c11
             try clear c13
             try clear c14
             try clear c14b0
             try clear c15
             try clear c16
             try clear c17
             try clear c18
             try clear c18b0
             try clear c19
             try clear c19b0
             try clear c21
             try clear p22
             try clear q22
             try clear hx22
             try clear c24
             try clear c27
             try clear c27b0
             try clear c27b1
             try clear c29
             try clear c31
             try clear c34
             try clear c37
             try clear c44
             try clear c45
             try clear c49
             try clear c50
             try clear c51
             try clear c54
             try clear c55
             try clear c55b0
             try clear c57
             try clear c58
             try clear c59
             try clear c61
             try clear c62
             try clear c64
             try clear c64b0
             try clear p64
             try clear c66
             try clear c67
             try clear c68
             try clear c70
             try clear c71
             try clear c73
             try clear c76
             try clear c76b0
             try clear c76b1
             try clear c80
             try clear c81
             try clear c82
             try clear c84
             try clear c85
             try clear c87
             try clear c93
             try clear c93b0
             try clear c93b1
             try clear c95
             try clear c96
             try clear c97
             try clear c99
             try clear c100
             try clear c102
             try clear c107
             try clear c108
             try clear c109
             try clear c111
             try clear c112
             try clear c114
             try clear hcz101
             try clear hcz103
             try clear hcz104
             try clear hcz110
             try clear hcz113
             try clear hcz115
             try clear hcz116
             try clear hcz12
             try clear hcz16
             try clear hcz25
             try clear hcz30
             try clear hcz32
             try clear hcz38
             try clear hcz46
             try clear hcz4
             try clear hcz52
             try clear hcz60
             try clear hcz63
             try clear hcz69
             try clear hcz72
             try clear hcz74
             try clear hcz75
             try clear hcz83
             try clear hcz86
             try clear hcz88
             try clear hcz89
             try clear hcz8
             try clear hcz98
             try clear hcz9
             try clear hx223_0
             try clear p2
             try clear p22
             try clear p223
             try clear p6
             try clear q2
             try clear q22
             try clear q223
             obtain ⟨kq, x88_40, rfl, HA, HJ40, HO_8, BK219, BK222, BK235, BK241, HB⟩ := hcut
             cases kq with
             | zero => exact absurd HA.out (by simp [law_ArrangeNumbersMatchSpec.j5])
             | succ kj40 =>
              have H := HA.out
              clear HA
              simp only [law_ArrangeNumbersMatchSpec.j5] at H
              by_cases c119 : x88_40 = true
              ·subst c119
               have H1 : (none) = some r := by rw [if_pos rfl] at H; exact H
               clear H
               have H := H1
               clear H1
               exact absurd H (by simp)
              ·replace c119 := Bool.eq_false_iff.mpr c119
               subst c119
               have H1 : (if x220000_32 = 0 then (law_ArrangeNumbersMatchSpec.l1 kj40 l0 t236 0) else (some ((t236.length : Int) == 0))) = some r := by rw [if_neg (show ¬ (false = true) by decide)] at H; exact H
               clear H
               have H := H1
               clear H1
               by_cases c120 : x220000_32 = 0
               ·rw [if_pos c120] at H
                have c120b0 : (x220000_32 == 0) = true := beq_iff_eq.mpr c120
                have c120b1 : (x220000_32 != 0) = false := bne_eq_false_iff_eq.mpr c120
                clear c120
                have H' := Aside0.mk H
                clear H
                have hnb121 := NB219_222.out
                have hnc121 := NB222_219.out
                have hnb122 := NB219_235.out
                have hnc122 := NB235_219.out
                have hnb123 := NB219_241.out
                have hnc123 := NB241_219.out
                have hcz124 := blkC2 BK219.out
                go_wp2
                go_loopg [10] kj40 (fun kq v10 w' => ∃ (x10_7 : Int), v10 = .int .i64 x10_7 ∧ Aside0 (law_ArrangeNumbersMatchSpec.l1 kq l0 t236 x10_7 = some r) ∧ Aside0 (kq ≤ kj40) ∧ Aside0 (Kd.R (Kd.int .i64) 3 w' w.heap.size (fun _ => True) v237 t236) ∧ Aside0 (w'.heap[gb219]? = some (.cells #[.int .i64 x220000_32, .int .i64 x220001_32] 24 (0, 0))) ∧ Aside0 (w'.heap[gb222]? = some (.cells #[.int .i64 x223000_2, .int .i64 x223001_2] 24 (0, 0))) ∧ Aside0 (w'.heap[gb235]? = some (.cells #[.int .i64 t233, .int .i64 t234] 24 (0, 0))) ∧ Aside0 (w'.heap[gb241]? = some (.cells #[.int .i64 t239, .int .i64 t240] 24 (0, 0))) ∧ Aside0 (Below w.heap.size w w'))
                case atStart => exact ⟨(0), qF, H', ⟨Nat.le_refl _⟩, ⟨qR HO_8⟩, ⟨qK BK219⟩, ⟨qK BK222⟩, ⟨qK BK235⟩, ⟨qK BK241⟩, ⟨qB⟩⟩
                case round =>
                 clear H'
                 try clear c1
                 try clear c2
                 try clear p2
                 try clear q2
                 try clear hx2
                 try clear c3
                 try clear c4
                 try clear c5
                 try clear c5b0
                 try clear c5b1
                 try clear c6
                 try clear p6
                 try clear c7
                 try clear c8
                 try clear c9
                 try clear c10
                 try clear c11
                 try clear c12
                 try clear c13
                 try clear c14
                 try clear c14b0
                 try clear c15
                 try clear c16
                 try clear c17
                 try clear c18
                 try clear c18b0
                 try clear c19
                 try clear c19b0
                 try clear c21
                 try clear p22
                 try clear q22
                 try clear hx22
                 try clear c24
                 try clear c27
                 try clear c27b0
                 try clear c27b1
                 try clear c29
                 try clear c31
                 try clear c34
                 try clear c37
                 try clear c44
                 try clear c45
                 try clear c49
                 try clear c50
                 try clear c51
                 try clear c54
                 try clear c55
                 try clear c55b0
                 try clear c57
                 try clear c58
                 try clear c59
                 try clear c61
                 try clear c62
                 try clear c64
                 try clear c64b0
                 try clear p64
                 try clear c66
                 try clear c67
                 try clear c68
                 try clear c70
                 try clear c71
                 try clear c73
                 try clear c76
                 try clear c76b0
                 try clear c76b1
                 try clear c80
                 try clear c81
                 try clear c82
                 try clear c84
                 try clear c85
                 try clear c87
                 try clear c93
                 try clear c93b0
                 try clear c93b1
                 try clear c95
                 try clear c96
                 try clear c97
                 try clear c99
                 try clear c100
                 try clear c102
                 try clear c107
                 try clear c108
                 try clear c109
                 try clear c111
                 try clear c112
                 try clear c114
                 try clear c119
                 try clear c120
                 try clear c120b0
                 try clear c120b1
                 try clear c121
                 try clear c122
                 try clear c123
                 try clear hcz101
                 try clear hcz103
                 try clear hcz104
                 try clear hcz110
                 try clear hcz113
                 try clear hcz115
                 try clear hcz116
                 try clear hcz124
                 try clear hcz12
                 try clear hcz16
                 try clear hcz25
                 try clear hcz30
                 try clear hcz32
                 try clear hcz38
                 try clear hcz46
                 try clear hcz4
                 try clear hcz52
                 try clear hcz60
                 try clear hcz63
                 try clear hcz69
                 try clear hcz72
                 try clear hcz74
                 try clear hcz75
                 try clear hcz83
                 try clear hcz86
                 try clear hcz88
                 try clear hcz89
                 try clear hcz8
                 try clear hcz98
                 try clear hcz9
                 try clear hx223_0
                 try clear p2
                 try clear p22
                 try clear p223
                 try clear p6
                 try clear p64
                 try clear q2
                 try clear q22
                 try clear q223
                 obtain ⟨x10_7, rfl, HA, HK7, HO_8, BK219, BK222, BK235, BK241, HB⟩ := hrel
                 cases gk with
                 | zero => exact absurd HA.out (by simp [law_ArrangeNumbersMatchSpec.l1])
                 | succ k7 =>
                  have H := HA.out
                  clear HA
                  simp only [law_ArrangeNumbersMatchSpec.l1] at H
                  by_cases c125 : x10_7 < (l0.length : Int)
                  ·rw [if_pos c125] at H
                   have c125b0 : decide (x10_7 < (l0.length : Int)) = true := decide_eq_true c125
                   clear c125
                   by_cases c126 : (t236.length : Int) = (l0.length : Int)
                   ·rw [if_pos c126] at H
                    have c126b0 : ((t236.length : Int) == (l0.length : Int)) = true := beq_iff_eq.mpr c126
                    have c126b1 : ((t236.length : Int) != (l0.length : Int)) = false := bne_eq_false_iff_eq.mpr c126
                    have c126b2 : (t236.length == l0.length) = true := by first | simpa using c126 | (simp at c126 ⊢; omega)
                    clear c126
                    by_cases c127 : 0 ≤ x10_7
                    ·rw [if_pos c127] at H
                     have c127b0 : decide (0 ≤ x10_7) = true := decide_eq_true c127
                     clear c127
                     by_cases c128 : 0 ≤ (rd l0 x10_7)
                     ·rw [if_pos c128] at H
                      have c128b0 : decide (0 ≤ (rd l0 x10_7)) = true := decide_eq_true c128
                      clear c128
                      by_cases c129 : (rd l0 x10_7) < (t236.length : Int)
                      ·rw [if_pos c129] at H
                       have c129b0 : decide ((rd l0 x10_7) < (t236.length : Int)) = true := decide_eq_true c129
                       clear c129
                       by_cases c130 : (rd t236 (rd l0 x10_7)) = x10_7
                       ·rw [if_pos c130] at H
                        have c130b0 : ((rd t236 (rd l0 x10_7)) == x10_7) = true := beq_iff_eq.mpr c130
                        have c130b1 : ((rd t236 (rd l0 x10_7)) != x10_7) = false := bne_eq_false_iff_eq.mpr c130
                        clear c130
                        have H' := Aside0.mk H
                        clear H
                        obtain ⟨Ao131, co131, eo131⟩ := Kd.R_slice HO_8.out
                        subst eo131
                        have p247 : 0 ≤ (x10_7 : Int) := of_decide_eq_true qO
                        have q247 : x10_7 < (l0.length : Int) := of_decide_eq_true qO
                        obtain ⟨ad247, e247, hx247_0⟩ := Kd.at_int HR0.out x10_7 p247 q247
                        cases e247
                        replace hx247_0 := qH HB hx247_0
                        replace p247 := eq_true p247
                        replace q247 := eq_true q247
                        have p248 : 0 ≤ ((rd l0 x10_7) : Int) := of_decide_eq_true qO
                        have q248 : (rd l0 x10_7) < (t236.length : Int) := of_decide_eq_true qO
                        obtain ⟨ad248, e248, hx248_0⟩ := Kd.at_int (Kd.R_reads' HO_8.out).2.2 (rd l0 x10_7) p248 q248
                        cases e248
                        replace p248 := eq_true p248
                        replace q248 := eq_true q248
                        go_wp2
                        go_roundg k7
                        case measure => have := HJ1.out; have := HK2.out; have := HJ12.out; have := HJ25.out; have := HJ32.out; have := HJ40.out; have := HK7.out; omega
                        case rel => exact ⟨(wrap64 (x10_7 + 1)), qF, H', ⟨by have := HJ1.out; have := HK2.out; have := HJ12.out; have := HJ25.out; have := HJ32.out; have := HJ40.out; have := HK7.out; omega⟩, ⟨qR HO_8⟩, ⟨qK BK219⟩, ⟨qK BK222⟩, ⟨qK BK235⟩, ⟨qK BK241⟩, ⟨qB⟩⟩
                       ·rw [if_neg c130] at H
                        exact absurd H (by simp)
                      ·rw [if_neg c129] at H
                       exact absurd H (by simp)
                     ·rw [if_neg c128] at H
                      exact absurd H (by simp)
                    ·rw [if_neg c127] at H
                     exact absurd H (by simp)
                   ·rw [if_neg c126] at H
                    exact absurd H (by simp)
                  ·rw [if_neg c125] at H
                   have c125b0 : decide (x10_7 < (l0.length : Int)) = false := decide_eq_false c125
                   clear c125
                   obtain rfl := Option.some.inj H
                   go_wp2
                   go_ret
                   exact ⟨qE, qB⟩
               ·rw [if_neg c120] at H
                have c120b0 : (x220000_32 == 0) = false := beq_eq_false_iff_ne.mpr c120
                have c120b1 : (x220000_32 != 0) = true := bne_iff_ne.mpr c120
                obtain rfl := Option.some.inj H
                have hnb132 := NB219_222.out
                have hnc132 := NB222_219.out
                have hnb133 := NB219_235.out
                have hnc133 := NB235_219.out
                have hnb134 := NB219_241.out
                have hnc134 := NB241_219.out
                have hcz135 := blkC2 BK219.out
                obtain ⟨Ao136, co136, eo136⟩ := Kd.R_slice HO_8.out
                subst eo136
                go_wp2
                go_ret
                exact ⟨qE, qB⟩

/-- THE ONE PURE STATEMENT of law_ArrangeNumbersMatchSpec: yours. -/
def law_ArrangeNumbersMatchSpec.Pure : Prop := ∀ (l0 : List Int), l0.length ≤ maxLen → l0.length * 8 ≤ 140737488351232 → (∀ x ∈ l0, (Lit.int .i64 x).wf = true) → ∃ k, law_ArrangeNumbersMatchSpec.f k l0 = some true
theorem law_ArrangeNumbersMatchSpec.walk (P : law_ArrangeNumbersMatchSpec.Pure) (a0 : Option Addr) (len0 cap0 : Nat) (z0 : List Int) (w : World) (w0 : (a0 = none ∧ len0 = 0 ∧ cap0 = 0 ∧ z0 = []) ∨ ∃ x, a0 = some x ∧ len0 ≤ cap0 ∧ cap0 ≤ maxLen ∧ z0.length = cap0 ∧ (∀ i, i < z0.length → w.cell? (x.add i) = some (.int .i64 (z0.getD i 0))) ∧ ∀ n ∈ z0, (Lit.int .i64 n).wf = true) (y0 : len0 * 8 ≤ 140737488351232) :
  Calls Try.prog 4 #[.slice a0 len0 cap0] w fun e w' => e = .returned (.bool true) ∧ Below w.heap.size w w' := by
 obtain ⟨l0, rfl, hr0, hm0, hw0, hc0⟩ := ReadsInt.ofRowC w0
 obtain ⟨k, h⟩ := P l0 hm0 y0 hw0
 refine (law_ArrangeNumbersMatchSpec.calls k _ _ l0 true w (Kd.C_of_reads (d := (0 : Int)) (h1 := fun _ => rfl) hr0) hc0 h).mono ?_
 rintro e w' ⟨rfl, hd⟩
 exact ⟨rfl, hd⟩

end Go.Proofs.Ytoegghjhepkfkaa.PArr
