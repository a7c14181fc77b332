/- Written by a program of this session, for the law(s) Arr: contracts of the Go functions that the law reaches, each against a plain Lean function. No condition. -/
import Derived.Test.YtoegghjhepkfkaaPArrx0
import Derived.Test.YtoegghjhepkfkaaPArrx2
import Derived.Test.YtoegghjhepkfkaaPArrx7
import Derived.Test.YtoegghjhepkfkaaPArrx11
namespace Go.Proofs.Ytoegghjhepkfkaa.PArr
open Go.RowKit Go.Proofs.YtoegghjhepkfkaaW.PrintWords Go.Proofs.YtoegghjhepkfkaaW.PrintLast Go.Proofs.YtoegghjhepkfkaaW.PrintMore
attribute [local go_sem] max2_int min2_int max_two min_two max_three min_three max_four min_four   -- for this text's walks alone
set_option linter.unusedVariables false
set_option linter.unusedSimpArgs false

/-! ### law_ArrangeWantedFirst: function 6 -/
mutual
def law_ArrangeWantedFirst.j0 : Nat → List ByteArray → List ByteArray → Int → Int → List Int → Bool → Int → Int → Option (Bool)
 | 0, _, _, _, _, _, _, _, _ => none
 | k + 1, x0, x1, x2, x3, x9, x47, x277000, x277001 => if x47 = true then ((law_orders.f k).bind fun t280 => (if t280 = true then (if x277000 = 0 then (some true) else (some ((x9.length : Int) == 0))) else (none))) else (if 0 ≤ x2 then (if x2 < (x9.length : Int) then ((ref_In.f (rd x9 x2) 0 (wrap64 ((x0.length : Int) - 1))).bind fun t282 => (if t282 = true then (if 0 ≤ x3 then (if x3 < (x9.length : Int) then ((ref_In.f (rd x9 x3) 0 (wrap64 ((x0.length : Int) - 1))).bind fun t284 => (law_ArrangeWantedFirst.j1 k x0 x1 x2 x3 x9 (!t284))) else (none)) else (none)) else (law_ArrangeWantedFirst.j1 k x0 x1 x2 x3 x9 true))) else (none)) else (none))
def law_ArrangeWantedFirst.j1 : Nat → List ByteArray → List ByteArray → Int → Int → List Int → Bool → Option (Bool)
 | 0, _, _, _, _, _, _ => none
 | k + 1, x0, x1, x2, x3, x9, x78 => if x78 = true then (none) else (if 0 ≤ x2 then (if x2 < (x9.length : Int) then (if 0 ≤ (rd x9 x2) then (if (rd x9 x2) < (x0.length : Int) then (if 0 ≤ x3 then (if x3 < (x9.length : Int) then (if 0 ≤ (rd x9 x3) then (if (rd x9 x3) < (x0.length : Int) then (if (rdOf ByteArray.empty x0 (rd x9 x2)).toList = (rdOf ByteArray.empty x0 (rd x9 x3)).toList then (law_ArrangeWantedFirst.j2 k x0 x1 x2 x3 x9 (decide ((rd x9 x2) > (rd x9 x3)))) else (law_ArrangeWantedFirst.j2 k x0 x1 x2 x3 x9 false)) else (none)) else (none)) else (none)) else (none)) else (none)) else (none)) else (none)) else (none))
def law_ArrangeWantedFirst.j2 : Nat → List ByteArray → List ByteArray → Int → Int → List Int → Bool → Option (Bool)
 | 0, _, _, _, _, _, _ => none
 | k + 1, x0, x1, x2, x3, x9, x104 => if x104 = true then (none) else (law_ArrangeWantedFirst.l0 k x0 x1 x2 x3 x9 false false 0)
def law_ArrangeWantedFirst.l0 : Nat → List ByteArray → List ByteArray → Int → Int → List Int → Bool → Bool → Int → Option (Bool)
 | 0, _, _, _, _, _, _, _, _ => none
 | k + 1, x0, x1, x2, x3, x9, x11, x12, x13 => if x13 < (x1.length : Int) then (if x11 = true then (if x12 = true then (law_ArrangeWantedFirst.l0 k x0 x1 x2 x3 x9 true true (wrap64 (x13 + 1))) else (if 0 ≤ x13 then (if 0 ≤ x3 then (if x3 < (x9.length : Int) then (if 0 ≤ (rd x9 x3) then (if (rd x9 x3) < (x0.length : Int) then (law_ArrangeWantedFirst.l0 k x0 x1 x2 x3 x9 true ((rdOf ByteArray.empty x1 x13).toList == (rdOf ByteArray.empty x0 (rd x9 x3)).toList) (wrap64 (x13 + 1))) else (none)) else (none)) else (none)) else (none)) else (none))) else (if 0 ≤ x13 then (if 0 ≤ x2 then (if x2 < (x9.length : Int) then (if 0 ≤ (rd x9 x2) then (if (rd x9 x2) < (x0.length : Int) then (if x12 = true then (law_ArrangeWantedFirst.l0 k x0 x1 x2 x3 x9 ((rdOf ByteArray.empty x1 x13).toList == (rdOf ByteArray.empty x0 (rd x9 x2)).toList) true (wrap64 (x13 + 1))) else (if 0 ≤ x3 then (if x3 < (x9.length : Int) then (if 0 ≤ (rd x9 x3) then (if (rd x9 x3) < (x0.length : Int) then (law_ArrangeWantedFirst.l0 k x0 x1 x2 x3 x9 ((rdOf ByteArray.empty x1 x13).toList == (rdOf ByteArray.empty x0 (rd x9 x2)).toList) ((rdOf ByteArray.empty x1 x13).toList == (rdOf ByteArray.empty x0 (rd x9 x3)).toList) (wrap64 (x13 + 1))) else (none)) else (none)) else (none)) else (none))) else (none)) else (none)) else (none)) else (none)) else (none))) else (if x11 = true then (some true) else (some (!x12)))
end
def law_ArrangeWantedFirst.f (k : Nat) (l0 : List ByteArray) (l1 : List ByteArray) (a2 : Int) (a3 : Int) : Option (Bool) := (arrange_ByNames.f l0 l1).bind fun bt271 => ((law_orders.f k).bind fun t277 => (if t277 = true then (if bt271.2.1 = 0 then ((ref_In.f a2 0 (wrap64 ((bt271.1.length : Int) - 1))).bind fun t278 => (if t278 = true then ((ref_In.f a3 0 (wrap64 ((bt271.1.length : Int) - 1))).bind fun t279 => (if t279 = true then (law_ArrangeWantedFirst.j0 k l0 l1 a2 a3 bt271.1 (decide (a2 ≥ a3)) bt271.2.1 bt271.2.2) else (law_ArrangeWantedFirst.j0 k l0 l1 a2 a3 bt271.1 true bt271.2.1 bt271.2.2))) else (law_ArrangeWantedFirst.j0 k l0 l1 a2 a3 bt271.1 true bt271.2.1 bt271.2.2))) else (law_ArrangeWantedFirst.j0 k l0 l1 a2 a3 bt271.1 true bt271.2.1 bt271.2.2)) else (law_ArrangeWantedFirst.j0 k l0 l1 a2 a3 bt271.1 true bt271.2.1 bt271.2.2)))
theorem law_ArrangeWantedFirst.mono_l : ∀ k, (∀ y0 y1 y2 y3 y4 y5 y6 y7, LeO (law_ArrangeWantedFirst.j0 k y0 y1 y2 y3 y4 y5 y6 y7) (law_ArrangeWantedFirst.j0 (k + 1) y0 y1 y2 y3 y4 y5 y6 y7)) ∧ (∀ y0 y1 y2 y3 y4 y5, LeO (law_ArrangeWantedFirst.j1 k y0 y1 y2 y3 y4 y5) (law_ArrangeWantedFirst.j1 (k + 1) y0 y1 y2 y3 y4 y5)) ∧ (∀ y0 y1 y2 y3 y4 y5, LeO (law_ArrangeWantedFirst.j2 k y0 y1 y2 y3 y4 y5) (law_ArrangeWantedFirst.j2 (k + 1) y0 y1 y2 y3 y4 y5)) ∧ (∀ y0 y1 y2 y3 y4 y5 y6 y7, LeO (law_ArrangeWantedFirst.l0 k y0 y1 y2 y3 y4 y5 y6 y7) (law_ArrangeWantedFirst.l0 (k + 1) y0 y1 y2 y3 y4 y5 y6 y7))
 | 0 => ⟨fun _ _ _ _ _ _ _ _ r h => by simp [law_ArrangeWantedFirst.j0] at h, fun _ _ _ _ _ _ r h => by simp [law_ArrangeWantedFirst.j1] at h, fun _ _ _ _ _ _ r h => by simp [law_ArrangeWantedFirst.j2] at h, fun _ _ _ _ _ _ _ _ r h => by simp [law_ArrangeWantedFirst.l0] at h⟩
 | k + 1 => by
  obtain ⟨ih0, ih1, ih2, ih3⟩ := law_ArrangeWantedFirst.mono_l k
  refine ⟨?_, ?_, ?_, ?_⟩
  ·intro y0 y1 y2 y3 y4 y5 y6 y7
   unfold law_ArrangeWantedFirst.j0
   repeat' first
   | (with_reducible exact ih0 _ _ _ _ _ _ _ _)
   | (with_reducible exact ih1 _ _ _ _ _ _)
   | (with_reducible exact ih2 _ _ _ _ _ _)
   | (with_reducible exact ih3 _ _ _ _ _ _ _ _)
   | (with_reducible exact law_orders.mono _)
   | (with_reducible exact LeO.refl _)
   | (with_reducible exact LeO.none _)
   | (with_reducible refine LeO.ite ?_ ?_)
   | (with_reducible refine LeO.bind ?_ (fun _ => ?_))
   | exact ih0 _ _ _ _ _ _ _ _
   | exact ih1 _ _ _ _ _ _
   | exact ih2 _ _ _ _ _ _
   | exact ih3 _ _ _ _ _ _ _ _
   | exact law_orders.mono _
   | exact LeO.none _
   | refine LeO.ite ?_ ?_
   | refine LeO.bind ?_ (fun _ => ?_)
  ·intro y0 y1 y2 y3 y4 y5
   unfold law_ArrangeWantedFirst.j1
   repeat' first
   | (with_reducible exact ih0 _ _ _ _ _ _ _ _)
   | (with_reducible exact ih1 _ _ _ _ _ _)
   | (with_reducible exact ih2 _ _ _ _ _ _)
   | (with_reducible exact ih3 _ _ _ _ _ _ _ _)
   | (with_reducible exact law_orders.mono _)
   | (with_reducible exact LeO.refl _)
   | (with_reducible exact LeO.none _)
   | (with_reducible refine LeO.ite ?_ ?_)
   | (with_reducible refine LeO.bind ?_ (fun _ => ?_))
   | exact ih0 _ _ _ _ _ _ _ _
   | exact ih1 _ _ _ _ _ _
   | exact ih2 _ _ _ _ _ _
   | exact ih3 _ _ _ _ _ _ _ _
   | exact law_orders.mono _
   | exact LeO.none _
   | refine LeO.ite ?_ ?_
   | refine LeO.bind ?_ (fun _ => ?_)
  ·intro y0 y1 y2 y3 y4 y5
   unfold law_ArrangeWantedFirst.j2
   repeat' first
   | (with_reducible exact ih0 _ _ _ _ _ _ _ _)
   | (with_reducible exact ih1 _ _ _ _ _ _)
   | (with_reducible exact ih2 _ _ _ _ _ _)
   | (with_reducible exact ih3 _ _ _ _ _ _ _ _)
   | (with_reducible exact law_orders.mono _)
   | (with_reducible exact LeO.refl _)
   | (with_reducible exact LeO.none _)
   | (with_reducible refine LeO.ite ?_ ?_)
   | (with_reducible refine LeO.bind ?_ (fun _ => ?_))
   | exact ih0 _ _ _ _ _ _ _ _
   | exact ih1 _ _ _ _ _ _
   | exact ih2 _ _ _ _ _ _
   | exact ih3 _ _ _ _ _ _ _ _
   | exact law_orders.mono _
   | exact LeO.none _
   | refine LeO.ite ?_ ?_
   | refine LeO.bind ?_ (fun _ => ?_)
  ·intro y0 y1 y2 y3 y4 y5 y6 y7
   unfold law_ArrangeWantedFirst.l0
   repeat' first
   | (with_reducible exact ih0 _ _ _ _ _ _ _ _)
   | (with_reducible exact ih1 _ _ _ _ _ _)
   | (with_reducible exact ih2 _ _ _ _ _ _)
   | (with_reducible exact ih3 _ _ _ _ _ _ _ _)
   | (with_reducible exact law_orders.mono _)
   | (with_reducible exact LeO.refl _)
   | (with_reducible exact LeO.none _)
   | (with_reducible refine LeO.ite ?_ ?_)
   | (with_reducible refine LeO.bind ?_ (fun _ => ?_))
   | exact ih0 _ _ _ _ _ _ _ _
   | exact ih1 _ _ _ _ _ _
   | exact ih2 _ _ _ _ _ _
   | exact ih3 _ _ _ _ _ _ _ _
   | exact law_orders.mono _
   | exact LeO.none _
   | refine LeO.ite ?_ ?_
   | refine LeO.bind ?_ (fun _ => ?_)
theorem law_ArrangeWantedFirst.mono : ∀ a0 a1 a2 a3 k, LeO (law_ArrangeWantedFirst.f k a0 a1 a2 a3) (law_ArrangeWantedFirst.f (k + 1) a0 a1 a2 a3) := by
 intro a0 a1 a2 a3 k
 obtain ⟨ih0, ih1, ih2, ih3⟩ := law_ArrangeWantedFirst.mono_l k
 unfold law_ArrangeWantedFirst.f
 repeat' first
   | (with_reducible exact ih0 _ _ _ _ _ _ _ _)
   | (with_reducible exact ih1 _ _ _ _ _ _)
   | (with_reducible exact ih2 _ _ _ _ _ _)
   | (with_reducible exact ih3 _ _ _ _ _ _ _ _)
   | (with_reducible exact law_orders.mono _)
   | (with_reducible exact LeO.refl _)
   | (with_reducible exact LeO.none _)
   | (with_reducible refine LeO.ite ?_ ?_)
   | (with_reducible refine LeO.bind ?_ (fun _ => ?_))
   | exact ih0 _ _ _ _ _ _ _ _
   | exact ih1 _ _ _ _ _ _
   | exact ih2 _ _ _ _ _ _
   | exact ih3 _ _ _ _ _ _ _ _
   | exact law_orders.mono _
   | exact LeO.none _
   | refine LeO.ite ?_ ?_
   | refine LeO.bind ?_ (fun _ => ?_)
set_option maxHeartbeats 8000000 in
set_option maxRecDepth 100000 in
theorem law_ArrangeWantedFirst.calls (k : Nat) (A0 : Option Addr) (c0 : Nat) (l0 : List ByteArray) (A1 : Option Addr) (c1 : Nat) (l1 : List ByteArray) (a2 : Int) (a3 : Int) (r : Bool) (w : World) (hr0 : Kd.C Kd.string w A0 l0.length l0) (hc0 : l0.length ≤ c0) (hr1 : Kd.C Kd.string w A1 l1.length l1) (hc1 : l1.length ≤ c1) (h : law_ArrangeWantedFirst.f k l0 l1 a2 a3 = some r) :
  Calls Try.prog 6 #[.slice A0 l0.length c0, .slice A1 l1.length c1, .int .i64 a2, .int .i64 a3] w fun e w' => e = .returned (.bool r) ∧ Below w.heap.size w w' := by
 have hu24 := Try.underlying24
 have HR0 := Aside0.mk hr0
 have HC0 := Aside0.mk hc0
 clear hr0 hc0
 have HR1 := Aside0.mk hr1
 have HC1 := Aside0.mk hc1
 clear hr1 hc1
 have HB := Aside0.mk (Below.refl w.heap.size w)
 have H : ((arrange_ByNames.f l0 l1).bind fun bt271 => ((law_orders.f k).bind fun t277 => (if t277 = true then (if bt271.2.1 = 0 then ((ref_In.f a2 0 (wrap64 ((bt271.1.length : Int) - 1))).bind fun t278 => (if t278 = true then ((ref_In.f a3 0 (wrap64 ((bt271.1.length : Int) - 1))).bind fun t279 => (if t279 = true then (law_ArrangeWantedFirst.j0 k l0 l1 a2 a3 bt271.1 (decide (a2 ≥ a3)) bt271.2.1 bt271.2.2) else (law_ArrangeWantedFirst.j0 k l0 l1 a2 a3 bt271.1 true bt271.2.1 bt271.2.2))) else (law_ArrangeWantedFirst.j0 k l0 l1 a2 a3 bt271.1 true bt271.2.1 bt271.2.2))) else (law_ArrangeWantedFirst.j0 k l0 l1 a2 a3 bt271.1 true bt271.2.1 bt271.2.2)) else (law_ArrangeWantedFirst.j0 k l0 l1 a2 a3 bt271.1 true bt271.2.1 bt271.2.2)))) = some r := h
 clear h
 replace H := Option.bind_eq_some_iff.mp H
 obtain ⟨⟨t271, t274, t275⟩, A50, H⟩ := H
 replace H : ((law_orders.f k).bind fun t277 => (if t277 = true then (if t274 = 0 then ((ref_In.f a2 0 (wrap64 ((t271.length : Int) - 1))).bind fun t278 => (if t278 = true then ((ref_In.f a3 0 (wrap64 ((t271.length : Int) - 1))).bind fun t279 => (if t279 = true then (law_ArrangeWantedFirst.j0 k l0 l1 a2 a3 t271 (decide (a2 ≥ a3)) t274 t275) else (law_ArrangeWantedFirst.j0 k l0 l1 a2 a3 t271 true t274 t275))) else (law_ArrangeWantedFirst.j0 k l0 l1 a2 a3 t271 true t274 t275))) else (law_ArrangeWantedFirst.j0 k l0 l1 a2 a3 t271 true t274 t275)) else (law_ArrangeWantedFirst.j0 k l0 l1 a2 a3 t271 true t274 t275))) = some r := H
 have A5 := Aside0.mk A50
 clear A50
 have HC6 := Aside0.mk H
 clear H
 go_enter Try.func6, Try.ntmps6
 go_upto_region 2 with (first | (go_at_call 9; (with_reducible refine (arrange_ByNames.calls _ _ l0 _ _ l1 t271 t274 t275 _ ?side1 ?side2 ?side3 ?side4 A5.out).mono ?_); (case side1 => exact qCn HR0); (case side2 => exact HC0.out); (case side3 => exact qCn HR1); (case side4 => exact HC1.out); rintro e w7 ⟨v272, rfl, ho0, hb⟩; refine up2 (am (Kd.R_lower ho0 (below_size qB))) (bH hb) ?_; clear HB; intro HO273 HB; (try clear hb); (try clear hb2); (try clear hk); (try clear hi); (try clear ho0)) | ((with_reducible refine gate_dst (N := 10) rfl ?_); (try (refine gate_guard (by rfl) ?_; dsimp only)); refine qX (N := 10) (cs := #[.int .i64 0, .int .i64 0]) (t := 24) ?_; intro gb276 hg w8 hbox hb; refine up5 (am (Kd.R_below (qR HO273) hb)) (bH hb) (am hbox) (bW hg) (bW hg) ?_; clear HO273 HB hb hbox hg; intro HO273 HB BK276 GW276 GE276; have hcz9 := blkC2 BK276.out) | ((with_reducible refine gate_draws ?_); go_quiet (first | (go_at_call 9; (with_reducible refine (arrange_ByNames.calls _ _ l0 _ _ l1 t271 t274 t275 _ ?side1 ?side2 ?side3 ?side4 A5.out).mono ?_); (case side1 => exact qCn HR0); (case side2 => exact HC0.out); (case side3 => exact qCn HR1); (case side4 => exact HC1.out); rintro e w7 ⟨v272, rfl, ho0, hb⟩; refine up2 (am (Kd.R_lower ho0 (below_size qB))) (bH hb) ?_; clear HB; intro HO273 HB; (try clear hb); (try clear hb2); (try clear hk); (try clear hi); (try clear ho0)))))
 (try simp only [Act.put, List.setIfInBounds_toArray, List.set_cons_zero, List.set_cons_succ])
 go_cut [47] (fun v47 wc => ∃ (kq : Nat) (x47_5 : Bool), v47 = .bool x47_5 ∧ Aside0 (law_ArrangeWantedFirst.j0 kq l0 l1 a2 a3 t271 x47_5 t274 t275 = some r) ∧ Aside0 (kq ≤ k) ∧ Aside0 (Kd.R (Kd.int .i64) 3 wc w.heap.size (fun _ => True) v272 t271) ∧ Aside0 (wc.heap[gb276]? = some (.cells #[.int .i64 t274, .int .i64 t275] 24 (0, 0))) ∧ Aside0 (Below w.heap.size w wc))
 case first =>
  have H := HC6.out
  clear HC6
  replace H := Option.bind_eq_some_iff.mp H
  obtain ⟨t277, A100, H⟩ := H
  replace H : (if t277 = true then (if t274 = 0 then ((ref_In.f a2 0 (wrap64 ((t271.length : Int) - 1))).bind fun t278 => (if t278 = true then ((ref_In.f a3 0 (wrap64 ((t271.length : Int) - 1))).bind fun t279 => (if t279 = true then (law_ArrangeWantedFirst.j0 k l0 l1 a2 a3 t271 (decide (a2 ≥ a3)) t274 t275) else (law_ArrangeWantedFirst.j0 k l0 l1 a2 a3 t271 true t274 t275))) else (law_ArrangeWantedFirst.j0 k l0 l1 a2 a3 t271 true t274 t275))) else (law_ArrangeWantedFirst.j0 k l0 l1 a2 a3 t271 true t274 t275)) else (law_ArrangeWantedFirst.j0 k l0 l1 a2 a3 t271 true t274 t275)) = some r := H
  have A10 := Aside0.mk A100
  clear A100
  by_cases c11 : t277 = true
  ·subst c11
   have H1 : (if t274 = 0 then ((ref_In.f a2 0 (wrap64 ((t271.length : Int) - 1))).bind fun t278 => (if t278 = true then ((ref_In.f a3 0 (wrap64 ((t271.length : Int) - 1))).bind fun t279 => (if t279 = true then (law_ArrangeWantedFirst.j0 k l0 l1 a2 a3 t271 (decide (a2 ≥ a3)) t274 t275) else (law_ArrangeWantedFirst.j0 k l0 l1 a2 a3 t271 true t274 t275))) else (law_ArrangeWantedFirst.j0 k l0 l1 a2 a3 t271 true t274 t275))) else (law_ArrangeWantedFirst.j0 k l0 l1 a2 a3 t271 true t274 t275)) = some r := by rw [if_pos rfl] at H; exact H
   clear H
   have H := H1
   clear H1
   by_cases c12 : t274 = 0
   ·rw [if_pos c12] at H
    have c12b0 : (t274 == 0) = true := beq_iff_eq.mpr c12
    have c12b1 : (t274 != 0) = false := bne_eq_false_iff_eq.mpr c12
    clear c12
    (first | rw [c12b0] | (simp only [i64_w, i32_w]; rw [c12b0]) | skip)
    replace H := Option.bind_eq_some_iff.mp H
    obtain ⟨t278, A130, H⟩ := H
    replace H : (if t278 = true then ((ref_In.f a3 0 (wrap64 ((t271.length : Int) - 1))).bind fun t279 => (if t279 = true then (law_ArrangeWantedFirst.j0 k l0 l1 a2 a3 t271 (decide (a2 ≥ a3)) t274 t275) else (law_ArrangeWantedFirst.j0 k l0 l1 a2 a3 t271 true t274 t275))) else (law_ArrangeWantedFirst.j0 k l0 l1 a2 a3 t271 true t274 t275)) = some r := H
    have A13 := Aside0.mk A130
    clear A130
    by_cases c14 : t278 = true
    ·subst c14
     have H1 : ((ref_In.f a3 0 (wrap64 ((t271.length : Int) - 1))).bind fun t279 => (if t279 = true then (law_ArrangeWantedFirst.j0 k l0 l1 a2 a3 t271 (decide (a2 ≥ a3)) t274 t275) else (law_ArrangeWantedFirst.j0 k l0 l1 a2 a3 t271 true t274 t275))) = some r := by rw [if_pos rfl] at H; exact H
     clear H
     have H := H1
     clear H1
     replace H := Option.bind_eq_some_iff.mp H
     obtain ⟨t279, A150, H⟩ := H
     replace H : (if t279 = true then (law_ArrangeWantedFirst.j0 k l0 l1 a2 a3 t271 (decide (a2 ≥ a3)) t274 t275) else (law_ArrangeWantedFirst.j0 k l0 l1 a2 a3 t271 true t274 t275)) = some r := H
     have A15 := Aside0.mk A150
     clear A150
     by_cases c16 : t279 = true
     ·subst c16
      have H1 : (law_ArrangeWantedFirst.j0 k l0 l1 a2 a3 t271 (decide (a2 ≥ a3)) t274 t275) = some r := by rw [if_pos rfl] at H; exact H
      clear H
      have H := H1
      clear H1
      have H' := Aside0.mk H
      clear H
      go_wp2_with (first | (go_at_call 10; (with_reducible refine (law_orders.calls k  true _ A10.out).mono ?_); rintro e w17 ⟨rfl, hb⟩; refine up3 (am (Kd.R_below (by (with_reducible repeat (first | apply Kd.R_alloc | apply Kd.R_drewN | apply Kd.R_drew)); exact (Kd.R_mono (Kd.R_far (p := ⟨gb276, 1, none⟩) (Kd.R_far (p := ⟨gb276, 0, none⟩) (Kd.R_types HO273.out BK276.out (by decide)) (fun _ hk => hk.2) (.int .i64 t274)) (fun _ hk => hk.2) (.int .i64 t275)) (fun _ h_ => h_.1))) hb)) (bP (o := .cells #[.int .i64 t274, .int .i64 t275] 24 (0, 0)) BK276 hb) (bH hb) ?_; clear HO273 BK276 HB; intro HO273 BK276 HB; (try clear hb); (try clear hb2); (try clear hk); (try clear hi); have hcz18 := blkC2 BK276.out; obtain ⟨Ao19, co19, eo19⟩ := Kd.R_slice HO273.out; subst eo19) | (go_at_call 13; (with_reducible refine (ref_In.calls a2 0 (wrap64 ((t271.length : Int) - 1)) true _ A13.out).mono ?_); rintro e w' ⟨rfl, ⟨nd, rfl⟩⟩; (try exact qD)) | (go_at_call 13; (with_reducible refine (ref_In.calls a3 0 (wrap64 ((t271.length : Int) - 1)) true _ A15.out).mono ?_); rintro e w' ⟨rfl, ⟨nd, rfl⟩⟩; (try exact qD)) | ((with_reducible refine gate_draws ?_); go_quiet (first | (go_at_call 10; (with_reducible refine (law_orders.calls k  true _ A10.out).mono ?_); rintro e w17 ⟨rfl, hb⟩; refine up3 (am (Kd.R_below (by (with_reducible repeat (first | apply Kd.R_alloc | apply Kd.R_drewN | apply Kd.R_drew)); exact (Kd.R_mono (Kd.R_far (p := ⟨gb276, 1, none⟩) (Kd.R_far (p := ⟨gb276, 0, none⟩) (Kd.R_types HO273.out BK276.out (by decide)) (fun _ hk => hk.2) (.int .i64 t274)) (fun _ hk => hk.2) (.int .i64 t275)) (fun _ h_ => h_.1))) hb)) (bP (o := .cells #[.int .i64 t274, .int .i64 t275] 24 (0, 0)) BK276 hb) (bH hb) ?_; clear HO273 BK276 HB; intro HO273 BK276 HB; (try clear hb); (try clear hb2); (try clear hk); (try clear hi); have hcz18 := blkC2 BK276.out; obtain ⟨Ao19, co19, eo19⟩ := Kd.R_slice HO273.out; subst eo19) | (go_at_call 13; (with_reducible refine (ref_In.calls a2 0 (wrap64 ((t271.length : Int) - 1)) true _ A13.out).mono ?_); rintro e w' ⟨rfl, ⟨nd, rfl⟩⟩; (try exact qD)) | (go_at_call 13; (with_reducible refine (ref_In.calls a3 0 (wrap64 ((t271.length : Int) - 1)) true _ A15.out).mono ?_); rintro e w' ⟨rfl, ⟨nd, rfl⟩⟩; (try exact qD)))))
      go_meet
      case rel => exact ⟨_, (decide (a2 ≥ a3)), qF, H', ⟨by first | omega | exact Nat.le_refl _⟩, ⟨qR HO273⟩, ⟨qK BK276⟩, ⟨qB⟩⟩
     ·replace c16 := Bool.eq_false_iff.mpr c16
      subst c16
      have H1 : (law_ArrangeWantedFirst.j0 k l0 l1 a2 a3 t271 true t274 t275) = some r := by rw [if_neg (show ¬ (false = true) by decide)] at H; exact H
      clear H
      have H := H1
      clear H1
      have H' := Aside0.mk H
      clear H
      go_wp2_with (first | (go_at_call 10; (with_reducible refine (law_orders.calls k  true _ A10.out).mono ?_); rintro e w20 ⟨rfl, hb⟩; refine up3 (am (Kd.R_below (by (with_reducible repeat (first | apply Kd.R_alloc | apply Kd.R_drewN | apply Kd.R_drew)); exact (Kd.R_mono (Kd.R_far (p := ⟨gb276, 1, none⟩) (Kd.R_far (p := ⟨gb276, 0, none⟩) (Kd.R_types HO273.out BK276.out (by decide)) (fun _ hk => hk.2) (.int .i64 t274)) (fun _ hk => hk.2) (.int .i64 t275)) (fun _ h_ => h_.1))) hb)) (bP (o := .cells #[.int .i64 t274, .int .i64 t275] 24 (0, 0)) BK276 hb) (bH hb) ?_; clear HO273 BK276 HB; intro HO273 BK276 HB; (try clear hb); (try clear hb2); (try clear hk); (try clear hi); have hcz21 := blkC2 BK276.out; obtain ⟨Ao22, co22, eo22⟩ := Kd.R_slice HO273.out; subst eo22) | (go_at_call 13; (with_reducible refine (ref_In.calls a2 0 (wrap64 ((t271.length : Int) - 1)) true _ A13.out).mono ?_); rintro e w' ⟨rfl, ⟨nd, rfl⟩⟩; (try exact qD)) | (go_at_call 13; (with_reducible refine (ref_In.calls a3 0 (wrap64 ((t271.length : Int) - 1)) false _ A15.out).mono ?_); rintro e w' ⟨rfl, ⟨nd, rfl⟩⟩; (try exact qD)) | ((with_reducible refine gate_draws ?_); go_quiet (first | (go_at_call 10; (with_reducible refine (law_orders.calls k  true _ A10.out).mono ?_); rintro e w20 ⟨rfl, hb⟩; refine up3 (am (Kd.R_below (by (with_reducible repeat (first | apply Kd.R_alloc | apply Kd.R_drewN | apply Kd.R_drew)); exact (Kd.R_mono (Kd.R_far (p := ⟨gb276, 1, none⟩) (Kd.R_far (p := ⟨gb276, 0, none⟩) (Kd.R_types HO273.out BK276.out (by decide)) (fun _ hk => hk.2) (.int .i64 t274)) (fun _ hk => hk.2) (.int .i64 t275)) (fun _ h_ => h_.1))) hb)) (bP (o := .cells #[.int .i64 t274, .int .i64 t275] 24 (0, 0)) BK276 hb) (bH hb) ?_; clear HO273 BK276 HB; intro HO273 BK276 HB; (try clear hb); (try clear hb2); (try clear hk); (try clear hi); have hcz21 := blkC2 BK276.out; obtain ⟨Ao22, co22, eo22⟩ := Kd.R_slice HO273.out; subst eo22) | (go_at_call 13; (with_reducible refine (ref_In.calls a2 0 (wrap64 ((t271.length : Int) - 1)) true _ A13.out).mono ?_); rintro e w' ⟨rfl, ⟨nd, rfl⟩⟩; (try exact qD)) | (go_at_call 13; (with_reducible refine (ref_In.calls a3 0 (wrap64 ((t271.length : Int) - 1)) false _ A15.out).mono ?_); rintro e w' ⟨rfl, ⟨nd, rfl⟩⟩; (try exact qD)))))
      go_meet
      case rel => exact ⟨_, (true), qF, H', ⟨by first | omega | exact Nat.le_refl _⟩, ⟨qR HO273⟩, ⟨qK BK276⟩, ⟨qB⟩⟩
    ·replace c14 := Bool.eq_false_iff.mpr c14
     subst c14
     have H1 : (law_ArrangeWantedFirst.j0 k l0 l1 a2 a3 t271 true t274 t275) = some r := by rw [if_neg (show ¬ (false = true) by decide)] at H; exact H
     clear H
     have H := H1
     clear H1
     have H' := Aside0.mk H
     clear H
     go_wp2_with (first | (go_at_call 10; (with_reducible refine (law_orders.calls k  true _ A10.out).mono ?_); rintro e w23 ⟨rfl, hb⟩; refine up3 (am (Kd.R_below (by (with_reducible repeat (first | apply Kd.R_alloc | apply Kd.R_drewN | apply Kd.R_drew)); exact (Kd.R_mono (Kd.R_far (p := ⟨gb276, 1, none⟩) (Kd.R_far (p := ⟨gb276, 0, none⟩) (Kd.R_types HO273.out BK276.out (by decide)) (fun _ hk => hk.2) (.int .i64 t274)) (fun _ hk => hk.2) (.int .i64 t275)) (fun _ h_ => h_.1))) hb)) (bP (o := .cells #[.int .i64 t274, .int .i64 t275] 24 (0, 0)) BK276 hb) (bH hb) ?_; clear HO273 BK276 HB; intro HO273 BK276 HB; (try clear hb); (try clear hb2); (try clear hk); (try clear hi); have hcz24 := blkC2 BK276.out; obtain ⟨Ao25, co25, eo25⟩ := Kd.R_slice HO273.out; subst eo25) | (go_at_call 13; (with_reducible refine (ref_In.calls a2 0 (wrap64 ((t271.length : Int) - 1)) false _ A13.out).mono ?_); rintro e w' ⟨rfl, ⟨nd, rfl⟩⟩; (try exact qD)) | ((with_reducible refine gate_draws ?_); go_quiet (first | (go_at_call 10; (with_reducible refine (law_orders.calls k  true _ A10.out).mono ?_); rintro e w23 ⟨rfl, hb⟩; refine up3 (am (Kd.R_below (by (with_reducible repeat (first | apply Kd.R_alloc | apply Kd.R_drewN | apply Kd.R_drew)); exact (Kd.R_mono (Kd.R_far (p := ⟨gb276, 1, none⟩) (Kd.R_far (p := ⟨gb276, 0, none⟩) (Kd.R_types HO273.out BK276.out (by decide)) (fun _ hk => hk.2) (.int .i64 t274)) (fun _ hk => hk.2) (.int .i64 t275)) (fun _ h_ => h_.1))) hb)) (bP (o := .cells #[.int .i64 t274, .int .i64 t275] 24 (0, 0)) BK276 hb) (bH hb) ?_; clear HO273 BK276 HB; intro HO273 BK276 HB; (try clear hb); (try clear hb2); (try clear hk); (try clear hi); have hcz24 := blkC2 BK276.out; obtain ⟨Ao25, co25, eo25⟩ := Kd.R_slice HO273.out; subst eo25) | (go_at_call 13; (with_reducible refine (ref_In.calls a2 0 (wrap64 ((t271.length : Int) - 1)) false _ A13.out).mono ?_); rintro e w' ⟨rfl, ⟨nd, rfl⟩⟩; (try exact qD)))))
     go_meet
     case rel => exact ⟨_, (true), qF, H', ⟨by first | omega | exact Nat.le_refl _⟩, ⟨qR HO273⟩, ⟨qK BK276⟩, ⟨qB⟩⟩
   ·rw [if_neg c12] at H
    have c12b0 : (t274 == 0) = false := beq_eq_false_iff_ne.mpr c12
    have c12b1 : (t274 != 0) = true := bne_iff_ne.mpr c12
    (first | rw [c12b0] | (simp only [i64_w, i32_w]; rw [c12b0]) | skip)
    have H' := Aside0.mk H
    clear H
    go_wp2_with (first | (go_at_call 10; (with_reducible refine (law_orders.calls k  true _ A10.out).mono ?_); rintro e w26 ⟨rfl, hb⟩; refine up3 (am (Kd.R_below (by (with_reducible repeat (first | apply Kd.R_alloc | apply Kd.R_drewN | apply Kd.R_drew)); exact (Kd.R_mono (Kd.R_far (p := ⟨gb276, 1, none⟩) (Kd.R_far (p := ⟨gb276, 0, none⟩) (Kd.R_types HO273.out BK276.out (by decide)) (fun _ hk => hk.2) (.int .i64 t274)) (fun _ hk => hk.2) (.int .i64 t275)) (fun _ h_ => h_.1))) hb)) (bP (o := .cells #[.int .i64 t274, .int .i64 t275] 24 (0, 0)) BK276 hb) (bH hb) ?_; clear HO273 BK276 HB; intro HO273 BK276 HB; (try clear hb); (try clear hb2); (try clear hk); (try clear hi); have hcz27 := blkC2 BK276.out) | ((with_reducible refine gate_draws ?_); go_quiet (first | (go_at_call 10; (with_reducible refine (law_orders.calls k  true _ A10.out).mono ?_); rintro e w26 ⟨rfl, hb⟩; refine up3 (am (Kd.R_below (by (with_reducible repeat (first | apply Kd.R_alloc | apply Kd.R_drewN | apply Kd.R_drew)); exact (Kd.R_mono (Kd.R_far (p := ⟨gb276, 1, none⟩) (Kd.R_far (p := ⟨gb276, 0, none⟩) (Kd.R_types HO273.out BK276.out (by decide)) (fun _ hk => hk.2) (.int .i64 t274)) (fun _ hk => hk.2) (.int .i64 t275)) (fun _ h_ => h_.1))) hb)) (bP (o := .cells #[.int .i64 t274, .int .i64 t275] 24 (0, 0)) BK276 hb) (bH hb) ?_; clear HO273 BK276 HB; intro HO273 BK276 HB; (try clear hb); (try clear hb2); (try clear hk); (try clear hi); have hcz27 := blkC2 BK276.out))))
    go_meet
    case rel => exact ⟨_, (true), qF, H', ⟨by first | omega | exact Nat.le_refl _⟩, ⟨qR HO273⟩, ⟨qK BK276⟩, ⟨qB⟩⟩
  ·replace c11 := Bool.eq_false_iff.mpr c11
   subst c11
   have H1 : (law_ArrangeWantedFirst.j0 k l0 l1 a2 a3 t271 true t274 t275) = some r := by rw [if_neg (show ¬ (false = true) by decide)] at H; exact H
   clear H
   have H := H1
   clear H1
   have H' := Aside0.mk H
   clear H
   go_wp2_with (first | (go_at_call 10; (with_reducible refine (law_orders.calls k  false _ A10.out).mono ?_); rintro e w28 ⟨rfl, hb⟩; refine up3 (am (Kd.R_below (by (with_reducible repeat (first | apply Kd.R_alloc | apply Kd.R_drewN | apply Kd.R_drew)); exact (Kd.R_mono (Kd.R_far (p := ⟨gb276, 1, none⟩) (Kd.R_far (p := ⟨gb276, 0, none⟩) (Kd.R_types HO273.out BK276.out (by decide)) (fun _ hk => hk.2) (.int .i64 t274)) (fun _ hk => hk.2) (.int .i64 t275)) (fun _ h_ => h_.1))) hb)) (bP (o := .cells #[.int .i64 t274, .int .i64 t275] 24 (0, 0)) BK276 hb) (bH hb) ?_; clear HO273 BK276 HB; intro HO273 BK276 HB; (try clear hb); (try clear hb2); (try clear hk); (try clear hi)) | ((with_reducible refine gate_draws ?_); go_quiet (first | (go_at_call 10; (with_reducible refine (law_orders.calls k  false _ A10.out).mono ?_); rintro e w28 ⟨rfl, hb⟩; refine up3 (am (Kd.R_below (by (with_reducible repeat (first | apply Kd.R_alloc | apply Kd.R_drewN | apply Kd.R_drew)); exact (Kd.R_mono (Kd.R_far (p := ⟨gb276, 1, none⟩) (Kd.R_far (p := ⟨gb276, 0, none⟩) (Kd.R_types HO273.out BK276.out (by decide)) (fun _ hk => hk.2) (.int .i64 t274)) (fun _ hk => hk.2) (.int .i64 t275)) (fun _ h_ => h_.1))) hb)) (bP (o := .cells #[.int .i64 t274, .int .i64 t275] 24 (0, 0)) BK276 hb) (bH hb) ?_; clear HO273 BK276 HB; intro HO273 BK276 HB; (try clear hb); (try clear hb2); (try clear hk); (try clear hi)))))
   go_meet
   case rel => exact ⟨_, (true), qF, H', ⟨by first | omega | exact Nat.le_refl _⟩, ⟨qR HO273⟩, ⟨qK BK276⟩, ⟨qB⟩⟩
 case rest =>
  clear HC6
  try clear c1
  try clear p2
  try clear c6
  try clear p6
  try clear c11
  try clear c12
  try clear c12b0
  try clear c12b1
  try clear c14
  try clear c16
  try clear hcz18
  try clear hcz21
  try clear hcz24
  try clear hcz27
  try clear hcz9
  obtain ⟨kq, x47_5, rfl, HA, HJ5, HO_9, BK276, HB⟩ := hcut
  cases kq with
  | zero => exact absurd HA.out (by simp [law_ArrangeWantedFirst.j0])
  | succ kj5 =>
   have H := HA.out
   clear HA
   simp only [law_ArrangeWantedFirst.j0] at H
   by_cases c29 : x47_5 = true
   ·subst c29
    have H1 : ((law_orders.f kj5).bind fun t280 => (if t280 = true then (if t274 = 0 then (some true) else (some ((t271.length : Int) == 0))) else (none))) = some r := by rw [if_pos rfl] at H; exact H
    clear H
    have H := H1
    clear H1
    replace H := Option.bind_eq_some_iff.mp H
    obtain ⟨t280, A300, H⟩ := H
    replace H : (if t280 = true then (if t274 = 0 then (some true) else (some ((t271.length : Int) == 0))) else (none)) = some r := H
    have A30 := Aside0.mk A300
    clear A300
    by_cases c31 : t280 = true
    ·subst c31
     have H1 : (if t274 = 0 then (some true) else (some ((t271.length : Int) == 0))) = some r := by rw [if_pos rfl] at H; exact H
     clear H
     have H := H1
     clear H1
     by_cases c32 : t274 = 0
     ·rw [if_pos c32] at H
      have c32b0 : (t274 == 0) = true := beq_iff_eq.mpr c32
      have c32b1 : (t274 != 0) = false := bne_eq_false_iff_eq.mpr c32
      clear c32
      obtain rfl := Option.some.inj H
      go_wp2_with (first | (go_at_call 10; (with_reducible refine (law_orders.calls kj5  true _ A30.out).mono ?_); rintro e w33 ⟨rfl, hb⟩; refine up3 (am (Kd.R_below (qR HO_9) hb)) (bB BK276 hb) (bH hb) ?_; clear HO_9 BK276 HB; intro HO_9 BK276 HB; (try clear hb); (try clear hb2); (try clear hk); (try clear hi); have hcz34 := blkC2 BK276.out) | ((with_reducible refine gate_draws ?_); go_quiet (first | (go_at_call 10; (with_reducible refine (law_orders.calls kj5  true _ A30.out).mono ?_); rintro e w33 ⟨rfl, hb⟩; refine up3 (am (Kd.R_below (qR HO_9) hb)) (bB BK276 hb) (bH hb) ?_; clear HO_9 BK276 HB; intro HO_9 BK276 HB; (try clear hb); (try clear hb2); (try clear hk); (try clear hi); have hcz34 := blkC2 BK276.out))))
      go_ret
      exact ⟨qE, qB⟩
     ·rw [if_neg c32] at H
      have c32b0 : (t274 == 0) = false := beq_eq_false_iff_ne.mpr c32
      have c32b1 : (t274 != 0) = true := bne_iff_ne.mpr c32
      obtain rfl := Option.some.inj H
      go_wp2_with (first | (go_at_call 10; (with_reducible refine (law_orders.calls kj5  true _ A30.out).mono ?_); rintro e w35 ⟨rfl, hb⟩; refine up3 (am (Kd.R_below (qR HO_9) hb)) (bB BK276 hb) (bH hb) ?_; clear HO_9 BK276 HB; intro HO_9 BK276 HB; (try clear hb); (try clear hb2); (try clear hk); (try clear hi); have hcz36 := blkC2 BK276.out; obtain ⟨Ao37, co37, eo37⟩ := Kd.R_slice HO_9.out; subst eo37) | ((with_reducible refine gate_draws ?_); go_quiet (first | (go_at_call 10; (with_reducible refine (law_orders.calls kj5  true _ A30.out).mono ?_); rintro e w35 ⟨rfl, hb⟩; refine up3 (am (Kd.R_below (qR HO_9) hb)) (bB BK276 hb) (bH hb) ?_; clear HO_9 BK276 HB; intro HO_9 BK276 HB; (try clear hb); (try clear hb2); (try clear hk); (try clear hi); have hcz36 := blkC2 BK276.out; obtain ⟨Ao37, co37, eo37⟩ := Kd.R_slice HO_9.out; subst eo37))))
      go_ret
      exact ⟨qE, qB⟩
    ·replace c31 := Bool.eq_false_iff.mpr c31
     subst c31
     have H1 : (none) = some r := by rw [if_neg (show ¬ (false = true) by decide)] at H; exact H
     clear H
     have H := H1
     clear H1
     exact absurd H (by simp)
   ·replace c29 := Bool.eq_false_iff.mpr c29
    subst c29
    have H1 : (if 0 ≤ a2 then (if a2 < (t271.length : Int) then ((ref_In.f (rd t271 a2) 0 (wrap64 ((l0.length : Int) - 1))).bind fun t282 => (if t282 = true then (if 0 ≤ a3 then (if a3 < (t271.length : Int) then ((ref_In.f (rd t271 a3) 0 (wrap64 ((l0.length : Int) - 1))).bind fun t284 => (law_ArrangeWantedFirst.j1 kj5 l0 l1 a2 a3 t271 (!t284))) else (none)) else (none)) else (law_ArrangeWantedFirst.j1 kj5 l0 l1 a2 a3 t271 true))) else (none)) else (none)) = some r := by rw [if_neg (show ¬ (false = true) by decide)] at H; exact H
    clear H
    have H := H1
    clear H1
    have HC38 := Aside0.mk H
    clear H
    go_upto_region 4 with (first | ((with_reducible refine gate_draws ?_); go_quiet (fail)))
    go_cut [78] (fun v78 wc => ∃ (kq : Nat) (x78_37 : Bool), v78 = .bool x78_37 ∧ Aside0 (law_ArrangeWantedFirst.j1 kq l0 l1 a2 a3 t271 x78_37 = some r) ∧ Aside0 (kq ≤ kj5) ∧ Aside0 (Kd.R (Kd.int .i64) 3 wc w.heap.size (fun _ => True) v272 t271) ∧ Aside0 (wc.heap[gb276]? = some (.cells #[.int .i64 t274, .int .i64 t275] 24 (0, 0))) ∧ Aside0 (Below w.heap.size w wc))
    case first =>
     have H := HC38.out
     clear HC38
     by_cases c39 : 0 ≤ a2
     ·rw [if_pos c39] at H
      have c39b0 : decide (0 ≤ a2) = true := decide_eq_true c39
      clear c39
      (first | rw [c39b0] | (simp only [i64_w, i32_w]; rw [c39b0]) | skip)
      by_cases c40 : a2 < (t271.length : Int)
      ·rw [if_pos c40] at H
       have c40b0 : decide (a2 < (t271.length : Int)) = true := decide_eq_true c40
       clear c40
       replace H := Option.bind_eq_some_iff.mp H
       obtain ⟨t282, A410, H⟩ := H
       replace H : (if t282 = true then (if 0 ≤ a3 then (if a3 < (t271.length : Int) then ((ref_In.f (rd t271 a3) 0 (wrap64 ((l0.length : Int) - 1))).bind fun t284 => (law_ArrangeWantedFirst.j1 kj5 l0 l1 a2 a3 t271 (!t284))) else (none)) else (none)) else (law_ArrangeWantedFirst.j1 kj5 l0 l1 a2 a3 t271 true)) = some r := H
       have A41 := Aside0.mk A410
       clear A410
       by_cases c42 : t282 = true
       ·subst c42
        have H1 : (if 0 ≤ a3 then (if a3 < (t271.length : Int) then ((ref_In.f (rd t271 a3) 0 (wrap64 ((l0.length : Int) - 1))).bind fun t284 => (law_ArrangeWantedFirst.j1 kj5 l0 l1 a2 a3 t271 (!t284))) else (none)) else (none)) = some r := by rw [if_pos rfl] at H; exact H
        clear H
        have H := H1
        clear H1
        by_cases c43 : 0 ≤ a3
        ·rw [if_pos c43] at H
         have c43b0 : decide (0 ≤ a3) = true := decide_eq_true c43
         clear c43
         by_cases c44 : a3 < (t271.length : Int)
         ·rw [if_pos c44] at H
          have c44b0 : decide (a3 < (t271.length : Int)) = true := decide_eq_true c44
          clear c44
          replace H := Option.bind_eq_some_iff.mp H
          obtain ⟨t284, A450, H⟩ := H
          replace H : (law_ArrangeWantedFirst.j1 kj5 l0 l1 a2 a3 t271 (!t284)) = some r := H
          have A45 := Aside0.mk A450
          clear A450
          have H' := Aside0.mk H
          clear H
          obtain ⟨Ao46, co46, eo46⟩ := Kd.R_slice HO_9.out
          subst eo46
          have p281 : 0 ≤ (a2 : Int) := of_decide_eq_true qO
          have q281 : a2 < (t271.length : Int) := of_decide_eq_true qO
          obtain ⟨ad281, e281, hx281_0⟩ := Kd.at_int (Kd.R_reads' HO_9.out).2.2 a2 p281 q281
          cases e281
          replace p281 := eq_true p281
          replace q281 := eq_true q281
          go_wp2_with (first | (go_at_call 13; (with_reducible refine (ref_In.calls (rd t271 a2) 0 (wrap64 ((l0.length : Int) - 1)) true _ A41.out).mono ?_); rintro e w' ⟨rfl, ⟨nd, rfl⟩⟩; (try exact qD); have p283 : 0 ≤ (a3 : Int) := of_decide_eq_true qO; have q283 : a3 < (t271.length : Int) := of_decide_eq_true qO; obtain ⟨ad283, e283, hx283_0⟩ := Kd.at_int (Kd.R_reads' HO_9.out).2.2 a3 p283 q283; obtain rfl : ad281 = ad283 := (by injection e283); replace p283 := eq_true p283; replace q283 := eq_true q283) | (go_at_call 13; (with_reducible refine (ref_In.calls (rd t271 a3) 0 (wrap64 ((l0.length : Int) - 1)) t284 _ A45.out).mono ?_); rintro e w' ⟨rfl, ⟨nd, rfl⟩⟩; (try exact qD)) | ((with_reducible refine gate_draws ?_); go_quiet (first | (go_at_call 13; (with_reducible refine (ref_In.calls (rd t271 a2) 0 (wrap64 ((l0.length : Int) - 1)) true _ A41.out).mono ?_); rintro e w' ⟨rfl, ⟨nd, rfl⟩⟩; (try exact qD); have p283 : 0 ≤ (a3 : Int) := of_decide_eq_true qO; have q283 : a3 < (t271.length : Int) := of_decide_eq_true qO; obtain ⟨ad283, e283, hx283_0⟩ := Kd.at_int (Kd.R_reads' HO_9.out).2.2 a3 p283 q283; obtain rfl : ad281 = ad283 := (by injection e283); replace p283 := eq_true p283; replace q283 := eq_true q283) | (go_at_call 13; (with_reducible refine (ref_In.calls (rd t271 a3) 0 (wrap64 ((l0.length : Int) - 1)) t284 _ A45.out).mono ?_); rintro e w' ⟨rfl, ⟨nd, rfl⟩⟩; (try exact qD)))))
          go_meet
          case rel => exact ⟨_, (!t284), qF, H', ⟨by have := HJ5.out; first | omega | exact Nat.le_refl _⟩, ⟨qR HO_9⟩, ⟨qK BK276⟩, ⟨qB⟩⟩
         ·rw [if_neg c44] at H
          exact absurd H (by simp)
        ·rw [if_neg c43] at H
         exact absurd H (by simp)
       ·replace c42 := Bool.eq_false_iff.mpr c42
        subst c42
        have H1 : (law_ArrangeWantedFirst.j1 kj5 l0 l1 a2 a3 t271 true) = some r := by rw [if_neg (show ¬ (false = true) by decide)] at H; exact H
        clear H
        have H := H1
        clear H1
        have H' := Aside0.mk H
        clear H
        obtain ⟨Ao47, co47, eo47⟩ := Kd.R_slice HO_9.out
        subst eo47
        have p281 : 0 ≤ (a2 : Int) := of_decide_eq_true qO
        have q281 : a2 < (t271.length : Int) := of_decide_eq_true qO
        obtain ⟨ad281, e281, hx281_0⟩ := Kd.at_int (Kd.R_reads' HO_9.out).2.2 a2 p281 q281
        cases e281
        replace p281 := eq_true p281
        replace q281 := eq_true q281
        go_wp2_with (first | (go_at_call 13; (with_reducible refine (ref_In.calls (rd t271 a2) 0 (wrap64 ((l0.length : Int) - 1)) false _ A41.out).mono ?_); rintro e w' ⟨rfl, ⟨nd, rfl⟩⟩; (try exact qD)) | ((with_reducible refine gate_draws ?_); go_quiet (first | (go_at_call 13; (with_reducible refine (ref_In.calls (rd t271 a2) 0 (wrap64 ((l0.length : Int) - 1)) false _ A41.out).mono ?_); rintro e w' ⟨rfl, ⟨nd, rfl⟩⟩; (try exact qD)))))
        go_meet
        case rel => exact ⟨_, (true), qF, H', ⟨by have := HJ5.out; first | omega | exact Nat.le_refl _⟩, ⟨qR HO_9⟩, ⟨qK BK276⟩, ⟨qB⟩⟩
      ·rw [if_neg c40] at H
       exact absurd H (by simp)
     ·rw [if_neg c39] at H
      exact absurd H (by simp)
    case rest =>
     clear HC38
     try clear c1
     try clear c2
     try clear p2
     try clear q2
     try clear hx2
     try clear c3
     try clear c4
     try clear c6
     try clear p6
     try clear c11
     try clear c12
     try clear c12b0
     try clear c12b1
     try clear c14
     try clear c16
     try clear p28
     try clear q28
     try clear hx28
     try clear c29
     try clear c31
     try clear c32
     try clear c32b0
     try clear c32b1
     try clear c39
     try clear c39b0
     try clear c40
     try clear c40b0
     try clear c42
     try clear c43
     try clear c43b0
     try clear c44
     try clear c44b0
     try clear hcz18
     try clear hcz21
     try clear hcz24
     try clear hcz27
     try clear hcz34
     try clear hcz36
     try clear hcz9
     try clear hx281_0
     try clear hx283_0
     try clear p2
     try clear p281
     try clear p283
     try clear p6
     try clear q281
     try clear q283
     obtain ⟨kq, x78_37, rfl, HA, HJ37, HO_9, BK276, HB⟩ := hcut
     cases kq with
     | zero => exact absurd HA.out (by simp [law_ArrangeWantedFirst.j1])
     | succ kj37 =>
      have H := HA.out
      clear HA
      simp only [law_ArrangeWantedFirst.j1] at H
      by_cases c48 : x78_37 = true
      ·subst c48
       have H1 : (none) = some r := by rw [if_pos rfl] at H; exact H
       clear H
       have H := H1
       clear H1
       exact absurd H (by simp)
      ·replace c48 := Bool.eq_false_iff.mpr c48
       subst c48
       have H1 : (if 0 ≤ a2 then (if a2 < (t271.length : Int) then (if 0 ≤ (rd t271 a2) then (if (rd t271 a2) < (l0.length : Int) then (if 0 ≤ a3 then (if a3 < (t271.length : Int) then (if 0 ≤ (rd t271 a3) then (if (rd t271 a3) < (l0.length : Int) then (if (rdOf ByteArray.empty l0 (rd t271 a2)).toList = (rdOf ByteArray.empty l0 (rd t271 a3)).toList then (law_ArrangeWantedFirst.j2 kj37 l0 l1 a2 a3 t271 (decide ((rd t271 a2) > (rd t271 a3)))) else (law_ArrangeWantedFirst.j2 kj37 l0 l1 a2 a3 t271 false)) else (none)) else (none)) else (none)) else (none)) else (none)) else (none)) else (none)) else (none)) = some r := by rw [if_neg (show ¬ (false = true) by decide)] at H; exact H
       clear H
       have H := H1
       clear H1
       have HC49 := Aside0.mk H
       clear H
       go_upto_region 6 with (first | ((with_reducible refine gate_draws ?_); go_quiet (fail)))
       go_cut [104] (fun v104 wc => ∃ (kq : Nat) (x104_48 : Bool), v104 = .bool x104_48 ∧ Aside0 (law_ArrangeWantedFirst.j2 kq l0 l1 a2 a3 t271 x104_48 = some r) ∧ Aside0 (kq ≤ kj37) ∧ Aside0 (Kd.R (Kd.int .i64) 3 wc w.heap.size (fun _ => True) v272 t271) ∧ Aside0 (wc.heap[gb276]? = some (.cells #[.int .i64 t274, .int .i64 t275] 24 (0, 0))) ∧ Aside0 (Below w.heap.size w wc))
       case first =>
        have H := HC49.out
        clear HC49
        by_cases c50 : 0 ≤ a2
        ·rw [if_pos c50] at H
         have c50b0 : decide (0 ≤ a2) = true := decide_eq_true c50
         clear c50
         (first | rw [c50b0] | (simp only [i64_w, i32_w]; rw [c50b0]) | skip)
         by_cases c51 : a2 < (t271.length : Int)
         ·rw [if_pos c51] at H
          have c51b0 : decide (a2 < (t271.length : Int)) = true := decide_eq_true c51
          clear c51
          by_cases c52 : 0 ≤ (rd t271 a2)
          ·rw [if_pos c52] at H
           have c52b0 : decide (0 ≤ (rd t271 a2)) = true := decide_eq_true c52
           clear c52
           by_cases c53 : (rd t271 a2) < (l0.length : Int)
           ·rw [if_pos c53] at H
            have c53b0 : decide ((rd t271 a2) < (l0.length : Int)) = true := decide_eq_true c53
            clear c53
            by_cases c54 : 0 ≤ a3
            ·rw [if_pos c54] at H
             have c54b0 : decide (0 ≤ a3) = true := decide_eq_true c54
             clear c54
             by_cases c55 : a3 < (t271.length : Int)
             ·rw [if_pos c55] at H
              have c55b0 : decide (a3 < (t271.length : Int)) = true := decide_eq_true c55
              clear c55
              by_cases c56 : 0 ≤ (rd t271 a3)
              ·rw [if_pos c56] at H
               have c56b0 : decide (0 ≤ (rd t271 a3)) = true := decide_eq_true c56
               clear c56
               by_cases c57 : (rd t271 a3) < (l0.length : Int)
               ·rw [if_pos c57] at H
                have c57b0 : decide ((rd t271 a3) < (l0.length : Int)) = true := decide_eq_true c57
                clear c57
                by_cases c58 : (rdOf ByteArray.empty l0 (rd t271 a2)).toList = (rdOf ByteArray.empty l0 (rd t271 a3)).toList
                ·rw [if_pos c58] at H
                 have c58b0 : ((rdOf ByteArray.empty l0 (rd t271 a2)).toList == (rdOf ByteArray.empty l0 (rd t271 a3)).toList) = true := beq_iff_eq.mpr c58
                 have c58b1 : ((rdOf ByteArray.empty l0 (rd t271 a2)).toList != (rdOf ByteArray.empty l0 (rd t271 a3)).toList) = false := bne_eq_false_iff_eq.mpr c58
                 clear c58
                 have H' := Aside0.mk H
                 clear H
                 obtain ⟨Ao59, co59, eo59⟩ := Kd.R_slice HO_9.out
                 subst eo59
                 have p285 : 0 ≤ (a2 : Int) := of_decide_eq_true qO
                 have q285 : a2 < (t271.length : Int) := of_decide_eq_true qO
                 obtain ⟨ad285, e285, hx285_0⟩ := Kd.at_int (Kd.R_reads' HO_9.out).2.2 a2 p285 q285
                 cases e285
                 replace p285 := eq_true p285
                 replace q285 := eq_true q285
                 have p286 : 0 ≤ ((rd t271 a2) : Int) := of_decide_eq_true qO
                 have q286 : (rd t271 a2) < (l0.length : Int) := of_decide_eq_true qO
                 obtain ⟨ad286, e286, hx286_0⟩ := Kd.at_string HR0.out (rd t271 a2) p286 q286
                 cases e286
                 replace hx286_0 := qH HB hx286_0
                 replace p286 := eq_true p286
                 replace q286 := eq_true q286
                 have p287 : 0 ≤ (a3 : Int) := of_decide_eq_true qO
                 have q287 : a3 < (t271.length : Int) := of_decide_eq_true qO
                 obtain ⟨ad287, e287, hx287_0⟩ := Kd.at_int (Kd.R_reads' HO_9.out).2.2 a3 p287 q287
                 obtain rfl : ad285 = ad287 := (by injection e287)
                 replace p287 := eq_true p287
                 replace q287 := eq_true q287
                 have p288 : 0 ≤ ((rd t271 a3) : Int) := of_decide_eq_true qO
                 have q288 : (rd t271 a3) < (l0.length : Int) := of_decide_eq_true qO
                 obtain ⟨ad288, e288, hx288_0⟩ := Kd.at_string HR0.out (rd t271 a3) p288 q288
                 obtain rfl : ad286 = ad288 := (by injection e288)
                 replace hx288_0 := qH HB hx288_0
                 replace p288 := eq_true p288
                 replace q288 := eq_true q288
                 have p289 : 0 ≤ (a2 : Int) := of_decide_eq_true qO
                 have q289 : a2 < (t271.length : Int) := of_decide_eq_true qO
                 obtain ⟨ad289, e289, hx289_0⟩ := Kd.at_int (Kd.R_reads' HO_9.out).2.2 a2 p289 q289
                 obtain rfl : ad285 = ad289 := (by injection e289)
                 replace p289 := eq_true p289
                 replace q289 := eq_true q289
                 have p290 : 0 ≤ (a3 : Int) := of_decide_eq_true qO
                 have q290 : a3 < (t271.length : Int) := of_decide_eq_true qO
                 obtain ⟨ad290, e290, hx290_0⟩ := Kd.at_int (Kd.R_reads' HO_9.out).2.2 a3 p290 q290
                 obtain rfl : ad285 = ad290 := (by injection e290)
                 replace p290 := eq_true p290
                 replace q290 := eq_true q290
                 go_wp2_with (first | go_in | ((with_reducible refine gate_draws ?_); go_quiet (fail)))
                 go_meet
                 case rel => exact ⟨_, (decide ((rd t271 a2) > (rd t271 a3))), qF, H', ⟨by have := HJ5.out; have := HJ37.out; first | omega | exact Nat.le_refl _⟩, ⟨qR HO_9⟩, ⟨qK BK276⟩, ⟨qB⟩⟩
                ·rw [if_neg c58] at H
                 have c58b0 : ((rdOf ByteArray.empty l0 (rd t271 a2)).toList == (rdOf ByteArray.empty l0 (rd t271 a3)).toList) = false := beq_eq_false_iff_ne.mpr c58
                 have c58b1 : ((rdOf ByteArray.empty l0 (rd t271 a2)).toList != (rdOf ByteArray.empty l0 (rd t271 a3)).toList) = true := bne_iff_ne.mpr c58
                 have H' := Aside0.mk H
                 clear H
                 obtain ⟨Ao60, co60, eo60⟩ := Kd.R_slice HO_9.out
                 subst eo60
                 have p285 : 0 ≤ (a2 : Int) := of_decide_eq_true qO
                 have q285 : a2 < (t271.length : Int) := of_decide_eq_true qO
                 obtain ⟨ad285, e285, hx285_0⟩ := Kd.at_int (Kd.R_reads' HO_9.out).2.2 a2 p285 q285
                 cases e285
                 replace p285 := eq_true p285
                 replace q285 := eq_true q285
                 have p286 : 0 ≤ ((rd t271 a2) : Int) := of_decide_eq_true qO
                 have q286 : (rd t271 a2) < (l0.length : Int) := of_decide_eq_true qO
                 obtain ⟨ad286, e286, hx286_0⟩ := Kd.at_string HR0.out (rd t271 a2) p286 q286
                 cases e286
                 replace hx286_0 := qH HB hx286_0
                 replace p286 := eq_true p286
                 replace q286 := eq_true q286
                 have p287 : 0 ≤ (a3 : Int) := of_decide_eq_true qO
                 have q287 : a3 < (t271.length : Int) := of_decide_eq_true qO
                 obtain ⟨ad287, e287, hx287_0⟩ := Kd.at_int (Kd.R_reads' HO_9.out).2.2 a3 p287 q287
                 obtain rfl : ad285 = ad287 := (by injection e287)
                 replace p287 := eq_true p287
                 replace q287 := eq_true q287
                 have p288 : 0 ≤ ((rd t271 a3) : Int) := of_decide_eq_true qO
                 have q288 : (rd t271 a3) < (l0.length : Int) := of_decide_eq_true qO
                 obtain ⟨ad288, e288, hx288_0⟩ := Kd.at_string HR0.out (rd t271 a3) p288 q288
                 obtain rfl : ad286 = ad288 := (by injection e288)
                 replace hx288_0 := qH HB hx288_0
                 replace p288 := eq_true p288
                 replace q288 := eq_true q288
                 go_wp2_with (first | go_in | ((with_reducible refine gate_draws ?_); go_quiet (fail)))
                 go_meet
                 case rel => exact ⟨_, (false), qF, H', ⟨by have := HJ5.out; have := HJ37.out; first | omega | exact Nat.le_refl _⟩, ⟨qR HO_9⟩, ⟨qK BK276⟩, ⟨qB⟩⟩
               ·rw [if_neg c57] at H
                exact absurd H (by simp)
              ·rw [if_neg c56] at H
               exact absurd H (by simp)
             ·rw [if_neg c55] at H
              exact absurd H (by simp)
            ·rw [if_neg c54] at H
             exact absurd H (by simp)
           ·rw [if_neg c53] at H
            exact absurd H (by simp)
          ·rw [if_neg c52] at H
           exact absurd H (by simp)
         ·rw [if_neg c51] at H
          exact absurd H (by simp)
        ·rw [if_neg c50] at H
         exact absurd H (by simp)
       case rest =>
        clear HC49
        try clear c1
        try clear c2
        try clear p2
        try clear q2
        try clear hx2
        try clear c3
        try clear c4
        try clear c5
        try clear c6
        try clear p6
        try clear c11
        try clear c12
        try clear c12b0
        try clear c12b1
        try clear c14
        try clear c16
        try clear p28
        try clear q28
        try clear hx28
        try clear c29
        try clear p29
        try clear q29
        try clear hx29
        try clear c31
        try clear c32
        try clear c32b0
        try clear c32b1
        try clear c39
        try clear c39b0
        try clear c40
        try clear c40b0
        try clear c42
        try clear c43
        try clear c43b0
        try clear c44
        try clear c44b0
        try clear c48
        try clear c50
        try clear c50b0
        try clear c51
        try clear c51b0
        try clear c52
        try clear c52b0
        try clear c53
        try clear c53b0
        try clear c54
        try clear c54b0
        try clear c55
        try clear c55b0
        try clear c56
        try clear c56b0
        try clear c57
        try clear c57b0
        try clear c58
        try clear c58b0
        try clear c58b1
        try clear hcz18
        try clear hcz21
        try clear hcz24
        try clear hcz27
        try clear hcz34
        try clear hcz36
        try clear hcz9
        try clear hx281_0
        try clear hx283_0
        try clear hx285_0
        try clear hx286_0
        try clear hx287_0
        try clear hx288_0
        try clear hx289_0
        try clear hx290_0
        try clear p2
        try clear p28
        try clear p281
        try clear p283
        try clear p285
        try clear p286
        try clear p287
        try clear p288
        try clear p289
        try clear p290
        try clear p6
        try clear q2
        try clear q28
        try clear q281
        try clear q283
        try clear q285
        try clear q286
        try clear q287
        try clear q288
        try clear q289
        try clear q290
        obtain ⟨kq, x104_48, rfl, HA, HJ48, HO_9, BK276, HB⟩ := hcut
        cases kq with
        | zero => exact absurd HA.out (by simp [law_ArrangeWantedFirst.j2])
        | succ kj48 =>
         have H := HA.out
         clear HA
         simp only [law_ArrangeWantedFirst.j2] at H
         by_cases c61 : x104_48 = true
         ·subst c61
          have H1 : (none) = some r := by rw [if_pos rfl] at H; exact H
          clear H
          have H := H1
          clear H1
          exact absurd H (by simp)
         ·replace c61 := Bool.eq_false_iff.mpr c61
          subst c61
          have H1 : (law_ArrangeWantedFirst.l0 kj48 l0 l1 a2 a3 t271 false false 0) = some r := by rw [if_neg (show ¬ (false = true) by decide)] at H; exact H
          clear H
          have H := H1
          clear H1
          have H' := Aside0.mk H
          clear H
          go_wp2_with (first | go_in | ((with_reducible refine gate_draws ?_); go_quiet (fail)))
          go_loopg [11, 12, 13] kj48 (fun kq v11 v12 v13 w' => ∃ (x11_4 : Bool) (x12_4 : Bool) (x13_4 : Int), v11 = .bool x11_4 ∧ v12 = .bool x12_4 ∧ v13 = .int .i64 x13_4 ∧ Aside0 (law_ArrangeWantedFirst.l0 kq l0 l1 a2 a3 t271 x11_4 x12_4 x13_4 = some r) ∧ Aside0 (kq ≤ kj48) ∧ Aside0 (Kd.R (Kd.int .i64) 3 w' w.heap.size (fun _ => True) v272 t271) ∧ Aside0 (w'.heap[gb276]? = some (.cells #[.int .i64 t274, .int .i64 t275] 24 (0, 0))) ∧ Aside0 (Below w.heap.size w w'))
          case atStart => exact ⟨(false), (false), (0), qF, qF, qF, H', ⟨Nat.le_refl _⟩, ⟨qR HO_9⟩, ⟨qK BK276⟩, ⟨qB⟩⟩
          case round =>
           clear H'
           try clear c1
           try clear c2
           try clear p2
           try clear q2
           try clear hx2
           try clear c3
           try clear c4
           try clear c5
           try clear c6
           try clear p6
           try clear c11
           try clear c12
           try clear c12b0
           try clear c12b1
           try clear c14
           try clear c16
           try clear p28
           try clear q28
           try clear hx28
           try clear c29
           try clear p29
           try clear q29
           try clear hx29
           try clear c31
           try clear c32
           try clear c32b0
           try clear c32b1
           try clear c39
           try clear c39b0
           try clear c40
           try clear c40b0
           try clear c42
           try clear c43
           try clear c43b0
           try clear c44
           try clear c44b0
           try clear c48
           try clear c50
           try clear c50b0
           try clear c51
           try clear c51b0
           try clear c52
           try clear c52b0
           try clear c53
           try clear c53b0
           try clear c54
           try clear c54b0
           try clear c55
           try clear c55b0
           try clear c56
           try clear c56b0
           try clear c57
           try clear c57b0
           try clear c58
           try clear c58b0
           try clear c58b1
           try clear c61
           try clear hcz18
           try clear hcz21
           try clear hcz24
           try clear hcz27
           try clear hcz34
           try clear hcz36
           try clear hcz9
           try clear hx281_0
           try clear hx283_0
           try clear hx285_0
           try clear hx286_0
           try clear hx287_0
           try clear hx288_0
           try clear hx289_0
           try clear hx290_0
           try clear p2
           try clear p28
           try clear p281
           try clear p283
           try clear p285
           try clear p286
           try clear p287
           try clear p288
           try clear p289
           try clear p29
           try clear p290
           try clear p6
           try clear q2
           try clear q28
           try clear q281
           try clear q283
           try clear q285
           try clear q286
           try clear q287
           try clear q288
           try clear q289
           try clear q29
           try clear q290
           obtain ⟨x11_4, x12_4, x13_4, rfl, rfl, rfl, HA, HK4, HO_9, BK276, HB⟩ := hrel
           cases gk with
           | zero => exact absurd HA.out (by simp [law_ArrangeWantedFirst.l0])
           | succ k4 =>
            have H := HA.out
            clear HA
            simp only [law_ArrangeWantedFirst.l0] at H
            by_cases c62 : x13_4 < (l1.length : Int)
            ·rw [if_pos c62] at H
             have c62b0 : decide (x13_4 < (l1.length : Int)) = true := decide_eq_true c62
             clear c62
             by_cases c63 : x11_4 = true
             ·subst c63
              have H1 : (if x12_4 = true then (law_ArrangeWantedFirst.l0 k4 l0 l1 a2 a3 t271 true true (wrap64 (x13_4 + 1))) else (if 0 ≤ x13_4 then (if 0 ≤ a3 then (if a3 < (t271.length : Int) then (if 0 ≤ (rd t271 a3) then (if (rd t271 a3) < (l0.length : Int) then (law_ArrangeWantedFirst.l0 k4 l0 l1 a2 a3 t271 true ((rdOf ByteArray.empty l1 x13_4).toList == (rdOf ByteArray.empty l0 (rd t271 a3)).toList) (wrap64 (x13_4 + 1))) else (none)) else (none)) else (none)) else (none)) else (none))) = some r := by rw [if_pos rfl] at H; exact H
              clear H
              have H := H1
              clear H1
              by_cases c64 : x12_4 = true
              ·subst c64
               have H1 : (law_ArrangeWantedFirst.l0 k4 l0 l1 a2 a3 t271 true true (wrap64 (x13_4 + 1))) = some r := by rw [if_pos rfl] at H; exact H
               clear H
               have H := H1
               clear H1
               have H' := Aside0.mk H
               clear H
               go_wp2_with (first | go_in | ((with_reducible refine gate_draws ?_); go_quiet (fail)))
               go_roundg k4
               case measure => have := HJ5.out; have := HJ37.out; have := HJ48.out; have := HK4.out; omega
               case rel => exact ⟨(true), (true), (wrap64 (x13_4 + 1)), qF, qF, qF, H', ⟨by have := HJ5.out; have := HJ37.out; have := HJ48.out; have := HK4.out; omega⟩, ⟨qR HO_9⟩, ⟨qK BK276⟩, ⟨qB⟩⟩
              ·replace c64 := Bool.eq_false_iff.mpr c64
               subst c64
               have H1 : (if 0 ≤ x13_4 then (if 0 ≤ a3 then (if a3 < (t271.length : Int) then (if 0 ≤ (rd t271 a3) then (if (rd t271 a3) < (l0.length : Int) then (law_ArrangeWantedFirst.l0 k4 l0 l1 a2 a3 t271 true ((rdOf ByteArray.empty l1 x13_4).toList == (rdOf ByteArray.empty l0 (rd t271 a3)).toList) (wrap64 (x13_4 + 1))) else (none)) else (none)) else (none)) else (none)) else (none)) = some r := by rw [if_neg (show ¬ (false = true) by decide)] at H; exact H
               clear H
               have H := H1
               clear H1
               by_cases c65 : 0 ≤ x13_4
               ·rw [if_pos c65] at H
                have c65b0 : decide (0 ≤ x13_4) = true := decide_eq_true c65
                clear c65
                by_cases c66 : 0 ≤ a3
                ·rw [if_pos c66] at H
                 have c66b0 : decide (0 ≤ a3) = true := decide_eq_true c66
                 clear c66
                 by_cases c67 : a3 < (t271.length : Int)
                 ·rw [if_pos c67] at H
                  have c67b0 : decide (a3 < (t271.length : Int)) = true := decide_eq_true c67
                  clear c67
                  by_cases c68 : 0 ≤ (rd t271 a3)
                  ·rw [if_pos c68] at H
                   have c68b0 : decide (0 ≤ (rd t271 a3)) = true := decide_eq_true c68
                   clear c68
                   by_cases c69 : (rd t271 a3) < (l0.length : Int)
                   ·rw [if_pos c69] at H
                    have c69b0 : decide ((rd t271 a3) < (l0.length : Int)) = true := decide_eq_true c69
                    clear c69
                    have H' := Aside0.mk H
                    clear H
                    have p291 : 0 ≤ (x13_4 : Int) := of_decide_eq_true qO
                    have q291 : x13_4 < (l1.length : Int) := of_decide_eq_true qO
                    obtain ⟨ad291, e291, hx291_0⟩ := Kd.at_string HR1.out x13_4 p291 q291
                    cases e291
                    replace hx291_0 := qH HB hx291_0
                    replace p291 := eq_true p291
                    replace q291 := eq_true q291
                    obtain ⟨Ao70, co70, eo70⟩ := Kd.R_slice HO_9.out
                    subst eo70
                    have p292 : 0 ≤ (a3 : Int) := of_decide_eq_true qO
                    have q292 : a3 < (t271.length : Int) := of_decide_eq_true qO
                    obtain ⟨ad292, e292, hx292_0⟩ := Kd.at_int (Kd.R_reads' HO_9.out).2.2 a3 p292 q292
                    cases e292
                    replace p292 := eq_true p292
                    replace q292 := eq_true q292
                    have p293 : 0 ≤ ((rd t271 a3) : Int) := of_decide_eq_true qO
                    have q293 : (rd t271 a3) < (l0.length : Int) := of_decide_eq_true qO
                    obtain ⟨ad293, e293, hx293_0⟩ := Kd.at_string HR0.out (rd t271 a3) p293 q293
                    cases e293
                    replace hx293_0 := qH HB hx293_0
                    replace p293 := eq_true p293
                    replace q293 := eq_true q293
                    go_wp2_with (first | go_in | ((with_reducible refine gate_draws ?_); go_quiet (fail)))
                    go_roundg k4
                    case measure => have := HJ5.out; have := HJ37.out; have := HJ48.out; have := HK4.out; omega
                    case rel => exact ⟨(true), (((rdOf ByteArray.empty l1 x13_4).toList == (rdOf ByteArray.empty l0 (rd t271 a3)).toList)), (wrap64 (x13_4 + 1)), qF, qF, qF, H', ⟨by have := HJ5.out; have := HJ37.out; have := HJ48.out; have := HK4.out; omega⟩, ⟨qR HO_9⟩, ⟨qK BK276⟩, ⟨qB⟩⟩
                   ·rw [if_neg c69] at H
                    exact absurd H (by simp)
                  ·rw [if_neg c68] at H
                   exact absurd H (by simp)
                 ·rw [if_neg c67] at H
                  exact absurd H (by simp)
                ·rw [if_neg c66] at H
                 exact absurd H (by simp)
               ·rw [if_neg c65] at H
                exact absurd H (by simp)
             ·replace c63 := Bool.eq_false_iff.mpr c63
              subst c63
              have H1 : (if 0 ≤ x13_4 then (if 0 ≤ a2 then (if a2 < (t271.length : Int) then (if 0 ≤ (rd t271 a2) then (if (rd t271 a2) < (l0.length : Int) then (if x12_4 = true then (law_ArrangeWantedFirst.l0 k4 l0 l1 a2 a3 t271 ((rdOf ByteArray.empty l1 x13_4).toList == (rdOf ByteArray.empty l0 (rd t271 a2)).toList) true (wrap64 (x13_4 + 1))) else (if 0 ≤ a3 then (if a3 < (t271.length : Int) then (if 0 ≤ (rd t271 a3) then (if (rd t271 a3) < (l0.length : Int) then (law_ArrangeWantedFirst.l0 k4 l0 l1 a2 a3 t271 ((rdOf ByteArray.empty l1 x13_4).toList == (rdOf ByteArray.empty l0 (rd t271 a2)).toList) ((rdOf ByteArray.empty l1 x13_4).toList == (rdOf ByteArray.empty l0 (rd t271 a3)).toList) (wrap64 (x13_4 + 1))) else (none)) else (none)) else (none)) else (none))) else (none)) else (none)) else (none)) else (none)) else (none)) = some r := by rw [if_neg (show ¬ (false = true) by decide)] at H; exact H
              clear H
              have H := H1
              clear H1
              by_cases c71 : 0 ≤ x13_4
              ·rw [if_pos c71] at H
               have c71b0 : decide (0 ≤ x13_4) = true := decide_eq_true c71
               clear c71
               by_cases c72 : 0 ≤ a2
               ·rw [if_pos c72] at H
                have c72b0 : decide (0 ≤ a2) = true := decide_eq_true c72
                clear c72
                by_cases c73 : a2 < (t271.length : Int)
                ·rw [if_pos c73] at H
                 have c73b0 : decide (a2 < (t271.length : Int)) = true := decide_eq_true c73
                 clear c73
                 by_cases c74 : 0 ≤ (rd t271 a2)
                 ·rw [if_pos c74] at H
                  have c74b0 : decide (0 ≤ (rd t271 a2)) = true := decide_eq_true c74
                  clear c74
                  by_cases c75 : (rd t271 a2) < (l0.length : Int)
                  ·rw [if_pos c75] at H
                   have c75b0 : decide ((rd t271 a2) < (l0.length : Int)) = true := decide_eq_true c75
                   clear c75
                   by_cases c76 : x12_4 = true
                   ·subst c76
                    have H1 : (law_ArrangeWantedFirst.l0 k4 l0 l1 a2 a3 t271 ((rdOf ByteArray.empty l1 x13_4).toList == (rdOf ByteArray.empty l0 (rd t271 a2)).toList) true (wrap64 (x13_4 + 1))) = some r := by rw [if_pos rfl] at H; exact H
                    clear H
                    have H := H1
                    clear H1
                    have H' := Aside0.mk H
                    clear H
                    have p294 : 0 ≤ (x13_4 : Int) := of_decide_eq_true qO
                    have q294 : x13_4 < (l1.length : Int) := of_decide_eq_true qO
                    obtain ⟨ad294, e294, hx294_0⟩ := Kd.at_string HR1.out x13_4 p294 q294
                    cases e294
                    replace hx294_0 := qH HB hx294_0
                    replace p294 := eq_true p294
                    replace q294 := eq_true q294
                    obtain ⟨Ao77, co77, eo77⟩ := Kd.R_slice HO_9.out
                    subst eo77
                    have p295 : 0 ≤ (a2 : Int) := of_decide_eq_true qO
                    have q295 : a2 < (t271.length : Int) := of_decide_eq_true qO
                    obtain ⟨ad295, e295, hx295_0⟩ := Kd.at_int (Kd.R_reads' HO_9.out).2.2 a2 p295 q295
                    cases e295
                    replace p295 := eq_true p295
                    replace q295 := eq_true q295
                    have p296 : 0 ≤ ((rd t271 a2) : Int) := of_decide_eq_true qO
                    have q296 : (rd t271 a2) < (l0.length : Int) := of_decide_eq_true qO
                    obtain ⟨ad296, e296, hx296_0⟩ := Kd.at_string HR0.out (rd t271 a2) p296 q296
                    cases e296
                    replace hx296_0 := qH HB hx296_0
                    replace p296 := eq_true p296
                    replace q296 := eq_true q296
                    go_wp2_with (first | go_in | ((with_reducible refine gate_draws ?_); go_quiet (fail)))
                    go_roundg k4
                    case measure => have := HJ5.out; have := HJ37.out; have := HJ48.out; have := HK4.out; omega
                    case rel => exact ⟨(((rdOf ByteArray.empty l1 x13_4).toList == (rdOf ByteArray.empty l0 (rd t271 a2)).toList)), (true), (wrap64 (x13_4 + 1)), qF, qF, qF, H', ⟨by have := HJ5.out; have := HJ37.out; have := HJ48.out; have := HK4.out; omega⟩, ⟨qR HO_9⟩, ⟨qK BK276⟩, ⟨qB⟩⟩
                   ·replace c76 := Bool.eq_false_iff.mpr c76
                    subst c76
                    have H1 : (if 0 ≤ a3 then (if a3 < (t271.length : Int) then (if 0 ≤ (rd t271 a3) then (if (rd t271 a3) < (l0.length : Int) then (law_ArrangeWantedFirst.l0 k4 l0 l1 a2 a3 t271 ((rdOf ByteArray.empty l1 x13_4).toList == (rdOf ByteArray.empty l0 (rd t271 a2)).toList) ((rdOf ByteArray.empty l1 x13_4).toList == (rdOf ByteArray.empty l0 (rd t271 a3)).toList) (wrap64 (x13_4 + 1))) else (none)) else (none)) else (none)) else (none)) = some r := by rw [if_neg (show ¬ (false = true) by decide)] at H; exact H
                    clear H
                    have H := H1
                    clear H1
                    by_cases c78 : 0 ≤ a3
                    ·rw [if_pos c78] at H
                     have c78b0 : decide (0 ≤ a3) = true := decide_eq_true c78
                     clear c78
                     by_cases c79 : a3 < (t271.length : Int)
                     ·rw [if_pos c79] at H
                      have c79b0 : decide (a3 < (t271.length : Int)) = true := decide_eq_true c79
                      clear c79
                      by_cases c80 : 0 ≤ (rd t271 a3)
                      ·rw [if_pos c80] at H
                       have c80b0 : decide (0 ≤ (rd t271 a3)) = true := decide_eq_true c80
                       clear c80
                       by_cases c81 : (rd t271 a3) < (l0.length : Int)
                       ·rw [if_pos c81] at H
                        have c81b0 : decide ((rd t271 a3) < (l0.length : Int)) = true := decide_eq_true c81
                        clear c81
                        have H' := Aside0.mk H
                        clear H
                        have p294 : 0 ≤ (x13_4 : Int) := of_decide_eq_true qO
                        have q294 : x13_4 < (l1.length : Int) := of_decide_eq_true qO
                        obtain ⟨ad294, e294, hx294_0⟩ := Kd.at_string HR1.out x13_4 p294 q294
                        cases e294
                        replace hx294_0 := qH HB hx294_0
                        replace p294 := eq_true p294
                        replace q294 := eq_true q294
                        obtain ⟨Ao82, co82, eo82⟩ := Kd.R_slice HO_9.out
                        subst eo82
                        have p295 : 0 ≤ (a2 : Int) := of_decide_eq_true qO
                        have q295 : a2 < (t271.length : Int) := of_decide_eq_true qO
                        obtain ⟨ad295, e295, hx295_0⟩ := Kd.at_int (Kd.R_reads' HO_9.out).2.2 a2 p295 q295
                        cases e295
                        replace p295 := eq_true p295
                        replace q295 := eq_true q295
                        have p296 : 0 ≤ ((rd t271 a2) : Int) := of_decide_eq_true qO
                        have q296 : (rd t271 a2) < (l0.length : Int) := of_decide_eq_true qO
                        obtain ⟨ad296, e296, hx296_0⟩ := Kd.at_string HR0.out (rd t271 a2) p296 q296
                        cases e296
                        replace hx296_0 := qH HB hx296_0
                        replace p296 := eq_true p296
                        replace q296 := eq_true q296
                        have p297 : 0 ≤ (x13_4 : Int) := of_decide_eq_true qO
                        have q297 : x13_4 < (l1.length : Int) := of_decide_eq_true qO
                        obtain ⟨ad297, e297, hx297_0⟩ := Kd.at_string HR1.out x13_4 p297 q297
                        obtain rfl : ad294 = ad297 := (by injection e297)
                        replace hx297_0 := qH HB hx297_0
                        replace p297 := eq_true p297
                        replace q297 := eq_true q297
                        have p298 : 0 ≤ (a3 : Int) := of_decide_eq_true qO
                        have q298 : a3 < (t271.length : Int) := of_decide_eq_true qO
                        obtain ⟨ad298, e298, hx298_0⟩ := Kd.at_int (Kd.R_reads' HO_9.out).2.2 a3 p298 q298
                        obtain rfl : ad295 = ad298 := (by injection e298)
                        replace p298 := eq_true p298
                        replace q298 := eq_true q298
                        have p299 : 0 ≤ ((rd t271 a3) : Int) := of_decide_eq_true qO
                        have q299 : (rd t271 a3) < (l0.length : Int) := of_decide_eq_true qO
                        obtain ⟨ad299, e299, hx299_0⟩ := Kd.at_string HR0.out (rd t271 a3) p299 q299
                        obtain rfl : ad296 = ad299 := (by injection e299)
                        replace hx299_0 := qH HB hx299_0
                        replace p299 := eq_true p299
                        replace q299 := eq_true q299
                        go_wp2_with (first | go_in | ((with_reducible refine gate_draws ?_); go_quiet (fail)))
                        go_roundg k4
                        case measure => have := HJ5.out; have := HJ37.out; have := HJ48.out; have := HK4.out; omega
                        case rel => exact ⟨(((rdOf ByteArray.empty l1 x13_4).toList == (rdOf ByteArray.empty l0 (rd t271 a2)).toList)), (((rdOf ByteArray.empty l1 x13_4).toList == (rdOf ByteArray.empty l0 (rd t271 a3)).toList)), (wrap64 (x13_4 + 1)), qF, qF, qF, H', ⟨by have := HJ5.out; have := HJ37.out; have := HJ48.out; have := HK4.out; omega⟩, ⟨qR HO_9⟩, ⟨qK BK276⟩, ⟨qB⟩⟩
                       ·rw [if_neg c81] at H
                        exact absurd H (by simp)
                      ·rw [if_neg c80] at H
                       exact absurd H (by simp)
                     ·rw [if_neg c79] at H
                      exact absurd H (by simp)
                    ·rw [if_neg c78] at H
                     exact absurd H (by simp)
                  ·rw [if_neg c75] at H
                   exact absurd H (by simp)
                 ·rw [if_neg c74] at H
                  exact absurd H (by simp)
                ·rw [if_neg c73] at H
                 exact absurd H (by simp)
               ·rw [if_neg c72] at H
                exact absurd H (by simp)
              ·rw [if_neg c71] at H
               exact absurd H (by simp)
            ·rw [if_neg c62] at H
             have c62b0 : decide (x13_4 < (l1.length : Int)) = false := decide_eq_false c62
             clear c62
             by_cases c83 : x11_4 = true
             ·subst c83
              have H1 : (some true) = some r := by rw [if_pos rfl] at H; exact H
              clear H
              have H := H1
              clear H1
              obtain rfl := Option.some.inj H
              go_wp2_with (first | go_in | ((with_reducible refine gate_draws ?_); go_quiet (fail)))
              go_ret
              exact ⟨qE, qB⟩
             ·replace c83 := Bool.eq_false_iff.mpr c83
              subst c83
              have H1 : (some (!x12_4)) = some r := by rw [if_neg (show ¬ (false = true) by decide)] at H; exact H
              clear H
              have H := H1
              clear H1
              obtain rfl := Option.some.inj H
              go_wp2_with (first | go_in | ((with_reducible refine gate_draws ?_); go_quiet (fail)))
              go_ret
              exact ⟨qE, qB⟩

/-- What is left to prove of law_ArrangeWantedFirst. -/
def law_ArrangeWantedFirst.Pure : Prop := ∀ (l0 : List ByteArray) (l1 : List ByteArray) (a2 : Int) (a3 : Int), l0.length ≤ 9223372036854775807 → l0.length * 16 ≤ 140737488351232 → (∀ y ∈ l0, y.size ≤ 9223372036854775807) → l1.length ≤ 9223372036854775807 → l1.length * 16 ≤ 140737488351232 → (∀ y ∈ l1, y.size ≤ 9223372036854775807) → (Lit.int .i64 a2).wf = true → (Lit.int .i64 a3).wf = true → ∃ k, law_ArrangeWantedFirst.f k l0 l1 a2 a3 = some true

end Go.Proofs.Ytoegghjhepkfkaa.PArr
