/- Written by a program of this session, for the law(s) Place: contracts of the Go functions that the law reaches, each against a plain Lean function. No condition. -/
import Derived.Test.YtnbeamaoblmbhaaPPlacex0
import Derived.Test.YtnbeamaoblmbhaaPPlacex1
import Derived.Test.YtnbeamaoblmbhaaPPlacex4
import Derived.Test.YtnbeamaoblmbhaaPPlacex5
import Derived.Test.YtnbeamaoblmbhaaPPlacex6
import Derived.Test.YtnbeamaoblmbhaaPPlacex12
import Derived.Test.YtnbeamaoblmbhaaPPlacex13
namespace Go.Proofs.Ytnbeamaoblmbhaa.PPlace
open Go.RowKit Go.Proofs.YtnbeamaoblmbhaaW.PrintWords Go.Proofs.YtnbeamaoblmbhaaW.PrintLast Go.Proofs.YtnbeamaoblmbhaaW.PrintMore
attribute [local go_sem] max2_int min2_int max_two min_two max_three min_three max_four min_four   -- for this text's walks alone
set_option linter.unusedVariables false
set_option linter.unusedSimpArgs false

attribute [local go_sem high] eqA26
/-! ### law_PlaceMatchesSpec: function 7 -/
mutual
def law_PlaceMatchesSpec.j0 : Nat → List (S62) → List (S60) → List (S72) → Int → Int → Option (Bool)
 | 0, _, _, _, _, _ => none
 | k + 1, x1, x299000, x299001, x302000, x302001 => if x302000 = 0 then ((ref_Placed.f k x299000 x299001 x1).bind fun bt304 => (law_PlaceMatchesSpec.j1 k x1 bt304.1 bt304.2.1 x299000 x299001 bt304.2.2.1 bt304.2.2.2)) else (law_PlaceMatchesSpec.j1 k x1 ([] : List Int) ([] : List (S58)) x299000 x299001 x302000 x302001)
def law_PlaceMatchesSpec.j1 : Nat → List (S62) → List Int → List (S58) → List (S60) → List (S72) → Int → Int → Option (Bool)
 | 0, _, _, _, _, _, _, _ => none
 | k + 1, x1, x6, x7, x299000, x299001, x302000, x302001 => (place_Layout.f k x299000 x299001 x1).bind fun bt312 => ((law_placesItems.f k).bind fun t321 => (if t321 = true then (if (bt312.2.2.1 == x302000 && (bt312.2.2.2 == x302001)) = true then ((law_ints.f k bt312.1 x6).bind fun t322 => (if t322 = true then ((law_sameSpans.f k bt312.2.1 x7).bind fun t323 => (some t323)) else (none))) else (none)) else (none)))
end
def law_PlaceMatchesSpec.f (k : Nat) (l0_0 : List (S60)) (l0_1 : List (S72)) (l1 : List (S62)) : Option (Bool) := (ref_ScriptFault.f k l0_0 l0_1).bind fun bt299 => (if bt299.1 = 0 then ((ref_ItemsFault.f k l1 (l0_0.length : Int)).bind fun bt302 => (law_PlaceMatchesSpec.j0 k l1 l0_0 l0_1 bt302.1 bt302.2)) else (law_PlaceMatchesSpec.j0 k l1 l0_0 l0_1 bt299.1 bt299.2))
theorem law_PlaceMatchesSpec.mono_l : ∀ k, (∀ y0 y1 y2 y3 y4, LeO (law_PlaceMatchesSpec.j0 k y0 y1 y2 y3 y4) (law_PlaceMatchesSpec.j0 (k + 1) y0 y1 y2 y3 y4)) ∧ (∀ y0 y1 y2 y3 y4 y5 y6, LeO (law_PlaceMatchesSpec.j1 k y0 y1 y2 y3 y4 y5 y6) (law_PlaceMatchesSpec.j1 (k + 1) y0 y1 y2 y3 y4 y5 y6))
 | 0 => ⟨fun _ _ _ _ _ r h => by simp [law_PlaceMatchesSpec.j0] at h, fun _ _ _ _ _ _ _ r h => by simp [law_PlaceMatchesSpec.j1] at h⟩
 | k + 1 => by
  obtain ⟨ih0, ih1⟩ := law_PlaceMatchesSpec.mono_l k
  refine ⟨?_, ?_⟩
  ·intro y0 y1 y2 y3 y4
   unfold law_PlaceMatchesSpec.j0
   repeat' first
   | (with_reducible exact ih0 _ _ _ _ _)
   | (with_reducible exact ih1 _ _ _ _ _ _ _)
   | (with_reducible exact law_ints.mono _ _ _)
   | (with_reducible exact law_placesItems.mono _)
   | (with_reducible exact law_sameSpans.mono _ _ _)
   | (with_reducible exact place_Layout.mono _ _ _ _)
   | (with_reducible exact ref_ItemsFault.mono _ _ _)
   | (with_reducible exact ref_Placed.mono _ _ _ _)
   | (with_reducible exact ref_ScriptFault.mono _ _ _)
   | (with_reducible exact LeO.refl _)
   | (with_reducible exact LeO.none _)
   | (with_reducible refine LeO.ite ?_ ?_)
   | (with_reducible refine LeO.bind ?_ (fun _ => ?_))
   | exact ih0 _ _ _ _ _
   | exact ih1 _ _ _ _ _ _ _
   | exact law_ints.mono _ _ _
   | exact law_placesItems.mono _
   | exact law_sameSpans.mono _ _ _
   | exact place_Layout.mono _ _ _ _
   | exact ref_ItemsFault.mono _ _ _
   | exact ref_Placed.mono _ _ _ _
   | exact ref_ScriptFault.mono _ _ _
   | exact LeO.none _
   | refine LeO.ite ?_ ?_
   | refine LeO.bind ?_ (fun _ => ?_)
  ·intro y0 y1 y2 y3 y4 y5 y6
   unfold law_PlaceMatchesSpec.j1
   repeat' first
   | (with_reducible exact ih0 _ _ _ _ _)
   | (with_reducible exact ih1 _ _ _ _ _ _ _)
   | (with_reducible exact law_ints.mono _ _ _)
   | (with_reducible exact law_placesItems.mono _)
   | (with_reducible exact law_sameSpans.mono _ _ _)
   | (with_reducible exact place_Layout.mono _ _ _ _)
   | (with_reducible exact ref_ItemsFault.mono _ _ _)
   | (with_reducible exact ref_Placed.mono _ _ _ _)
   | (with_reducible exact ref_ScriptFault.mono _ _ _)
   | (with_reducible exact LeO.refl _)
   | (with_reducible exact LeO.none _)
   | (with_reducible refine LeO.ite ?_ ?_)
   | (with_reducible refine LeO.bind ?_ (fun _ => ?_))
   | exact ih0 _ _ _ _ _
   | exact ih1 _ _ _ _ _ _ _
   | exact law_ints.mono _ _ _
   | exact law_placesItems.mono _
   | exact law_sameSpans.mono _ _ _
   | exact place_Layout.mono _ _ _ _
   | exact ref_ItemsFault.mono _ _ _
   | exact ref_Placed.mono _ _ _ _
   | exact ref_ScriptFault.mono _ _ _
   | exact LeO.none _
   | refine LeO.ite ?_ ?_
   | refine LeO.bind ?_ (fun _ => ?_)
theorem law_PlaceMatchesSpec.mono : ∀ a0 a1 a2 k, LeO (law_PlaceMatchesSpec.f k a0 a1 a2) (law_PlaceMatchesSpec.f (k + 1) a0 a1 a2) := by
 intro a0 a1 a2 k
 obtain ⟨ih0, ih1⟩ := law_PlaceMatchesSpec.mono_l k
 unfold law_PlaceMatchesSpec.f
 repeat' first
   | (with_reducible exact ih0 _ _ _ _ _)
   | (with_reducible exact ih1 _ _ _ _ _ _ _)
   | (with_reducible exact law_ints.mono _ _ _)
   | (with_reducible exact law_placesItems.mono _)
   | (with_reducible exact law_sameSpans.mono _ _ _)
   | (with_reducible exact place_Layout.mono _ _ _ _)
   | (with_reducible exact ref_ItemsFault.mono _ _ _)
   | (with_reducible exact ref_Placed.mono _ _ _ _)
   | (with_reducible exact ref_ScriptFault.mono _ _ _)
   | (with_reducible exact LeO.refl _)
   | (with_reducible exact LeO.none _)
   | (with_reducible refine LeO.ite ?_ ?_)
   | (with_reducible refine LeO.bind ?_ (fun _ => ?_))
   | exact ih0 _ _ _ _ _
   | exact ih1 _ _ _ _ _ _ _
   | exact law_ints.mono _ _ _
   | exact law_placesItems.mono _
   | exact law_sameSpans.mono _ _ _
   | exact place_Layout.mono _ _ _ _
   | exact ref_ItemsFault.mono _ _ _
   | exact ref_Placed.mono _ _ _ _
   | exact ref_ScriptFault.mono _ _ _
   | exact LeO.none _
   | refine LeO.ite ?_ ?_
   | refine LeO.bind ?_ (fun _ => ?_)
set_option maxHeartbeats 8000000 in
set_option maxRecDepth 100000 in
theorem law_PlaceMatchesSpec.calls (k : Nat) (A0_0 : Option Addr) (c0_0 : Nat) (l0_0 : List (S60)) (A0_1 : Option Addr) (c0_1 : Nat) (l0_1 : List (S72)) (A1 : Option Addr) (c1 : Nat) (l1 : List (S62)) (r : Bool) (w : World) (hr0_0 : Kd.C k60 w A0_0 l0_0.length l0_0) (hc0_0 : l0_0.length ≤ c0_0) (hr0_1 : Kd.C k72 w A0_1 l0_1.length l0_1) (hc0_1 : l0_1.length ≤ c0_1) (hr1 : Kd.C k62 w A1 l1.length l1) (hc1 : l1.length ≤ c1) (h : law_PlaceMatchesSpec.f k l0_0 l0_1 l1 = some r) :
  Calls Try.prog 7 #[.agg #[.slice A0_0 l0_0.length c0_0, .slice A0_1 l0_1.length c0_1], .slice A1 l1.length c1] w fun e w' => e = .returned (.bool r) ∧ Below w.heap.size w w' := by
 have hu46 := Try.underlying46
 have hu26 := Try.underlying26
 have HR0_0 := Aside0.mk hr0_0
 have HC0_0 := Aside0.mk hc0_0
 clear hr0_0 hc0_0
 have HR0_1 := Aside0.mk hr0_1
 have HC0_1 := Aside0.mk hc0_1
 clear hr0_1 hc0_1
 have HR1 := Aside0.mk hr1
 have HC1 := Aside0.mk hc1
 clear hr1 hc1
 have HB := Aside0.mk (Below.refl w.heap.size w)
 have H : ((ref_ScriptFault.f k l0_0 l0_1).bind fun bt299 => (if bt299.1 = 0 then ((ref_ItemsFault.f k l1 (l0_0.length : Int)).bind fun bt302 => (law_PlaceMatchesSpec.j0 k l1 l0_0 l0_1 bt302.1 bt302.2)) else (law_PlaceMatchesSpec.j0 k l1 l0_0 l0_1 bt299.1 bt299.2))) = some r := h
 clear h
 replace H := Option.bind_eq_some_iff.mp H
 obtain ⟨⟨t299, t300⟩, A30, H⟩ := H
 replace H : (if t299 = 0 then ((ref_ItemsFault.f k l1 (l0_0.length : Int)).bind fun bt302 => (law_PlaceMatchesSpec.j0 k l1 l0_0 l0_1 bt302.1 bt302.2)) else (law_PlaceMatchesSpec.j0 k l1 l0_0 l0_1 t299 t300)) = some r := H
 have A3 := Aside0.mk A30
 clear A30
 have HC4 := Aside0.mk H
 clear H
 go_enter Try.func7, Try.ntmps7
 go_upto_if 15 with (first | ((with_reducible refine gate_dst (N := 2) rfl ?_); refine qX (N := 2) (cs := #[.slice A0_0 l0_0.length c0_0, .slice A0_1 l0_1.length c0_1]) (t := 46) ?_; intro gb298 hg w5 hbox hb; have n0_ := Aside0.mk (below_step qB hb); have n1_ := Aside0.mk (hbox); have n2_ := Aside0.mk ((qG hg : w.heap.size ≤ gb298)); have n3_ := Aside0.mk ((qG hg : w.heap.size ≤ gb298)); clear HB; have HB := n0_; have BK298 := n1_; have GW298 := n2_; have GE298 := n3_; clear n0_ n1_ n2_ n3_; clear hb hbox hg; have hcz6_0 : w5.cell? ⟨gb298, 0, none⟩ = some (.slice A0_0 l0_0.length c0_0) := (blk_cell BK298.out 0).trans rfl; have hcz6_1 : w5.cell? ⟨gb298, 1, none⟩ = some (.slice A0_1 l0_1.length c0_1) := (blk_cell BK298.out 1).trans rfl; have hfz6_0 := blk_frozen BK298.out 0; have hfz6_1 := blk_frozen BK298.out 1) | ((with_reducible refine gate_callee (f := 20) rfl ?_); refine goesL_ (some 12) rfl rfl Try.func20 (by kernel_rfl) rfl #[.agg #[.slice A0_0 l0_0.length c0_0, .slice A0_1 l0_1.length c0_1]] rfl qA ?_; (with_reducible refine (ref_ScriptFault.calls k _ _ l0_0 _ _ l0_1 t299 t300 _ ?side1 ?side2 ?side3 ?side4 A3.out).mono ?_); (case side1 => repeat (first | exact (Kd.C_below HR0_0.out HB.out) | (with_reducible refine Kd.C_alloc ?_ _) | (with_reducible refine Kd.C_drewN ?_ _) | (with_reducible refine Kd.C_drew ?_))); (case side2 => exact HC0_0.out); (case side3 => repeat (first | exact (Kd.C_below HR0_1.out HB.out) | (with_reducible refine Kd.C_alloc ?_ _) | (with_reducible refine Kd.C_drewN ?_ _) | (with_reducible refine Kd.C_drew ?_))); (case side4 => exact HC0_1.out); rintro e w7 ⟨rfl, hb⟩; refine ⟨_, rfl, ?_⟩; have n0_ := Aside0.mk (blk_below (g := gb298) (o := .cells #[.slice A0_0 l0_0.length c0_0, .slice A0_1 l0_1.length c0_1] 46 (0, 0)) (qK BK298) hb); have n1_ := Aside0.mk (below_step qB hb); clear BK298; clear HB; have BK298 := n0_; have HB := n1_; clear n0_ n1_; (try clear hb); (try clear hb2); (try clear hk); (try clear hi)) | ((with_reducible refine gate_dst (N := 5) rfl ?_); refine qX (N := 5) (cs := #[.int .i64 0, .int .i64 0]) (t := 26) ?_; intro gb301 hg w8 hbox hb; have n0_ := Aside0.mk (blk_below (g := gb298) (o := .cells #[.slice A0_0 l0_0.length c0_0, .slice A0_1 l0_1.length c0_1] 46 (0, 0)) (qK BK298) hb); have n1_ := Aside0.mk (below_step qB hb); have n2_ := Aside0.mk (hbox); have n3_ := Aside0.mk ((qG hg : w.heap.size ≤ gb301)); have n4_ := Aside0.mk ((qG hg : w.heap.size ≤ gb301)); have n5_ := Aside0.mk ((by rw [hg]; exact Nat.ne_of_lt (blk_lt (g := gb298) (o := .cells #[.slice A0_0 l0_0.length c0_0, .slice A0_1 l0_1.length c0_1] 46 (0, 0)) (qK BK298)) : gb298 ≠ gb301)); have n6_ := Aside0.mk ((by rw [hg]; exact Nat.ne_of_gt (blk_lt (g := gb298) (o := .cells #[.slice A0_0 l0_0.length c0_0, .slice A0_1 l0_1.length c0_1] 46 (0, 0)) (qK BK298)) : gb301 ≠ gb298)); clear BK298; clear HB; have BK298 := n0_; have HB := n1_; have BK301 := n2_; have GW301 := n3_; have GE301 := n4_; have NB298_301 := n5_; have NB301_298 := n6_; clear n0_ n1_ n2_ n3_ n4_ n5_ n6_; clear hb hbox hg; have hnb9 := NB301_298.out; have hnc9 := NB298_301.out; have hcz10_0 : w8.cell? ⟨gb301, 0, none⟩ = some (.int .i64 0) := (blk_cell BK301.out 0).trans rfl; have hcz10_1 : w8.cell? ⟨gb301, 1, none⟩ = some (.int .i64 0) := (blk_cell BK301.out 1).trans rfl; have hfz10_0 := blk_frozen BK301.out 0; have hfz10_1 := blk_frozen BK301.out 1))
 (try simp only [Act.put, List.setIfInBounds_toArray, List.set_cons_zero, List.set_cons_succ])
 go_cut [] (fun wc => ∃ (kq : Nat) (x302000_3 : Int) (x302001_3 : Int), Aside0 (law_PlaceMatchesSpec.j0 kq l1 l0_0 l0_1 x302000_3 x302001_3 = some r) ∧ Aside0 (kq ≤ k) ∧ Aside0 (wc.heap[gb298]? = some (.cells #[(.slice A0_0 l0_0.length c0_0), (.slice A0_1 l0_1.length c0_1)] 46 (0, 0))) ∧ Aside0 (wc.heap[gb301]? = some (.cells #[.int .i64 x302000_3, .int .i64 x302001_3] 26 (0, 0))) ∧ Aside0 (Below w.heap.size w wc))
 case first =>
  have H := HC4.out
  clear HC4
  by_cases c11 : t299 = 0
  ·rw [if_pos c11] at H
   have c11b0 : (t299 == 0) = true := beq_iff_eq.mpr c11
   have c11b1 : (t299 != 0) = false := bne_eq_false_iff_eq.mpr c11
   clear c11
   (first | rw [c11b0] | (simp only [i64_w, i32_w]; rw [c11b0]) | skip)
   replace H := Option.bind_eq_some_iff.mp H
   obtain ⟨⟨t302, t303⟩, A120, H⟩ := H
   replace H : (law_PlaceMatchesSpec.j0 k l1 l0_0 l0_1 t302 t303) = some r := H
   have A12 := Aside0.mk A120
   clear A120
   have H' := Aside0.mk H
   clear H
   have hnb13 := NB298_301.out
   have hnc13 := NB301_298.out
   have hcz14_0 : w8.cell? ⟨gb298, 0, none⟩ = some (.slice A0_0 l0_0.length c0_0) := (blk_cell BK298.out 0).trans rfl
   have hcz14_1 : w8.cell? ⟨gb298, 1, none⟩ = some (.slice A0_1 l0_1.length c0_1) := (blk_cell BK298.out 1).trans rfl
   have hfz14_0 := blk_frozen BK298.out 0
   have hfz14_1 := blk_frozen BK298.out 1
   go_wp2_with (first | ((with_reducible refine gate_callee (f := 21) rfl ?_); refine goesL_ (some 20) rfl rfl Try.func21 (by kernel_rfl) rfl #[.slice A1 l1.length c1, .int .i64 (l0_0.length : Int)] rfl qA ?_; (with_reducible refine (ref_ItemsFault.calls k _ _ l1 (l0_0.length : Int) t302 t303 _ ?side1 ?side2 A12.out).mono ?_); (case side1 => exact Kd.C_below HR1.out qB); (case side2 => exact HC1.out); rintro e w15 ⟨rfl, hb⟩; refine ⟨_, rfl, ?_⟩; have n0_ := Aside0.mk (blk_below (g := gb298) (o := .cells #[.slice A0_0 l0_0.length c0_0, .slice A0_1 l0_1.length c0_1] 46 (0, 0)) (by (with_reducible repeat (first | refine blk_drewN ?_ _ | refine blk_drew ?_ | refine blk_alloc ?_ _)); refine blk_far ?_ NB298_301.out _; (with_reducible repeat (first | refine blk_drewN ?_ _ | refine blk_drew ?_ | refine blk_alloc ?_ _)); refine blk_far ?_ NB298_301.out _; exact qK BK298) hb); have n1_ := Aside0.mk (blk_below (g := gb301) (o := .cells #[.int .i64 t299, .int .i64 t300] 26 (0, 0)) (by (with_reducible repeat (first | refine blk_drewN ?_ _ | refine blk_drew ?_ | refine blk_alloc ?_ _)); refine blk_put (cs := #[.int .i64 t299, .int .i64 0]) ?_ 1 _ rfl; (with_reducible repeat (first | refine blk_drewN ?_ _ | refine blk_drew ?_ | refine blk_alloc ?_ _)); refine blk_put (cs := #[.int .i64 0, .int .i64 0]) ?_ 0 _ rfl; exact qK BK301) hb); have n2_ := Aside0.mk (below_step qB hb); clear BK298; clear BK301; clear HB; have BK298 := n0_; have BK301 := n1_; have HB := n2_; clear n0_ n1_ n2_; (try clear hb); (try clear hb2); (try clear hk); (try clear hi); have hcz16_0 : w15.cell? ⟨gb301, 0, none⟩ = some (.int .i64 t299) := (blk_cell BK301.out 0).trans rfl; have hcz16_1 : w15.cell? ⟨gb301, 1, none⟩ = some (.int .i64 t300) := (blk_cell BK301.out 1).trans rfl; have hfz16_0 := blk_frozen BK301.out 0; have hfz16_1 := blk_frozen BK301.out 1))
   go_meet
   case rel => exact ⟨_, (t302), (t303), H', ⟨by first | omega | exact Nat.le_refl _⟩, ⟨by (with_reducible repeat (first | refine blk_drewN ?_ _ | refine blk_drew ?_ | refine blk_alloc ?_ _)); refine blk_far ?_ NB298_301.out _; (with_reducible repeat (first | refine blk_drewN ?_ _ | refine blk_drew ?_ | refine blk_alloc ?_ _)); refine blk_far ?_ NB298_301.out _; exact qK BK298⟩, ⟨by (with_reducible repeat (first | refine blk_drewN ?_ _ | refine blk_drew ?_ | refine blk_alloc ?_ _)); refine blk_put (cs := #[.int .i64 t302, .int .i64 t300]) ?_ 1 _ rfl; (with_reducible repeat (first | refine blk_drewN ?_ _ | refine blk_drew ?_ | refine blk_alloc ?_ _)); refine blk_put (cs := #[.int .i64 t299, .int .i64 t300]) ?_ 0 _ rfl; exact qK BK301⟩, ⟨qB⟩⟩
  ·rw [if_neg c11] at H
   have c11b0 : (t299 == 0) = false := beq_eq_false_iff_ne.mpr c11
   have c11b1 : (t299 != 0) = true := bne_iff_ne.mpr c11
   (first | rw [c11b0] | (simp only [i64_w, i32_w]; rw [c11b0]) | skip)
   have H' := Aside0.mk H
   clear H
   go_wp2
   go_meet
   case rel => exact ⟨_, (t299), (t300), H', ⟨by first | omega | exact Nat.le_refl _⟩, ⟨by (with_reducible repeat (first | refine blk_drewN ?_ _ | refine blk_drew ?_ | refine blk_alloc ?_ _)); refine blk_far ?_ NB298_301.out _; (with_reducible repeat (first | refine blk_drewN ?_ _ | refine blk_drew ?_ | refine blk_alloc ?_ _)); refine blk_far ?_ NB298_301.out _; exact qK BK298⟩, ⟨by (with_reducible repeat (first | refine blk_drewN ?_ _ | refine blk_drew ?_ | refine blk_alloc ?_ _)); refine blk_put (cs := #[.int .i64 t299, .int .i64 0]) ?_ 1 _ rfl; (with_reducible repeat (first | refine blk_drewN ?_ _ | refine blk_drew ?_ | refine blk_alloc ?_ _)); refine blk_put (cs := #[.int .i64 0, .int .i64 0]) ?_ 0 _ rfl; exact qK BK301⟩, ⟨qB⟩⟩
 case rest =>
  clear HC4
  try clear c1
  try clear c2
  try clear p2
  try clear c7
  try clear c9
  try clear c11
  try clear c11b0
  try clear c11b1
  try clear c13
  try clear hcz10_0
  try clear hcz10_1
  try clear hcz14_0
  try clear hcz14_1
  try clear hcz16_0
  try clear hcz16_1
  try clear hcz6_0
  try clear hcz6_1
  try clear hfz10_0
  try clear hfz10_1
  try clear hfz14_0
  try clear hfz14_1
  try clear hfz16_0
  try clear hfz16_1
  try clear hfz6_0
  try clear hfz6_1
  obtain ⟨kq, x302000_3, x302001_3, HA, HJ3, BK298, BK301, HB⟩ := hcut
  cases kq with
  | zero => exact absurd HA.out (by simp [law_PlaceMatchesSpec.j0])
  | succ kj3 =>
   have H := HA.out
   clear HA
   simp only [law_PlaceMatchesSpec.j0] at H
   have HC17 := Aside0.mk H
   clear H
   have hnb18 := NB301_298.out
   have hnc18 := NB298_301.out
   have hcz19_0 : wc.cell? ⟨gb301, 0, none⟩ = some (.int .i64 x302000_3) := (blk_cell BK301.out 0).trans rfl
   have hcz19_1 : wc.cell? ⟨gb301, 1, none⟩ = some (.int .i64 x302001_3) := (blk_cell BK301.out 1).trans rfl
   have hfz19_0 := blk_frozen BK301.out 0
   have hfz19_1 := blk_frozen BK301.out 1
   go_upto_if 23 with (fail)
   go_cut [6, 7] (fun v6 v7 wc => ∃ (kq : Nat) (x6_16 : List Int) (x7_16 : List (S58)) (x302000_16 : Int) (x302001_16 : Int), Aside0 (law_PlaceMatchesSpec.j1 kq l1 x6_16 x7_16 l0_0 l0_1 x302000_16 x302001_16 = some r) ∧ Aside0 (kq ≤ kj3) ∧ Aside0 (Kd.R (Kd.int .i64) 3 wc w.heap.size (fun _ => True) v6 x6_16) ∧ Aside0 (Kd.R k58 58 wc w.heap.size (fun _ => True) v7 x7_16) ∧ Aside0 (wc.heap[gb298]? = some (.cells #[(.slice A0_0 l0_0.length c0_0), (.slice A0_1 l0_1.length c0_1)] 46 (0, 0))) ∧ Aside0 (wc.heap[gb301]? = some (.cells #[.int .i64 x302000_16, .int .i64 x302001_16] 26 (0, 0))) ∧ Aside0 (Below w.heap.size w wc))
   case first =>
    have H := HC17.out
    clear HC17
    by_cases c20 : x302000_3 = 0
    ·rw [if_pos c20] at H
     have c20b0 : (x302000_3 == 0) = true := beq_iff_eq.mpr c20
     have c20b1 : (x302000_3 != 0) = false := bne_eq_false_iff_eq.mpr c20
     clear c20
     (first | rw [c20b0] | (simp only [i64_w, i32_w]; rw [c20b0]) | skip)
     replace H := Option.bind_eq_some_iff.mp H
     obtain ⟨⟨t304, t307, t310, t311⟩, A210, H⟩ := H
     replace H : (law_PlaceMatchesSpec.j1 kj3 l1 t304 t307 l0_0 l0_1 t310 t311) = some r := H
     have A21 := Aside0.mk A210
     clear A210
     have H' := Aside0.mk H
     clear H
     have hnb22 := NB298_301.out
     have hnc22 := NB301_298.out
     have hcz23_0 : wc.cell? ⟨gb298, 0, none⟩ = some (.slice A0_0 l0_0.length c0_0) := (blk_cell BK298.out 0).trans rfl
     have hcz23_1 : wc.cell? ⟨gb298, 1, none⟩ = some (.slice A0_1 l0_1.length c0_1) := (blk_cell BK298.out 1).trans rfl
     have hfz23_0 := blk_frozen BK298.out 0
     have hfz23_1 := blk_frozen BK298.out 1
     go_wp2_with (first | ((with_reducible refine gate_callee (f := 22) rfl ?_); refine goesL_ (some 27) rfl rfl Try.func22 (by kernel_rfl) rfl #[.agg #[.slice A0_0 l0_0.length c0_0, .slice A0_1 l0_1.length c0_1], .slice A1 l1.length c1] rfl qA ?_; (with_reducible refine (ref_Placed.calls kj3 _ _ l0_0 _ _ l0_1 _ _ l1 t304 t307 t310 t311 _ ?side1 ?side2 ?side3 ?side4 ?side5 ?side6 A21.out).mono ?_); (case side1 => repeat (first | exact (Kd.C_below HR0_0.out HB.out) | (with_reducible refine Kd.C_alloc ?_ _) | (with_reducible refine Kd.C_drewN ?_ _) | (with_reducible refine Kd.C_drew ?_))); (case side2 => exact HC0_0.out); (case side3 => repeat (first | exact (Kd.C_below HR0_1.out HB.out) | (with_reducible refine Kd.C_alloc ?_ _) | (with_reducible refine Kd.C_drewN ?_ _) | (with_reducible refine Kd.C_drew ?_))); (case side4 => exact HC0_1.out); (case side5 => repeat (first | exact (Kd.C_below HR1.out HB.out) | (with_reducible refine Kd.C_alloc ?_ _) | (with_reducible refine Kd.C_drewN ?_ _) | (with_reducible refine Kd.C_drew ?_))); (case side6 => exact HC1.out); rintro e w24 ⟨v305, v308, rfl, ho0, ho1, hb⟩; refine ⟨_, rfl, ?_⟩; have n0_ := Aside0.mk (Kd.R_lower ho0 (below_size qB)); have n1_ := Aside0.mk (Kd.R_lower ho1 (below_size qB)); have n2_ := Aside0.mk (blk_below (g := gb298) (o := .cells #[.slice A0_0 l0_0.length c0_0, .slice A0_1 l0_1.length c0_1] 46 (0, 0)) (qK BK298) hb); have n3_ := Aside0.mk (blk_below (g := gb301) (o := .cells #[.int .i64 x302000_3, .int .i64 x302001_3] 26 (0, 0)) (qK BK301) hb); have n4_ := Aside0.mk (below_step qB hb); clear BK298; clear BK301; clear HB; have HO306 := n0_; have HO309 := n1_; have BK298 := n2_; have BK301 := n3_; have HB := n4_; clear n0_ n1_ n2_ n3_ n4_; (try clear hb); (try clear hb2); (try clear hk); (try clear hi); (try clear ho0); (try clear ho1); have hcz25_0 : w24.cell? ⟨gb301, 0, none⟩ = some (.int .i64 x302000_3) := (blk_cell BK301.out 0).trans rfl; have hcz25_1 : w24.cell? ⟨gb301, 1, none⟩ = some (.int .i64 x302001_3) := (blk_cell BK301.out 1).trans rfl; have hfz25_0 := blk_frozen BK301.out 0; have hfz25_1 := blk_frozen BK301.out 1))
     go_meet
     case rel => exact ⟨_, (t304), (t307), (t310), (t311), H', ⟨by have := HJ3.out; first | omega | exact Nat.le_refl _⟩, ⟨by (with_reducible repeat (first | apply Kd.R_alloc | apply Kd.R_drewN | apply Kd.R_drew)); exact Kd.R_mono (Kd.R_far (p := ⟨gb301, 1, none⟩) (Kd.R_far (p := ⟨gb301, 0, none⟩) (Kd.R_types HO306.out BK301.out (by decide)) (fun _ hk => hk.2) (.int .i64 t310)) (fun _ hk => hk.2) (.int .i64 t311)) (fun _ hk => trivial)⟩, ⟨by (with_reducible repeat (first | apply Kd.R_alloc | apply Kd.R_drewN | apply Kd.R_drew)); exact Kd.R_mono (Kd.R_far (p := ⟨gb301, 1, none⟩) (Kd.R_far (p := ⟨gb301, 0, none⟩) (Kd.R_types HO309.out BK301.out (by decide)) (fun _ hk => hk.2) (.int .i64 t310)) (fun _ hk => hk.2) (.int .i64 t311)) (fun _ hk => trivial)⟩, ⟨by (with_reducible repeat (first | refine blk_drewN ?_ _ | refine blk_drew ?_ | refine blk_alloc ?_ _)); refine blk_far ?_ NB298_301.out _; (with_reducible repeat (first | refine blk_drewN ?_ _ | refine blk_drew ?_ | refine blk_alloc ?_ _)); refine blk_far ?_ NB298_301.out _; exact qK BK298⟩, ⟨by (with_reducible repeat (first | refine blk_drewN ?_ _ | refine blk_drew ?_ | refine blk_alloc ?_ _)); refine blk_put (cs := #[.int .i64 t310, .int .i64 x302001_3]) ?_ 1 _ rfl; (with_reducible repeat (first | refine blk_drewN ?_ _ | refine blk_drew ?_ | refine blk_alloc ?_ _)); refine blk_put (cs := #[.int .i64 x302000_3, .int .i64 x302001_3]) ?_ 0 _ rfl; exact qK BK301⟩, ⟨qB⟩⟩
    ·rw [if_neg c20] at H
     have c20b0 : (x302000_3 == 0) = false := beq_eq_false_iff_ne.mpr c20
     have c20b1 : (x302000_3 != 0) = true := bne_iff_ne.mpr c20
     (first | rw [c20b0] | (simp only [i64_w, i32_w]; rw [c20b0]) | skip)
     have H' := Aside0.mk H
     clear H
     go_wp2
     go_meet
     case rel => exact ⟨_, (([] : List Int)), (([] : List (S58))), (x302000_3), (x302001_3), H', ⟨by have := HJ3.out; first | omega | exact Nat.le_refl _⟩, ⟨qL⟩, ⟨qL⟩, ⟨qK BK298⟩, ⟨qK BK301⟩, ⟨qB⟩⟩
   case rest =>
    clear HC17
    try clear c1
    try clear c2
    try clear p2
    try clear c7
    try clear c9
    try clear c11
    try clear c11b0
    try clear c11b1
    try clear c13
    try clear c18
    try clear c20
    try clear c20b0
    try clear c20b1
    try clear c21
    try clear c22
    try clear hcz10_0
    try clear hcz10_1
    try clear hcz14_0
    try clear hcz14_1
    try clear hcz16_0
    try clear hcz16_1
    try clear hcz19_0
    try clear hcz19_1
    try clear hcz23_0
    try clear hcz23_1
    try clear hcz25_0
    try clear hcz25_1
    try clear hcz6_0
    try clear hcz6_1
    try clear hfz10_0
    try clear hfz10_1
    try clear hfz14_0
    try clear hfz14_1
    try clear hfz16_0
    try clear hfz16_1
    try clear hfz19_0
    try clear hfz19_1
    try clear hfz23_0
    try clear hfz23_1
    try clear hfz25_0
    try clear hfz25_1
    try clear hfz6_0
    try clear hfz6_1
    try clear p2
    obtain ⟨kq, x6_16, x7_16, x302000_16, x302001_16, HA, HJ16, HO_6, HO_7, BK298, BK301, HB⟩ := hcut
    cases kq with
    | zero => exact absurd HA.out (by simp [law_PlaceMatchesSpec.j1])
    | succ kj16 =>
     have H := HA.out
     clear HA
     simp only [law_PlaceMatchesSpec.j1] at H
     replace H := Option.bind_eq_some_iff.mp H
     obtain ⟨⟨t312, t315, t318, t319⟩, A260, H⟩ := H
     replace H : ((law_placesItems.f kj16).bind fun t321 => (if t321 = true then (if (t318 == x302000_16 && (t319 == x302001_16)) = true then ((law_ints.f kj16 t312 x6_16).bind fun t322 => (if t322 = true then ((law_sameSpans.f kj16 t315 x7_16).bind fun t323 => (some t323)) else (none))) else (none)) else (none))) = some r := H
     have A26 := Aside0.mk A260
     clear A260
     replace H := Option.bind_eq_some_iff.mp H
     obtain ⟨t321, A270, H⟩ := H
     replace H : (if t321 = true then (if (t318 == x302000_16 && (t319 == x302001_16)) = true then ((law_ints.f kj16 t312 x6_16).bind fun t322 => (if t322 = true then ((law_sameSpans.f kj16 t315 x7_16).bind fun t323 => (some t323)) else (none))) else (none)) else (none)) = some r := H
     have A27 := Aside0.mk A270
     clear A270
     by_cases c28 : t321 = true
     ·subst c28
      have H1 : (if (t318 == x302000_16 && (t319 == x302001_16)) = true then ((law_ints.f kj16 t312 x6_16).bind fun t322 => (if t322 = true then ((law_sameSpans.f kj16 t315 x7_16).bind fun t323 => (some t323)) else (none))) else (none)) = some r := by rw [if_pos rfl] at H; exact H
      clear H
      have H := H1
      clear H1
      by_cases c29 : (t318 == x302000_16 && (t319 == x302001_16)) = true
      ·rw [if_pos c29] at H
       have c29b0 : (t318 == x302000_16 && (t319 == x302001_16)) = true := c29
       (try (have c29b1 : decide (t318 = x302000_16 && (t319 == x302001_16)) = true := by simpa using c29))
       (try (have c29b2 : (t318 == x302000_16 && (t319 == x302001_16)) = true := by simpa using c29))
       clear c29
       replace H := Option.bind_eq_some_iff.mp H
       obtain ⟨t322, A300, H⟩ := H
       replace H : (if t322 = true then ((law_sameSpans.f kj16 t315 x7_16).bind fun t323 => (some t323)) else (none)) = some r := H
       have A30 := Aside0.mk A300
       clear A300
       by_cases c31 : t322 = true
       ·subst c31
        have H1 : ((law_sameSpans.f kj16 t315 x7_16).bind fun t323 => (some t323)) = some r := by rw [if_pos rfl] at H; exact H
        clear H
        have H := H1
        clear H1
        replace H := Option.bind_eq_some_iff.mp H
        obtain ⟨t323, A320, H⟩ := H
        replace H : (some t323) = some r := H
        have A32 := Aside0.mk A320
        clear A320
        obtain rfl := Option.some.inj H
        have hnb33 := NB298_301.out
        have hnc33 := NB301_298.out
        have hcz34_0 : wc.cell? ⟨gb298, 0, none⟩ = some (.slice A0_0 l0_0.length c0_0) := (blk_cell BK298.out 0).trans rfl
        have hcz34_1 : wc.cell? ⟨gb298, 1, none⟩ = some (.slice A0_1 l0_1.length c0_1) := (blk_cell BK298.out 1).trans rfl
        have hfz34_0 := blk_frozen BK298.out 0
        have hfz34_1 := blk_frozen BK298.out 1
        go_wp2_with (first | ((with_reducible refine gate_callee (f := 23) rfl ?_); refine goesL_ (some 34) rfl rfl Try.func23 (by kernel_rfl) rfl #[.agg #[.slice A0_0 l0_0.length c0_0, .slice A0_1 l0_1.length c0_1], .slice A1 l1.length c1] rfl qA ?_; (with_reducible refine (place_Layout.calls kj16 _ _ l0_0 _ _ l0_1 _ _ l1 t312 t315 t318 t319 _ ?side1 ?side2 ?side3 ?side4 ?side5 ?side6 A26.out).mono ?_); (case side1 => repeat (first | exact (Kd.C_below HR0_0.out HB.out) | (with_reducible refine Kd.C_alloc ?_ _) | (with_reducible refine Kd.C_drewN ?_ _) | (with_reducible refine Kd.C_drew ?_))); (case side2 => exact HC0_0.out); (case side3 => repeat (first | exact (Kd.C_below HR0_1.out HB.out) | (with_reducible refine Kd.C_alloc ?_ _) | (with_reducible refine Kd.C_drewN ?_ _) | (with_reducible refine Kd.C_drew ?_))); (case side4 => exact HC0_1.out); (case side5 => repeat (first | exact (Kd.C_below HR1.out HB.out) | (with_reducible refine Kd.C_alloc ?_ _) | (with_reducible refine Kd.C_drewN ?_ _) | (with_reducible refine Kd.C_drew ?_))); (case side6 => exact HC1.out); rintro e w35 ⟨v313, v316, rfl, ho0, ho1, hb⟩; refine ⟨_, rfl, ?_⟩; have n0_ := Aside0.mk (Kd.R_elder' (qR HO_6) (Kd.R_base ho0) hb); have n1_ := Aside0.mk (Kd.R_elder' (qR HO_7) (Kd.R_base ho1) hb); have n2_ := Aside0.mk (Kd.R_lower (Kd.R_new' ho0 (Kd.R_lt (qR HO_6))) (below_size qB)); have n3_ := Aside0.mk (Kd.R_lower (Kd.R_new' ho1 (Kd.R_lt (qR HO_7))) (below_size qB)); have n4_ := Aside0.mk (blk_below (g := gb298) (o := .cells #[.slice A0_0 l0_0.length c0_0, .slice A0_1 l0_1.length c0_1] 46 (0, 0)) (qK BK298) hb); have n5_ := Aside0.mk (blk_below (g := gb301) (o := .cells #[.int .i64 x302000_16, .int .i64 x302001_16] 26 (0, 0)) (qK BK301) hb); have n6_ := Aside0.mk (below_step qB hb); clear HO_6; clear HO_7; clear BK298; clear BK301; clear HB; have HO_6 := n0_; have HO_7 := n1_; have HO314 := n2_; have HO317 := n3_; have BK298 := n4_; have BK301 := n5_; have HB := n6_; clear n0_ n1_ n2_ n3_ n4_ n5_ n6_; (try clear hb); (try clear hb2); (try clear hk); (try clear hi); (try clear ho0); (try clear ho1)) | ((with_reducible refine gate_dst (N := 10) rfl ?_); refine qX (N := 10) (cs := #[.int .i64 0, .int .i64 0]) (t := 26) ?_; intro gb320 hg w36 hbox hb; have n0_ := Aside0.mk (Kd.R_below (qR HO_6) hb); have n1_ := Aside0.mk (Kd.R_below (qR HO_7) hb); have n2_ := Aside0.mk (Kd.R_below (qR HO314) hb); have n3_ := Aside0.mk (Kd.R_below (qR HO317) hb); have n4_ := Aside0.mk (blk_below (g := gb298) (o := .cells #[.slice A0_0 l0_0.length c0_0, .slice A0_1 l0_1.length c0_1] 46 (0, 0)) (qK BK298) hb); have n5_ := Aside0.mk (blk_below (g := gb301) (o := .cells #[.int .i64 x302000_16, .int .i64 x302001_16] 26 (0, 0)) (qK BK301) hb); have n6_ := Aside0.mk (below_step qB hb); have n7_ := Aside0.mk (hbox); have n8_ := Aside0.mk ((qG hg : w.heap.size ≤ gb320)); have n9_ := Aside0.mk ((qG hg : w.heap.size ≤ gb320)); have n10_ := Aside0.mk ((by rw [hg]; exact Nat.ne_of_lt (blk_lt (g := gb298) (o := .cells #[.slice A0_0 l0_0.length c0_0, .slice A0_1 l0_1.length c0_1] 46 (0, 0)) (qK BK298)) : gb298 ≠ gb320)); have n11_ := Aside0.mk ((by rw [hg]; exact Nat.ne_of_gt (blk_lt (g := gb298) (o := .cells #[.slice A0_0 l0_0.length c0_0, .slice A0_1 l0_1.length c0_1] 46 (0, 0)) (qK BK298)) : gb320 ≠ gb298)); have n12_ := Aside0.mk ((by rw [hg]; exact Nat.ne_of_lt (blk_lt (g := gb301) (o := .cells #[.int .i64 x302000_16, .int .i64 x302001_16] 26 (0, 0)) (qK BK301)) : gb301 ≠ gb320)); have n13_ := Aside0.mk ((by rw [hg]; exact Nat.ne_of_gt (blk_lt (g := gb301) (o := .cells #[.int .i64 x302000_16, .int .i64 x302001_16] 26 (0, 0)) (qK BK301)) : gb320 ≠ gb301)); clear HO_6; clear HO_7; clear HO314; clear HO317; clear BK298; clear BK301; clear HB; have HO_6 := n0_; have HO_7 := n1_; have HO314 := n2_; have HO317 := n3_; have BK298 := n4_; have BK301 := n5_; have HB := n6_; have BK320 := n7_; have GW320 := n8_; have GE320 := n9_; have NB298_320 := n10_; have NB320_298 := n11_; have NB301_320 := n12_; have NB320_301 := n13_; clear n0_ n1_ n2_ n3_ n4_ n5_ n6_ n7_ n8_ n9_ n10_ n11_ n12_ n13_; clear hb hbox hg; have hnb37 := NB320_298.out; have hnc37 := NB298_320.out; have hnb38 := NB320_301.out; have hnc38 := NB301_320.out; have hcz39_0 : w36.cell? ⟨gb320, 0, none⟩ = some (.int .i64 0) := (blk_cell BK320.out 0).trans rfl; have hcz39_1 : w36.cell? ⟨gb320, 1, none⟩ = some (.int .i64 0) := (blk_cell BK320.out 1).trans rfl; have hfz39_0 := blk_frozen BK320.out 0; have hfz39_1 := blk_frozen BK320.out 1) | ((with_reducible refine gate_callee (f := 24) rfl ?_); refine goesL_ (some 38) rfl rfl Try.func24 (by kernel_rfl) rfl #[] rfl qA ?_; (with_reducible refine (law_placesItems.calls kj16  true _ A27.out).mono ?_); rintro e w40 ⟨rfl, hb⟩; refine ⟨_, rfl, ?_⟩; have n0_ := Aside0.mk (Kd.R_below (by (with_reducible repeat (first | apply Kd.R_alloc | apply Kd.R_drewN | apply Kd.R_drew)); exact (Kd.R_mono (Kd.R_far (p := ⟨gb320, 1, none⟩) (Kd.R_far (p := ⟨gb320, 0, none⟩) (Kd.R_types HO_6.out BK320.out (by decide)) (fun _ hk => hk.2) (.int .i64 t318)) (fun _ hk => hk.2) (.int .i64 t319)) (fun _ h_ => h_.1))) hb); have n1_ := Aside0.mk (Kd.R_below (by (with_reducible repeat (first | apply Kd.R_alloc | apply Kd.R_drewN | apply Kd.R_drew)); exact (Kd.R_mono (Kd.R_far (p := ⟨gb320, 1, none⟩) (Kd.R_far (p := ⟨gb320, 0, none⟩) (Kd.R_types HO_7.out BK320.out (by decide)) (fun _ hk => hk.2) (.int .i64 t318)) (fun _ hk => hk.2) (.int .i64 t319)) (fun _ h_ => h_.1))) hb); have n2_ := Aside0.mk (Kd.R_below (by (with_reducible repeat (first | apply Kd.R_alloc | apply Kd.R_drewN | apply Kd.R_drew)); exact (Kd.R_mono (Kd.R_far (p := ⟨gb320, 1, none⟩) (Kd.R_far (p := ⟨gb320, 0, none⟩) (Kd.R_types HO314.out BK320.out (by decide)) (fun _ hk => hk.2) (.int .i64 t318)) (fun _ hk => hk.2) (.int .i64 t319)) (fun _ h_ => h_.1))) hb); have n3_ := Aside0.mk (Kd.R_below (by (with_reducible repeat (first | apply Kd.R_alloc | apply Kd.R_drewN | apply Kd.R_drew)); exact (Kd.R_mono (Kd.R_far (p := ⟨gb320, 1, none⟩) (Kd.R_far (p := ⟨gb320, 0, none⟩) (Kd.R_types HO317.out BK320.out (by decide)) (fun _ hk => hk.2) (.int .i64 t318)) (fun _ hk => hk.2) (.int .i64 t319)) (fun _ h_ => h_.1))) hb); have n4_ := Aside0.mk (blk_below (g := gb298) (o := .cells #[.slice A0_0 l0_0.length c0_0, .slice A0_1 l0_1.length c0_1] 46 (0, 0)) (by (with_reducible repeat (first | refine blk_drewN ?_ _ | refine blk_drew ?_ | refine blk_alloc ?_ _)); refine blk_far ?_ NB298_320.out _; (with_reducible repeat (first | refine blk_drewN ?_ _ | refine blk_drew ?_ | refine blk_alloc ?_ _)); refine blk_far ?_ NB298_320.out _; exact qK BK298) hb); have n5_ := Aside0.mk (blk_below (g := gb301) (o := .cells #[.int .i64 x302000_16, .int .i64 x302001_16] 26 (0, 0)) (by (with_reducible repeat (first | refine blk_drewN ?_ _ | refine blk_drew ?_ | refine blk_alloc ?_ _)); refine blk_far ?_ NB301_320.out _; (with_reducible repeat (first | refine blk_drewN ?_ _ | refine blk_drew ?_ | refine blk_alloc ?_ _)); refine blk_far ?_ NB301_320.out _; exact qK BK301) hb); have n6_ := Aside0.mk (blk_below (g := gb320) (o := .cells #[.int .i64 t318, .int .i64 t319] 26 (0, 0)) (by (with_reducible repeat (first | refine blk_drewN ?_ _ | refine blk_drew ?_ | refine blk_alloc ?_ _)); refine blk_put (cs := #[.int .i64 t318, .int .i64 0]) ?_ 1 _ rfl; (with_reducible repeat (first | refine blk_drewN ?_ _ | refine blk_drew ?_ | refine blk_alloc ?_ _)); refine blk_put (cs := #[.int .i64 0, .int .i64 0]) ?_ 0 _ rfl; exact qK BK320) hb); have n7_ := Aside0.mk (below_step qB hb); clear HO_6; clear HO_7; clear HO314; clear HO317; clear BK298; clear BK301; clear BK320; clear HB; have HO_6 := n0_; have HO_7 := n1_; have HO314 := n2_; have HO317 := n3_; have BK298 := n4_; have BK301 := n5_; have BK320 := n6_; have HB := n7_; clear n0_ n1_ n2_ n3_ n4_ n5_ n6_ n7_; (try clear hb); (try clear hb2); (try clear hk); (try clear hi); have hcz41_0 : w40.cell? ⟨gb320, 0, none⟩ = some (.int .i64 t318) := (blk_cell BK320.out 0).trans rfl; have hcz41_1 : w40.cell? ⟨gb320, 1, none⟩ = some (.int .i64 t319) := (blk_cell BK320.out 1).trans rfl; have hfz41_0 := blk_frozen BK320.out 0; have hfz41_1 := blk_frozen BK320.out 1; have hcz42_0 : w40.cell? ⟨gb301, 0, none⟩ = some (.int .i64 x302000_16) := (blk_cell BK301.out 0).trans rfl; have hcz42_1 : w40.cell? ⟨gb301, 1, none⟩ = some (.int .i64 x302001_16) := (blk_cell BK301.out 1).trans rfl; have hfz42_0 := blk_frozen BK301.out 0; have hfz42_1 := blk_frozen BK301.out 1; obtain ⟨Ao43, co43, eo43⟩ := Kd.R_slice HO314.out; subst eo43; obtain ⟨Ao44, co44, eo44⟩ := Kd.R_slice HO_6.out; subst eo44) | (go_at_call 25; (with_reducible refine (law_ints.calls kj16 _ _ t312 _ _ x6_16 true _ ?side1 ?side2 ?side3 ?side4 A30.out).mono ?_); (case side1 => repeat (first | exact (Kd.R_reads' HO314.out).2.2 | (with_reducible refine Kd.C_alloc ?_ _) | (with_reducible refine Kd.C_drewN ?_ _) | (with_reducible refine Kd.C_drew ?_))); (case side2 => exact (Kd.R_reads' HO314.out).2.1); (case side3 => repeat (first | exact (Kd.R_reads' HO_6.out).2.2 | (with_reducible refine Kd.C_alloc ?_ _) | (with_reducible refine Kd.C_drewN ?_ _) | (with_reducible refine Kd.C_drew ?_))); (case side4 => exact (Kd.R_reads' HO_6.out).2.1); rintro e w' ⟨rfl, ⟨nd, rfl⟩⟩; obtain ⟨Ao45, co45, eo45⟩ := Kd.R_slice HO317.out; subst eo45; obtain ⟨Ao46, co46, eo46⟩ := Kd.R_slice HO_7.out; subst eo46) | (go_at_call 26; (with_reducible refine (law_sameSpans.calls kj16 _ _ t315 _ _ x7_16 t323 _ ?side1 ?side2 ?side3 ?side4 A32.out).mono ?_); (case side1 => repeat (first | exact (Kd.R_reads' HO317.out).2.2 | (with_reducible refine Kd.C_alloc ?_ _) | (with_reducible refine Kd.C_drewN ?_ _) | (with_reducible refine Kd.C_drew ?_))); (case side2 => exact (Kd.R_reads' HO317.out).2.1); (case side3 => repeat (first | exact (Kd.R_reads' HO_7.out).2.2 | (with_reducible refine Kd.C_alloc ?_ _) | (with_reducible refine Kd.C_drewN ?_ _) | (with_reducible refine Kd.C_drew ?_))); (case side4 => exact (Kd.R_reads' HO_7.out).2.1); rintro e w' ⟨rfl, ⟨nd, rfl⟩⟩))
        go_ret
        exact ⟨qE, qB⟩
       ·replace c31 := Bool.eq_false_iff.mpr c31
        subst c31
        have H1 : (none) = some r := by rw [if_neg (show ¬ (false = true) by decide)] at H; exact H
        clear H
        have H := H1
        clear H1
        exact absurd H (by simp)
      ·rw [if_neg c29] at H
       exact absurd H (by simp)
     ·replace c28 := Bool.eq_false_iff.mpr c28
      subst c28
      have H1 : (none) = some r := by rw [if_neg (show ¬ (false = true) by decide)] at H; exact H
      clear H
      have H := H1
      clear H1
      exact absurd H (by simp)

/-- What is left to prove of law_PlaceMatchesSpec. -/
def law_PlaceMatchesSpec.Pure : Prop := ∀ (l0_0 : List (S60)) (l0_1 : List (S72)) (l1 : List (S62)), G46 (⟨l0_0, l0_1⟩ : S46) → l1.length ≤ 9223372036854775807 → l1.length * 24 ≤ 140737488351232 → (∀ y ∈ l1, G62 y) → ∃ k, law_PlaceMatchesSpec.f k l0_0 l0_1 l1 = some true

end Go.Proofs.Ytnbeamaoblmbhaa.PPlace
