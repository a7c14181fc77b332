/- Written by a program of this session, for the law(s) Place: contracts of the Go functions that the law reaches, each against a plain Lean function. No condition. -/
import Derived.Test.YtnbeamaoblmbhaaPPlacex0
import Derived.Test.YtnbeamaoblmbhaaPPlacex1
import Derived.Test.YtnbeamaoblmbhaaPPlacex9
import Derived.Test.YtnbeamaoblmbhaaPPlacex10
import Derived.Test.YtnbeamaoblmbhaaPPlacex11
namespace Go.Proofs.Ytnbeamaoblmbhaa.PPlace
open Go.RowKit Go.Proofs.YtnbeamaoblmbhaaW.PrintWords Go.Proofs.YtnbeamaoblmbhaaW.PrintLast Go.Proofs.YtnbeamaoblmbhaaW.PrintMore
attribute [local go_sem] max2_int min2_int max_two min_two max_three min_three max_four min_four   -- for this text's walks alone
set_option linter.unusedVariables false
set_option linter.unusedSimpArgs false

attribute [local go_sem high] eqA26
/-! ### place_Layout: function 23 -/
def place_Layout.f (k : Nat) (l0_0 : List (S60)) (l0_1 : List (S72)) (l1 : List (S62)) : Option (List Int × (List (S58)) × Int × Int) := (script_Validate.f k l0_0 l0_1).bind fun bt228 => (if (!(bt228.1 == 0) || (!(bt228.2 == 0))) = true then (some (([] : List Int), ([] : List (S58)), bt228.1, bt228.2)) else ((place_Items.f k l1 (l0_0.length : Int)).bind fun bt231 => (if (!(bt231.1 == 0) || (!(bt231.2 == 0))) = true then (some (([] : List Int), ([] : List (S58)), bt231.1, bt231.2)) else ((place_Assign.f k l0_0 l0_1 l1).bind fun bt234 => (some (bt234.1, bt234.2.1, bt234.2.2.1, bt234.2.2.2))))))
theorem place_Layout.mono : ∀ a0 a1 a2 k, LeO (place_Layout.f k a0 a1 a2) (place_Layout.f (k + 1) a0 a1 a2) := by
 intro a0 a1 a2 k
 unfold place_Layout.f
 repeat' first
   | (with_reducible exact place_Assign.mono _ _ _ _)
   | (with_reducible exact place_Items.mono _ _ _)
   | (with_reducible exact script_Validate.mono _ _ _)
   | (with_reducible exact LeO.refl _)
   | (with_reducible exact LeO.none _)
   | (with_reducible refine LeO.ite ?_ ?_)
   | (with_reducible refine LeO.bind ?_ (fun _ => ?_))
   | exact place_Assign.mono _ _ _ _
   | exact place_Items.mono _ _ _
   | exact script_Validate.mono _ _ _
   | exact LeO.none _
   | refine LeO.ite ?_ ?_
   | refine LeO.bind ?_ (fun _ => ?_)
set_option maxHeartbeats 8000000 in
set_option maxRecDepth 100000 in
theorem place_Layout.calls (k : Nat) (A0_0 : Option Addr) (c0_0 : Nat) (l0_0 : List (S60)) (A0_1 : Option Addr) (c0_1 : Nat) (l0_1 : List (S72)) (A1 : Option Addr) (c1 : Nat) (l1 : List (S62)) (r1 : List Int) (r2 : List (S58)) (r3 : Int) (r4 : Int) (w : World) (hr0_0 : Kd.C k60 w A0_0 l0_0.length l0_0) (hc0_0 : l0_0.length ≤ c0_0) (hr0_1 : Kd.C k72 w A0_1 l0_1.length l0_1) (hc0_1 : l0_1.length ≤ c0_1) (hr1 : Kd.C k62 w A1 l1.length l1) (hc1 : l1.length ≤ c1) (h : place_Layout.f k l0_0 l0_1 l1 = some (r1, r2, r3, r4)) :
  Calls Try.prog 23 #[.agg #[.slice A0_0 l0_0.length c0_0, .slice A0_1 l0_1.length c0_1], .slice A1 l1.length c1] w fun e w' => ∃ v0_ v1_ : Value, e = .returned (.tuple #[v0_, v1_, .agg #[.int .i64 r3, .int .i64 r4]]) ∧ Kd.R (Kd.int .i64) 3 w' w.heap.size (fun _ => True) v0_ r1 ∧ Kd.R k58 58 w' w.heap.size (fun _ => True) v1_ r2 ∧ Below w.heap.size w w' := by
 have hu46 := Try.underlying46
 have hu26 := Try.underlying26
 have HR0_0 := Aside0.mk hr0_0
 have HC0_0 := Aside0.mk hc0_0
 clear hr0_0 hc0_0
 have HR0_1 := Aside0.mk hr0_1
 have HC0_1 := Aside0.mk hc0_1
 clear hr0_1 hc0_1
 have HR1 := Aside0.mk hr1
 have HC1 := Aside0.mk hc1
 clear hr1 hc1
 have HB := Aside0.mk (Below.refl w.heap.size w)
 have H : ((script_Validate.f k l0_0 l0_1).bind fun bt228 => (if (!(bt228.1 == 0) || (!(bt228.2 == 0))) = true then (some (([] : List Int), ([] : List (S58)), bt228.1, bt228.2)) else ((place_Items.f k l1 (l0_0.length : Int)).bind fun bt231 => (if (!(bt231.1 == 0) || (!(bt231.2 == 0))) = true then (some (([] : List Int), ([] : List (S58)), bt231.1, bt231.2)) else ((place_Assign.f k l0_0 l0_1 l1).bind fun bt234 => (some (bt234.1, bt234.2.1, bt234.2.2.1, bt234.2.2.2))))))) = some (r1, r2, r3, r4) := h
 clear h
 replace H := Option.bind_eq_some_iff.mp H
 obtain ⟨⟨t228, t229⟩, A30, H⟩ := H
 replace H : (if (!(t228 == 0) || (!(t229 == 0))) = true then (some (([] : List Int), ([] : List (S58)), t228, t229)) else ((place_Items.f k l1 (l0_0.length : Int)).bind fun bt231 => (if (!(bt231.1 == 0) || (!(bt231.2 == 0))) = true then (some (([] : List Int), ([] : List (S58)), bt231.1, bt231.2)) else ((place_Assign.f k l0_0 l0_1 l1).bind fun bt234 => (some (bt234.1, bt234.2.1, bt234.2.2.1, bt234.2.2.2)))))) = some (r1, r2, r3, r4) := H
 have A3 := Aside0.mk A30
 clear A30
 by_cases c4 : (!(t228 == 0) || (!(t229 == 0))) = true
 ·rw [if_pos c4] at H
  have c4b0 : (!(t228 == 0) || (!(t229 == 0))) = true := c4
  clear c4
  simp only [Option.some.injEq, Prod.mk.injEq] at H
  obtain ⟨rfl, rfl, rfl, rfl⟩ := H
  go_enter Try.func23, Try.ntmps23
  try go_wp2_with (first | ((with_reducible refine gate_dst (N := 2) rfl ?_); refine qX (N := 2) (cs := #[.slice A0_0 l0_0.length c0_0, .slice A0_1 l0_1.length c0_1]) (t := 46) ?_; intro gb226 hg w5 hbox hb; have n0_ := Aside0.mk (below_step qB hb); have n1_ := Aside0.mk (hbox); have n2_ := Aside0.mk ((qG hg : w.heap.size ≤ gb226)); have n3_ := Aside0.mk ((qG hg : w.heap.size ≤ gb226)); clear HB; have HB := n0_; have BK226 := n1_; have GW226 := n2_; have GE226 := n3_; clear n0_ n1_ n2_ n3_; clear hb hbox hg) | ((with_reducible refine gate_dst (N := 6) rfl ?_); refine qX (N := 6) (cs := #[.int .i64 0, .int .i64 0]) (t := 26) ?_; intro gb227 hg w6 hbox hb; have n0_ := Aside0.mk (blk_below (g := gb226) (o := .cells #[.slice A0_0 l0_0.length c0_0, .slice A0_1 l0_1.length c0_1] 46 (0, 0)) (qK BK226) hb); have n1_ := Aside0.mk (below_step qB hb); have n2_ := Aside0.mk (hbox); have n3_ := Aside0.mk ((qG hg : w.heap.size ≤ gb227)); have n4_ := Aside0.mk ((qG hg : w.heap.size ≤ gb227)); have n5_ := Aside0.mk ((by rw [hg]; exact Nat.ne_of_lt (blk_lt (g := gb226) (o := .cells #[.slice A0_0 l0_0.length c0_0, .slice A0_1 l0_1.length c0_1] 46 (0, 0)) (qK BK226)) : gb226 ≠ gb227)); have n6_ := Aside0.mk ((by rw [hg]; exact Nat.ne_of_gt (blk_lt (g := gb226) (o := .cells #[.slice A0_0 l0_0.length c0_0, .slice A0_1 l0_1.length c0_1] 46 (0, 0)) (qK BK226)) : gb227 ≠ gb226)); clear BK226; clear HB; have BK226 := n0_; have HB := n1_; have BK227 := n2_; have GW227 := n3_; have GE227 := n4_; have NB226_227 := n5_; have NB227_226 := n6_; clear n0_ n1_ n2_ n3_ n4_ n5_ n6_; clear hb hbox hg; have hnb7 := NB226_227.out; have hnc7 := NB227_226.out; have hcz8_0 : w6.cell? ⟨gb226, 0, none⟩ = some (.slice A0_0 l0_0.length c0_0) := (blk_cell BK226.out 0).trans rfl; have hcz8_1 : w6.cell? ⟨gb226, 1, none⟩ = some (.slice A0_1 l0_1.length c0_1) := (blk_cell BK226.out 1).trans rfl; have hfz8_0 := blk_frozen BK226.out 0; have hfz8_1 := blk_frozen BK226.out 1) | ((with_reducible refine gate_callee (f := 38) rfl ?_); refine goesL_ (some 10) rfl rfl Try.func38 (by kernel_rfl) rfl #[.agg #[.slice A0_0 l0_0.length c0_0, .slice A0_1 l0_1.length c0_1]] rfl qA ?_; (with_reducible refine (script_Validate.calls k _ _ l0_0 _ _ l0_1 t228 t229 _ ?side1 ?side2 ?side3 ?side4 A3.out).mono ?_); (case side1 => repeat (first | exact (Kd.C_below HR0_0.out HB.out) | (with_reducible refine Kd.C_alloc ?_ _) | (with_reducible refine Kd.C_drewN ?_ _) | (with_reducible refine Kd.C_drew ?_))); (case side2 => exact HC0_0.out); (case side3 => repeat (first | exact (Kd.C_below HR0_1.out HB.out) | (with_reducible refine Kd.C_alloc ?_ _) | (with_reducible refine Kd.C_drewN ?_ _) | (with_reducible refine Kd.C_drew ?_))); (case side4 => exact HC0_1.out); rintro e w9 ⟨rfl, hb⟩; refine ⟨_, rfl, ?_⟩; have n0_ := Aside0.mk (blk_below (g := gb226) (o := .cells #[.slice A0_0 l0_0.length c0_0, .slice A0_1 l0_1.length c0_1] 46 (0, 0)) (qK BK226) hb); have n1_ := Aside0.mk (blk_below (g := gb227) (o := .cells #[.int .i64 0, .int .i64 0] 26 (0, 0)) (qK BK227) hb); have n2_ := Aside0.mk (below_step qB hb); clear BK226; clear BK227; clear HB; have BK226 := n0_; have BK227 := n1_; have HB := n2_; clear n0_ n1_ n2_; (try clear hb); (try clear hb2); (try clear hk); (try clear hi)) | ((with_reducible refine gate_dst (N := 7) rfl ?_); refine qX (N := 7) (cs := #[.int .i64 0, .int .i64 0]) (t := 26) ?_; intro gb230 hg w10 hbox hb; have n0_ := Aside0.mk (blk_below (g := gb226) (o := .cells #[.slice A0_0 l0_0.length c0_0, .slice A0_1 l0_1.length c0_1] 46 (0, 0)) (qK BK226) hb); have n1_ := Aside0.mk (blk_below (g := gb227) (o := .cells #[.int .i64 0, .int .i64 0] 26 (0, 0)) (qK BK227) hb); have n2_ := Aside0.mk (below_step qB hb); have n3_ := Aside0.mk (hbox); have n4_ := Aside0.mk ((qG hg : w.heap.size ≤ gb230)); have n5_ := Aside0.mk ((qG hg : w.heap.size ≤ gb230)); have n6_ := Aside0.mk ((by rw [hg]; exact Nat.ne_of_lt (blk_lt (g := gb226) (o := .cells #[.slice A0_0 l0_0.length c0_0, .slice A0_1 l0_1.length c0_1] 46 (0, 0)) (qK BK226)) : gb226 ≠ gb230)); have n7_ := Aside0.mk ((by rw [hg]; exact Nat.ne_of_gt (blk_lt (g := gb226) (o := .cells #[.slice A0_0 l0_0.length c0_0, .slice A0_1 l0_1.length c0_1] 46 (0, 0)) (qK BK226)) : gb230 ≠ gb226)); have n8_ := Aside0.mk ((by rw [hg]; exact Nat.ne_of_lt (blk_lt (g := gb227) (o := .cells #[.int .i64 0, .int .i64 0] 26 (0, 0)) (qK BK227)) : gb227 ≠ gb230)); have n9_ := Aside0.mk ((by rw [hg]; exact Nat.ne_of_gt (blk_lt (g := gb227) (o := .cells #[.int .i64 0, .int .i64 0] 26 (0, 0)) (qK BK227)) : gb230 ≠ gb227)); clear BK226; clear BK227; clear HB; have BK226 := n0_; have BK227 := n1_; have HB := n2_; have BK230 := n3_; have GW230 := n4_; have GE230 := n5_; have NB226_230 := n6_; have NB230_226 := n7_; have NB227_230 := n8_; have NB230_227 := n9_; clear n0_ n1_ n2_ n3_ n4_ n5_ n6_ n7_ n8_ n9_; clear hb hbox hg; have hnb11 := NB230_226.out; have hnc11 := NB226_230.out; have hnb12 := NB230_227.out; have hnc12 := NB227_230.out; have hcz13_0 : w10.cell? ⟨gb230, 0, none⟩ = some (.int .i64 0) := (blk_cell BK230.out 0).trans rfl; have hcz13_1 : w10.cell? ⟨gb230, 1, none⟩ = some (.int .i64 0) := (blk_cell BK230.out 1).trans rfl; have hfz13_0 := blk_frozen BK230.out 0; have hfz13_1 := blk_frozen BK230.out 1))
  have n0_ : Aside0 (((w10.setCell ⟨gb230, 0, none⟩ (.int .i64 t228)).setCell ⟨gb230, 1, none⟩ (.int .i64 t229)).heap[gb226]? = some (.cells #[.slice A0_0 l0_0.length c0_0, .slice A0_1 l0_1.length c0_1] 46 (0, 0))) := ⟨by (with_reducible repeat (first | refine blk_drewN ?_ _ | refine blk_drew ?_ | refine blk_alloc ?_ _)); refine blk_far ?_ NB226_230.out _; (with_reducible repeat (first | refine blk_drewN ?_ _ | refine blk_drew ?_ | refine blk_alloc ?_ _)); refine blk_far ?_ NB226_230.out _; exact qK BK226⟩
  have n1_ : Aside0 (((w10.setCell ⟨gb230, 0, none⟩ (.int .i64 t228)).setCell ⟨gb230, 1, none⟩ (.int .i64 t229)).heap[gb227]? = some (.cells #[.int .i64 0, .int .i64 0] 26 (0, 0))) := ⟨by (with_reducible repeat (first | refine blk_drewN ?_ _ | refine blk_drew ?_ | refine blk_alloc ?_ _)); refine blk_far ?_ NB227_230.out _; (with_reducible repeat (first | refine blk_drewN ?_ _ | refine blk_drew ?_ | refine blk_alloc ?_ _)); refine blk_far ?_ NB227_230.out _; exact qK BK227⟩
  have n2_ : Aside0 (((w10.setCell ⟨gb230, 0, none⟩ (.int .i64 t228)).setCell ⟨gb230, 1, none⟩ (.int .i64 t229)).heap[gb230]? = some (.cells #[.int .i64 t228, .int .i64 t229] 26 (0, 0))) := ⟨by (with_reducible repeat (first | refine blk_drewN ?_ _ | refine blk_drew ?_ | refine blk_alloc ?_ _)); refine blk_put (cs := #[.int .i64 t228, .int .i64 0]) ?_ 1 _ rfl; (with_reducible repeat (first | refine blk_drewN ?_ _ | refine blk_drew ?_ | refine blk_alloc ?_ _)); refine blk_put (cs := #[.int .i64 0, .int .i64 0]) ?_ 0 _ rfl; exact qK BK230⟩
  have n3_ : Aside0 (Below w.heap.size w ((w10.setCell ⟨gb230, 0, none⟩ (.int .i64 t228)).setCell ⟨gb230, 1, none⟩ (.int .i64 t229))) := ⟨qB⟩
  (try clear BK226)
  (try clear BK227)
  (try clear BK230)
  (try clear HB)
  generalize ((w10.setCell ⟨gb230, 0, none⟩ (.int .i64 t228)).setCell ⟨gb230, 1, none⟩ (.int .i64 t229)) = w14 at n0_ n1_ n2_ n3_ ⊢
  have BK226 := n0_
  have BK227 := n1_
  have BK230 := n2_
  have HB := n3_
  clear n0_ n1_ n2_ n3_
  have n0_ := Aside0.mk (blk_drew BK226.out)
  have n1_ := Aside0.mk (blk_drew BK227.out)
  have n2_ := Aside0.mk (blk_drew BK230.out)
  have n3_ := Aside0.mk (below_drew1 HB.out)
  clear BK226
  clear BK227
  clear BK230
  clear HB
  have BK226 := n0_
  have BK227 := n1_
  have BK230 := n2_
  have HB := n3_
  clear n0_ n1_ n2_ n3_
  refine start_ (n := 4) (S := fun w' => w'.cell? ⟨gb230, 0, none⟩ = some (.int .i64 t228) ∧ w'.cell? ⟨gb230, 1, none⟩ = some (.int .i64 t229)) (ds := []) #[false, false, false, false] (by kernel_rfl) rfl rfl ⟨(blk_cell BK230.out 0).trans rfl, (blk_cell BK230.out 1).trans rfl⟩ (fun hHeld => ?_)
  generalize w14.drew = w15 at BK226 BK227 BK230 HB hHeld ⊢
  refine pure_ (i := 1) (N := some 4) (v := ?_) (a' := ?_) #[false, true, false, false] rfl rfl (by kernel_rfl) (fun _ _ _ h => h) (Or.inl ⟨by rfl, ?_⟩) ?_ ?_
  rotate_left
  ·intro w'
   go_simp
   with_reducible rfl
  rotate_left
  ·simp only [Act.put, List.setIfInBounds_toArray, List.set_cons_zero, List.set_cons_succ, i64_w, i32_w]
   rfl
  refine pure_ (i := 2) (N := some 5) (v := ?_) (a' := ?_) #[false, true, true, false] rfl rfl (by kernel_rfl) (fun _ _ _ h => h) (Or.inl ⟨by rfl, ?_⟩) ?_ ?_
  rotate_left
  ·intro w'
   go_simp
   with_reducible rfl
  rotate_left
  ·simp only [Act.put, List.setIfInBounds_toArray, List.set_cons_zero, List.set_cons_succ, i64_w, i32_w]
   rfl
  refine take_ (i := 0) (N := some 14) (v := ?_) (a' := ?_) #[true, true, true, false] rfl rfl (by kernel_rfl) (fun _ _ _ h => h) (Or.inl ⟨by rfl, ?_⟩) hHeld ?_ ?_
  rotate_left
  ·rintro w' ⟨s0, s1⟩
   go_simp
   with_reducible rfl
  rotate_left
  ·simp only [Act.put, List.setIfInBounds_toArray, List.set_cons_zero, List.set_cons_succ, i64_w, i32_w]
   rfl
  refine one_ (i := 3) (N := none) #[true, true, true, true] rfl rfl (by kernel_rfl) (by decide) (fun K hK => ?_)
  have hs16 : w15.cell? ⟨gb227, 0, none⟩ = some (.int .i64 0) := (blk_cell BK227.out 0).trans rfl
  have hfs16 := blk_frozen BK227.out 0
  have hns16_0 := NB226_227.out
  have hns16_2 := NB230_227.out
  have hms16_0 := NB227_226.out
  have hms16_2 := NB227_230.out
  have hs17 : w15.cell? ⟨gb227, 1, none⟩ = some (.int .i64 0) := (blk_cell BK227.out 1).trans rfl
  have hfs17 := blk_frozen BK227.out 1
  have hns17_0 := NB226_227.out
  have hns17_2 := NB230_227.out
  have hms17_0 := NB227_226.out
  have hms17_2 := NB227_230.out
  refine skip_ (w1 := ?_) (by rfl) rfl ?_ ?_
  rotate_left
  ·go_simp
   rfl
  refine hK.out _ _ ⟨((cell_far (p := ⟨gb227, _, none⟩) NB230_227.out _).trans (((cell_far (p := ⟨gb227, _, none⟩) NB230_227.out _).trans (hHeld.1)))), ((cell_far (p := ⟨gb227, _, none⟩) NB230_227.out _).trans (((cell_far (p := ⟨gb227, _, none⟩) NB230_227.out _).trans (hHeld.2))))⟩ (fun hHeld => ?_)
  clear hK K
  refine done_ (by kernel_rfl) ?_
  try go_wp2
  refine bodyPost_ret (results_list (rs := [.tmp 4, .tmp 5, .cell 6 26]) rfl (by simp) (.tmp (.tmp (.cell gb227 26 #[.int .i64 t228, .int .i64 t229] (0, 0) _ rfl (by (with_reducible repeat (first | refine blk_drewN ?_ _ | refine blk_drew ?_ | refine blk_alloc ?_ _)); refine blk_put (cs := #[.int .i64 t228, .int .i64 0]) ?_ 1 _ rfl; (with_reducible repeat (first | refine blk_drewN ?_ _ | refine blk_drew ?_ | refine blk_alloc ?_ _)); refine blk_put (cs := #[.int .i64 0, .int .i64 0]) ?_ 0 _ rfl; exact qK BK227) Try.underlying26 rfl (by kernel_rfl) .nil)))) rfl ?_
  exact ⟨_, _, qE, qL, qL, qB⟩
 ·rw [if_neg c4] at H
  have c4b0 : (!(t228 == 0) || (!(t229 == 0))) = false := by simpa using c4
  clear c4
  replace H := Option.bind_eq_some_iff.mp H
  obtain ⟨⟨t231, t232⟩, A180, H⟩ := H
  replace H : (if (!(t231 == 0) || (!(t232 == 0))) = true then (some (([] : List Int), ([] : List (S58)), t231, t232)) else ((place_Assign.f k l0_0 l0_1 l1).bind fun bt234 => (some (bt234.1, bt234.2.1, bt234.2.2.1, bt234.2.2.2)))) = some (r1, r2, r3, r4) := H
  have A18 := Aside0.mk A180
  clear A180
  by_cases c19 : (!(t231 == 0) || (!(t232 == 0))) = true
  ·rw [if_pos c19] at H
   have c19b0 : (!(t231 == 0) || (!(t232 == 0))) = true := c19
   clear c19
   simp only [Option.some.injEq, Prod.mk.injEq] at H
   obtain ⟨rfl, rfl, rfl, rfl⟩ := H
   go_enter Try.func23, Try.ntmps23
   try go_wp2_with (first | ((with_reducible refine gate_dst (N := 2) rfl ?_); refine qX (N := 2) (cs := #[.slice A0_0 l0_0.length c0_0, .slice A0_1 l0_1.length c0_1]) (t := 46) ?_; intro gb226 hg w20 hbox hb; have n0_ := Aside0.mk (below_step qB hb); have n1_ := Aside0.mk (hbox); have n2_ := Aside0.mk ((qG hg : w.heap.size ≤ gb226)); have n3_ := Aside0.mk ((qG hg : w.heap.size ≤ gb226)); clear HB; have HB := n0_; have BK226 := n1_; have GW226 := n2_; have GE226 := n3_; clear n0_ n1_ n2_ n3_; clear hb hbox hg) | ((with_reducible refine gate_dst (N := 6) rfl ?_); refine qX (N := 6) (cs := #[.int .i64 0, .int .i64 0]) (t := 26) ?_; intro gb227 hg w21 hbox hb; have n0_ := Aside0.mk (blk_below (g := gb226) (o := .cells #[.slice A0_0 l0_0.length c0_0, .slice A0_1 l0_1.length c0_1] 46 (0, 0)) (qK BK226) hb); have n1_ := Aside0.mk (below_step qB hb); have n2_ := Aside0.mk (hbox); have n3_ := Aside0.mk ((qG hg : w.heap.size ≤ gb227)); have n4_ := Aside0.mk ((qG hg : w.heap.size ≤ gb227)); have n5_ := Aside0.mk ((by rw [hg]; exact Nat.ne_of_lt (blk_lt (g := gb226) (o := .cells #[.slice A0_0 l0_0.length c0_0, .slice A0_1 l0_1.length c0_1] 46 (0, 0)) (qK BK226)) : gb226 ≠ gb227)); have n6_ := Aside0.mk ((by rw [hg]; exact Nat.ne_of_gt (blk_lt (g := gb226) (o := .cells #[.slice A0_0 l0_0.length c0_0, .slice A0_1 l0_1.length c0_1] 46 (0, 0)) (qK BK226)) : gb227 ≠ gb226)); clear BK226; clear HB; have BK226 := n0_; have HB := n1_; have BK227 := n2_; have GW227 := n3_; have GE227 := n4_; have NB226_227 := n5_; have NB227_226 := n6_; clear n0_ n1_ n2_ n3_ n4_ n5_ n6_; clear hb hbox hg; have hnb22 := NB226_227.out; have hnc22 := NB227_226.out; have hcz23_0 : w21.cell? ⟨gb226, 0, none⟩ = some (.slice A0_0 l0_0.length c0_0) := (blk_cell BK226.out 0).trans rfl; have hcz23_1 : w21.cell? ⟨gb226, 1, none⟩ = some (.slice A0_1 l0_1.length c0_1) := (blk_cell BK226.out 1).trans rfl; have hfz23_0 := blk_frozen BK226.out 0; have hfz23_1 := blk_frozen BK226.out 1) | ((with_reducible refine gate_callee (f := 38) rfl ?_); refine goesL_ (some 10) rfl rfl Try.func38 (by kernel_rfl) rfl #[.agg #[.slice A0_0 l0_0.length c0_0, .slice A0_1 l0_1.length c0_1]] rfl qA ?_; (with_reducible refine (script_Validate.calls k _ _ l0_0 _ _ l0_1 t228 t229 _ ?side1 ?side2 ?side3 ?side4 A3.out).mono ?_); (case side1 => repeat (first | exact (Kd.C_below HR0_0.out HB.out) | (with_reducible refine Kd.C_alloc ?_ _) | (with_reducible refine Kd.C_drewN ?_ _) | (with_reducible refine Kd.C_drew ?_))); (case side2 => exact HC0_0.out); (case side3 => repeat (first | exact (Kd.C_below HR0_1.out HB.out) | (with_reducible refine Kd.C_alloc ?_ _) | (with_reducible refine Kd.C_drewN ?_ _) | (with_reducible refine Kd.C_drew ?_))); (case side4 => exact HC0_1.out); rintro e w24 ⟨rfl, hb⟩; refine ⟨_, rfl, ?_⟩; have n0_ := Aside0.mk (blk_below (g := gb226) (o := .cells #[.slice A0_0 l0_0.length c0_0, .slice A0_1 l0_1.length c0_1] 46 (0, 0)) (qK BK226) hb); have n1_ := Aside0.mk (blk_below (g := gb227) (o := .cells #[.int .i64 0, .int .i64 0] 26 (0, 0)) (qK BK227) hb); have n2_ := Aside0.mk (below_step qB hb); clear BK226; clear BK227; clear HB; have BK226 := n0_; have BK227 := n1_; have HB := n2_; clear n0_ n1_ n2_; (try clear hb); (try clear hb2); (try clear hk); (try clear hi)) | ((with_reducible refine gate_dst (N := 7) rfl ?_); refine qX (N := 7) (cs := #[.int .i64 0, .int .i64 0]) (t := 26) ?_; intro gb230 hg w25 hbox hb; have n0_ := Aside0.mk (blk_below (g := gb226) (o := .cells #[.slice A0_0 l0_0.length c0_0, .slice A0_1 l0_1.length c0_1] 46 (0, 0)) (qK BK226) hb); have n1_ := Aside0.mk (blk_below (g := gb227) (o := .cells #[.int .i64 0, .int .i64 0] 26 (0, 0)) (qK BK227) hb); have n2_ := Aside0.mk (below_step qB hb); have n3_ := Aside0.mk (hbox); have n4_ := Aside0.mk ((qG hg : w.heap.size ≤ gb230)); have n5_ := Aside0.mk ((qG hg : w.heap.size ≤ gb230)); have n6_ := Aside0.mk ((by rw [hg]; exact Nat.ne_of_lt (blk_lt (g := gb226) (o := .cells #[.slice A0_0 l0_0.length c0_0, .slice A0_1 l0_1.length c0_1] 46 (0, 0)) (qK BK226)) : gb226 ≠ gb230)); have n7_ := Aside0.mk ((by rw [hg]; exact Nat.ne_of_gt (blk_lt (g := gb226) (o := .cells #[.slice A0_0 l0_0.length c0_0, .slice A0_1 l0_1.length c0_1] 46 (0, 0)) (qK BK226)) : gb230 ≠ gb226)); have n8_ := Aside0.mk ((by rw [hg]; exact Nat.ne_of_lt (blk_lt (g := gb227) (o := .cells #[.int .i64 0, .int .i64 0] 26 (0, 0)) (qK BK227)) : gb227 ≠ gb230)); have n9_ := Aside0.mk ((by rw [hg]; exact Nat.ne_of_gt (blk_lt (g := gb227) (o := .cells #[.int .i64 0, .int .i64 0] 26 (0, 0)) (qK BK227)) : gb230 ≠ gb227)); clear BK226; clear BK227; clear HB; have BK226 := n0_; have BK227 := n1_; have HB := n2_; have BK230 := n3_; have GW230 := n4_; have GE230 := n5_; have NB226_230 := n6_; have NB230_226 := n7_; have NB227_230 := n8_; have NB230_227 := n9_; clear n0_ n1_ n2_ n3_ n4_ n5_ n6_ n7_ n8_ n9_; clear hb hbox hg; have hnb26 := NB230_226.out; have hnc26 := NB226_230.out; have hnb27 := NB230_227.out; have hnc27 := NB227_230.out; have hcz28_0 : w25.cell? ⟨gb230, 0, none⟩ = some (.int .i64 0) := (blk_cell BK230.out 0).trans rfl; have hcz28_1 : w25.cell? ⟨gb230, 1, none⟩ = some (.int .i64 0) := (blk_cell BK230.out 1).trans rfl; have hfz28_0 := blk_frozen BK230.out 0; have hfz28_1 := blk_frozen BK230.out 1; have hcz29_0 : w25.cell? ⟨gb226, 0, none⟩ = some (.slice A0_0 l0_0.length c0_0) := (blk_cell BK226.out 0).trans rfl; have hcz29_1 : w25.cell? ⟨gb226, 1, none⟩ = some (.slice A0_1 l0_1.length c0_1) := (blk_cell BK226.out 1).trans rfl; have hfz29_0 := blk_frozen BK226.out 0; have hfz29_1 := blk_frozen BK226.out 1) | ((with_reducible refine gate_callee (f := 39) rfl ?_); refine goesL_ (some 19) rfl rfl Try.func39 (by kernel_rfl) rfl #[.slice A1 l1.length c1, .int .i64 (l0_0.length : Int)] rfl qA ?_; (with_reducible refine (place_Items.calls k _ _ l1 (l0_0.length : Int) t231 t232 _ ?side1 ?side2 A18.out).mono ?_); (case side1 => exact Kd.C_below HR1.out qB); (case side2 => exact HC1.out); rintro e w30 ⟨rfl, hb⟩; refine ⟨_, rfl, ?_⟩; have n0_ := Aside0.mk (blk_below (g := gb226) (o := .cells #[.slice A0_0 l0_0.length c0_0, .slice A0_1 l0_1.length c0_1] 46 (0, 0)) (by (with_reducible repeat (first | refine blk_drewN ?_ _ | refine blk_drew ?_ | refine blk_alloc ?_ _)); refine blk_far ?_ NB226_230.out _; (with_reducible repeat (first | refine blk_drewN ?_ _ | refine blk_drew ?_ | refine blk_alloc ?_ _)); refine blk_far ?_ NB226_230.out _; exact qK BK226) hb); have n1_ := Aside0.mk (blk_below (g := gb227) (o := .cells #[.int .i64 0, .int .i64 0] 26 (0, 0)) (by (with_reducible repeat (first | refine blk_drewN ?_ _ | refine blk_drew ?_ | refine blk_alloc ?_ _)); refine blk_far ?_ NB227_230.out _; (with_reducible repeat (first | refine blk_drewN ?_ _ | refine blk_drew ?_ | refine blk_alloc ?_ _)); refine blk_far ?_ NB227_230.out _; exact qK BK227) hb); have n2_ := Aside0.mk (blk_below (g := gb230) (o := .cells #[.int .i64 t228, .int .i64 t229] 26 (0, 0)) (by (with_reducible repeat (first | refine blk_drewN ?_ _ | refine blk_drew ?_ | refine blk_alloc ?_ _)); refine blk_put (cs := #[.int .i64 t228, .int .i64 0]) ?_ 1 _ rfl; (with_reducible repeat (first | refine blk_drewN ?_ _ | refine blk_drew ?_ | refine blk_alloc ?_ _)); refine blk_put (cs := #[.int .i64 0, .int .i64 0]) ?_ 0 _ rfl; exact qK BK230) hb); have n3_ := Aside0.mk (below_step qB hb); clear BK226; clear BK227; clear BK230; clear HB; have BK226 := n0_; have BK227 := n1_; have BK230 := n2_; have HB := n3_; clear n0_ n1_ n2_ n3_; (try clear hb); (try clear hb2); (try clear hk); (try clear hi)) | ((with_reducible refine gate_dst (N := 8) rfl ?_); refine qX (N := 8) (cs := #[.int .i64 0, .int .i64 0]) (t := 26) ?_; intro gb233 hg w31 hbox hb; have n0_ := Aside0.mk (blk_below (g := gb226) (o := .cells #[.slice A0_0 l0_0.length c0_0, .slice A0_1 l0_1.length c0_1] 46 (0, 0)) (qK BK226) hb); have n1_ := Aside0.mk (blk_below (g := gb227) (o := .cells #[.int .i64 0, .int .i64 0] 26 (0, 0)) (qK BK227) hb); have n2_ := Aside0.mk (blk_below (g := gb230) (o := .cells #[.int .i64 t228, .int .i64 t229] 26 (0, 0)) (qK BK230) hb); have n3_ := Aside0.mk (below_step qB hb); have n4_ := Aside0.mk (hbox); have n5_ := Aside0.mk ((qG hg : w.heap.size ≤ gb233)); have n6_ := Aside0.mk ((qG hg : w.heap.size ≤ gb233)); have n7_ := Aside0.mk ((by rw [hg]; exact Nat.ne_of_lt (blk_lt (g := gb226) (o := .cells #[.slice A0_0 l0_0.length c0_0, .slice A0_1 l0_1.length c0_1] 46 (0, 0)) (qK BK226)) : gb226 ≠ gb233)); have n8_ := Aside0.mk ((by rw [hg]; exact Nat.ne_of_gt (blk_lt (g := gb226) (o := .cells #[.slice A0_0 l0_0.length c0_0, .slice A0_1 l0_1.length c0_1] 46 (0, 0)) (qK BK226)) : gb233 ≠ gb226)); have n9_ := Aside0.mk ((by rw [hg]; exact Nat.ne_of_lt (blk_lt (g := gb227) (o := .cells #[.int .i64 0, .int .i64 0] 26 (0, 0)) (qK BK227)) : gb227 ≠ gb233)); have n10_ := Aside0.mk ((by rw [hg]; exact Nat.ne_of_gt (blk_lt (g := gb227) (o := .cells #[.int .i64 0, .int .i64 0] 26 (0, 0)) (qK BK227)) : gb233 ≠ gb227)); have n11_ := Aside0.mk ((by rw [hg]; exact Nat.ne_of_lt (blk_lt (g := gb230) (o := .cells #[.int .i64 t228, .int .i64 t229] 26 (0, 0)) (qK BK230)) : gb230 ≠ gb233)); have n12_ := Aside0.mk ((by rw [hg]; exact Nat.ne_of_gt (blk_lt (g := gb230) (o := .cells #[.int .i64 t228, .int .i64 t229] 26 (0, 0)) (qK BK230)) : gb233 ≠ gb230)); clear BK226; clear BK227; clear BK230; clear HB; have BK226 := n0_; have BK227 := n1_; have BK230 := n2_; have HB := n3_; have BK233 := n4_; have GW233 := n5_; have GE233 := n6_; have NB226_233 := n7_; have NB233_226 := n8_; have NB227_233 := n9_; have NB233_227 := n10_; have NB230_233 := n11_; have NB233_230 := n12_; clear n0_ n1_ n2_ n3_ n4_ n5_ n6_ n7_ n8_ n9_ n10_ n11_ n12_; clear hb hbox hg; have hnb32 := NB233_226.out; have hnc32 := NB226_233.out; have hnb33 := NB233_227.out; have hnc33 := NB227_233.out; have hnb34 := NB233_230.out; have hnc34 := NB230_233.out; have hcz35_0 : w31.cell? ⟨gb233, 0, none⟩ = some (.int .i64 0) := (blk_cell BK233.out 0).trans rfl; have hcz35_1 : w31.cell? ⟨gb233, 1, none⟩ = some (.int .i64 0) := (blk_cell BK233.out 1).trans rfl; have hfz35_0 := blk_frozen BK233.out 0; have hfz35_1 := blk_frozen BK233.out 1))
   have n0_ : Aside0 (((w31.setCell ⟨gb233, 0, none⟩ (.int .i64 t231)).setCell ⟨gb233, 1, none⟩ (.int .i64 t232)).heap[gb226]? = some (.cells #[.slice A0_0 l0_0.length c0_0, .slice A0_1 l0_1.length c0_1] 46 (0, 0))) := ⟨by (with_reducible repeat (first | refine blk_drewN ?_ _ | refine blk_drew ?_ | refine blk_alloc ?_ _)); refine blk_far ?_ NB226_233.out _; (with_reducible repeat (first | refine blk_drewN ?_ _ | refine blk_drew ?_ | refine blk_alloc ?_ _)); refine blk_far ?_ NB226_233.out _; exact qK BK226⟩
   have n1_ : Aside0 (((w31.setCell ⟨gb233, 0, none⟩ (.int .i64 t231)).setCell ⟨gb233, 1, none⟩ (.int .i64 t232)).heap[gb227]? = some (.cells #[.int .i64 0, .int .i64 0] 26 (0, 0))) := ⟨by (with_reducible repeat (first | refine blk_drewN ?_ _ | refine blk_drew ?_ | refine blk_alloc ?_ _)); refine blk_far ?_ NB227_233.out _; (with_reducible repeat (first | refine blk_drewN ?_ _ | refine blk_drew ?_ | refine blk_alloc ?_ _)); refine blk_far ?_ NB227_233.out _; exact qK BK227⟩
   have n2_ : Aside0 (((w31.setCell ⟨gb233, 0, none⟩ (.int .i64 t231)).setCell ⟨gb233, 1, none⟩ (.int .i64 t232)).heap[gb230]? = some (.cells #[.int .i64 t228, .int .i64 t229] 26 (0, 0))) := ⟨by (with_reducible repeat (first | refine blk_drewN ?_ _ | refine blk_drew ?_ | refine blk_alloc ?_ _)); refine blk_far ?_ NB230_233.out _; (with_reducible repeat (first | refine blk_drewN ?_ _ | refine blk_drew ?_ | refine blk_alloc ?_ _)); refine blk_far ?_ NB230_233.out _; exact qK BK230⟩
   have n3_ : Aside0 (((w31.setCell ⟨gb233, 0, none⟩ (.int .i64 t231)).setCell ⟨gb233, 1, none⟩ (.int .i64 t232)).heap[gb233]? = some (.cells #[.int .i64 t231, .int .i64 t232] 26 (0, 0))) := ⟨by (with_reducible repeat (first | refine blk_drewN ?_ _ | refine blk_drew ?_ | refine blk_alloc ?_ _)); refine blk_put (cs := #[.int .i64 t231, .int .i64 0]) ?_ 1 _ rfl; (with_reducible repeat (first | refine blk_drewN ?_ _ | refine blk_drew ?_ | refine blk_alloc ?_ _)); refine blk_put (cs := #[.int .i64 0, .int .i64 0]) ?_ 0 _ rfl; exact qK BK233⟩
   have n4_ : Aside0 (Below w.heap.size w ((w31.setCell ⟨gb233, 0, none⟩ (.int .i64 t231)).setCell ⟨gb233, 1, none⟩ (.int .i64 t232))) := ⟨qB⟩
   (try clear BK226)
   (try clear BK227)
   (try clear BK230)
   (try clear BK233)
   (try clear HB)
   generalize ((w31.setCell ⟨gb233, 0, none⟩ (.int .i64 t231)).setCell ⟨gb233, 1, none⟩ (.int .i64 t232)) = w36 at n0_ n1_ n2_ n3_ n4_ ⊢
   have BK226 := n0_
   have BK227 := n1_
   have BK230 := n2_
   have BK233 := n3_
   have HB := n4_
   clear n0_ n1_ n2_ n3_ n4_
   have n0_ := Aside0.mk (blk_drew BK226.out)
   have n1_ := Aside0.mk (blk_drew BK227.out)
   have n2_ := Aside0.mk (blk_drew BK230.out)
   have n3_ := Aside0.mk (blk_drew BK233.out)
   have n4_ := Aside0.mk (below_drew1 HB.out)
   clear BK226
   clear BK227
   clear BK230
   clear BK233
   clear HB
   have BK226 := n0_
   have BK227 := n1_
   have BK230 := n2_
   have BK233 := n3_
   have HB := n4_
   clear n0_ n1_ n2_ n3_ n4_
   refine start_ (n := 4) (S := fun w' => w'.cell? ⟨gb233, 0, none⟩ = some (.int .i64 t231) ∧ w'.cell? ⟨gb233, 1, none⟩ = some (.int .i64 t232)) (ds := []) #[false, false, false, false] (by kernel_rfl) rfl rfl ⟨(blk_cell BK233.out 0).trans rfl, (blk_cell BK233.out 1).trans rfl⟩ (fun hHeld => ?_)
   generalize w36.drew = w37 at BK226 BK227 BK230 BK233 HB hHeld ⊢
   refine pure_ (i := 1) (N := some 4) (v := ?_) (a' := ?_) #[false, true, false, false] rfl rfl (by kernel_rfl) (fun _ _ _ h => h) (Or.inl ⟨by rfl, ?_⟩) ?_ ?_
   rotate_left
   ·intro w'
    go_simp
    with_reducible rfl
   rotate_left
   ·simp only [Act.put, List.setIfInBounds_toArray, List.set_cons_zero, List.set_cons_succ, i64_w, i32_w]
    rfl
   refine pure_ (i := 2) (N := some 5) (v := ?_) (a' := ?_) #[false, true, true, false] rfl rfl (by kernel_rfl) (fun _ _ _ h => h) (Or.inl ⟨by rfl, ?_⟩) ?_ ?_
   rotate_left
   ·intro w'
    go_simp
    with_reducible rfl
   rotate_left
   ·simp only [Act.put, List.setIfInBounds_toArray, List.set_cons_zero, List.set_cons_succ, i64_w, i32_w]
    rfl
   refine take_ (i := 0) (N := some 23) (v := ?_) (a' := ?_) #[true, true, true, false] rfl rfl (by kernel_rfl) (fun _ _ _ h => h) (Or.inl ⟨by rfl, ?_⟩) hHeld ?_ ?_
   rotate_left
   ·rintro w' ⟨s0, s1⟩
    go_simp
    with_reducible rfl
   rotate_left
   ·simp only [Act.put, List.setIfInBounds_toArray, List.set_cons_zero, List.set_cons_succ, i64_w, i32_w]
    rfl
   refine one_ (i := 3) (N := none) #[true, true, true, true] rfl rfl (by kernel_rfl) (by decide) (fun K hK => ?_)
   have hs38 : w37.cell? ⟨gb227, 0, none⟩ = some (.int .i64 0) := (blk_cell BK227.out 0).trans rfl
   have hfs38 := blk_frozen BK227.out 0
   have hns38_0 := NB226_227.out
   have hns38_2 := NB230_227.out
   have hns38_3 := NB233_227.out
   have hms38_0 := NB227_226.out
   have hms38_2 := NB227_230.out
   have hms38_3 := NB227_233.out
   have hs39 : w37.cell? ⟨gb227, 1, none⟩ = some (.int .i64 0) := (blk_cell BK227.out 1).trans rfl
   have hfs39 := blk_frozen BK227.out 1
   have hns39_0 := NB226_227.out
   have hns39_2 := NB230_227.out
   have hns39_3 := NB233_227.out
   have hms39_0 := NB227_226.out
   have hms39_2 := NB227_230.out
   have hms39_3 := NB227_233.out
   refine skip_ (w1 := ?_) (by rfl) rfl ?_ ?_
   rotate_left
   ·go_simp
    rfl
   refine hK.out _ _ ⟨((cell_far (p := ⟨gb227, _, none⟩) NB233_227.out _).trans (((cell_far (p := ⟨gb227, _, none⟩) NB233_227.out _).trans (hHeld.1)))), ((cell_far (p := ⟨gb227, _, none⟩) NB233_227.out _).trans (((cell_far (p := ⟨gb227, _, none⟩) NB233_227.out _).trans (hHeld.2))))⟩ (fun hHeld => ?_)
   clear hK K
   refine done_ (by kernel_rfl) ?_
   try go_wp2
   refine bodyPost_ret (results_list (rs := [.tmp 4, .tmp 5, .cell 6 26]) rfl (by simp) (.tmp (.tmp (.cell gb227 26 #[.int .i64 t231, .int .i64 t232] (0, 0) _ rfl (by (with_reducible repeat (first | refine blk_drewN ?_ _ | refine blk_drew ?_ | refine blk_alloc ?_ _)); refine blk_put (cs := #[.int .i64 t231, .int .i64 0]) ?_ 1 _ rfl; (with_reducible repeat (first | refine blk_drewN ?_ _ | refine blk_drew ?_ | refine blk_alloc ?_ _)); refine blk_put (cs := #[.int .i64 0, .int .i64 0]) ?_ 0 _ rfl; exact qK BK227) Try.underlying26 rfl (by kernel_rfl) .nil)))) rfl ?_
   exact ⟨_, _, qE, qL, qL, qB⟩
  ·rw [if_neg c19] at H
   have c19b0 : (!(t231 == 0) || (!(t232 == 0))) = false := by simpa using c19
   clear c19
   replace H := Option.bind_eq_some_iff.mp H
   obtain ⟨⟨t234, t237, t240, t241⟩, A400, H⟩ := H
   replace H : (some (t234, t237, t240, t241)) = some (r1, r2, r3, r4) := H
   have A40 := Aside0.mk A400
   clear A400
   simp only [Option.some.injEq, Prod.mk.injEq] at H
   obtain ⟨rfl, rfl, rfl, rfl⟩ := H
   go_enter Try.func23, Try.ntmps23
   go_wp2_with (first | ((with_reducible refine gate_dst (N := 2) rfl ?_); refine qX (N := 2) (cs := #[.slice A0_0 l0_0.length c0_0, .slice A0_1 l0_1.length c0_1]) (t := 46) ?_; intro gb226 hg w41 hbox hb; have n0_ := Aside0.mk (below_step qB hb); have n1_ := Aside0.mk (hbox); have n2_ := Aside0.mk ((qG hg : w.heap.size ≤ gb226)); have n3_ := Aside0.mk ((qG hg : w.heap.size ≤ gb226)); clear HB; have HB := n0_; have BK226 := n1_; have GW226 := n2_; have GE226 := n3_; clear n0_ n1_ n2_ n3_; clear hb hbox hg) | ((with_reducible refine gate_dst (N := 6) rfl ?_); refine qX (N := 6) (cs := #[.int .i64 0, .int .i64 0]) (t := 26) ?_; intro gb227 hg w42 hbox hb; have n0_ := Aside0.mk (blk_below (g := gb226) (o := .cells #[.slice A0_0 l0_0.length c0_0, .slice A0_1 l0_1.length c0_1] 46 (0, 0)) (qK BK226) hb); have n1_ := Aside0.mk (below_step qB hb); have n2_ := Aside0.mk (hbox); have n3_ := Aside0.mk ((qG hg : w.heap.size ≤ gb227)); have n4_ := Aside0.mk ((qG hg : w.heap.size ≤ gb227)); have n5_ := Aside0.mk ((by rw [hg]; exact Nat.ne_of_lt (blk_lt (g := gb226) (o := .cells #[.slice A0_0 l0_0.length c0_0, .slice A0_1 l0_1.length c0_1] 46 (0, 0)) (qK BK226)) : gb226 ≠ gb227)); have n6_ := Aside0.mk ((by rw [hg]; exact Nat.ne_of_gt (blk_lt (g := gb226) (o := .cells #[.slice A0_0 l0_0.length c0_0, .slice A0_1 l0_1.length c0_1] 46 (0, 0)) (qK BK226)) : gb227 ≠ gb226)); clear BK226; clear HB; have BK226 := n0_; have HB := n1_; have BK227 := n2_; have GW227 := n3_; have GE227 := n4_; have NB226_227 := n5_; have NB227_226 := n6_; clear n0_ n1_ n2_ n3_ n4_ n5_ n6_; clear hb hbox hg; have hnb43 := NB226_227.out; have hnc43 := NB227_226.out; have hcz44_0 : w42.cell? ⟨gb226, 0, none⟩ = some (.slice A0_0 l0_0.length c0_0) := (blk_cell BK226.out 0).trans rfl; have hcz44_1 : w42.cell? ⟨gb226, 1, none⟩ = some (.slice A0_1 l0_1.length c0_1) := (blk_cell BK226.out 1).trans rfl; have hfz44_0 := blk_frozen BK226.out 0; have hfz44_1 := blk_frozen BK226.out 1) | ((with_reducible refine gate_callee (f := 38) rfl ?_); refine goesL_ (some 10) rfl rfl Try.func38 (by kernel_rfl) rfl #[.agg #[.slice A0_0 l0_0.length c0_0, .slice A0_1 l0_1.length c0_1]] rfl qA ?_; (with_reducible refine (script_Validate.calls k _ _ l0_0 _ _ l0_1 t228 t229 _ ?side1 ?side2 ?side3 ?side4 A3.out).mono ?_); (case side1 => repeat (first | exact (Kd.C_below HR0_0.out HB.out) | (with_reducible refine Kd.C_alloc ?_ _) | (with_reducible refine Kd.C_drewN ?_ _) | (with_reducible refine Kd.C_drew ?_))); (case side2 => exact HC0_0.out); (case side3 => repeat (first | exact (Kd.C_below HR0_1.out HB.out) | (with_reducible refine Kd.C_alloc ?_ _) | (with_reducible refine Kd.C_drewN ?_ _) | (with_reducible refine Kd.C_drew ?_))); (case side4 => exact HC0_1.out); rintro e w45 ⟨rfl, hb⟩; refine ⟨_, rfl, ?_⟩; have n0_ := Aside0.mk (blk_below (g := gb226) (o := .cells #[.slice A0_0 l0_0.length c0_0, .slice A0_1 l0_1.length c0_1] 46 (0, 0)) (qK BK226) hb); have n1_ := Aside0.mk (blk_below (g := gb227) (o := .cells #[.int .i64 0, .int .i64 0] 26 (0, 0)) (qK BK227) hb); have n2_ := Aside0.mk (below_step qB hb); clear BK226; clear BK227; clear HB; have BK226 := n0_; have BK227 := n1_; have HB := n2_; clear n0_ n1_ n2_; (try clear hb); (try clear hb2); (try clear hk); (try clear hi)) | ((with_reducible refine gate_dst (N := 7) rfl ?_); refine qX (N := 7) (cs := #[.int .i64 0, .int .i64 0]) (t := 26) ?_; intro gb230 hg w46 hbox hb; have n0_ := Aside0.mk (blk_below (g := gb226) (o := .cells #[.slice A0_0 l0_0.length c0_0, .slice A0_1 l0_1.length c0_1] 46 (0, 0)) (qK BK226) hb); have n1_ := Aside0.mk (blk_below (g := gb227) (o := .cells #[.int .i64 0, .int .i64 0] 26 (0, 0)) (qK BK227) hb); have n2_ := Aside0.mk (below_step qB hb); have n3_ := Aside0.mk (hbox); have n4_ := Aside0.mk ((qG hg : w.heap.size ≤ gb230)); have n5_ := Aside0.mk ((qG hg : w.heap.size ≤ gb230)); have n6_ := Aside0.mk ((by rw [hg]; exact Nat.ne_of_lt (blk_lt (g := gb226) (o := .cells #[.slice A0_0 l0_0.length c0_0, .slice A0_1 l0_1.length c0_1] 46 (0, 0)) (qK BK226)) : gb226 ≠ gb230)); have n7_ := Aside0.mk ((by rw [hg]; exact Nat.ne_of_gt (blk_lt (g := gb226) (o := .cells #[.slice A0_0 l0_0.length c0_0, .slice A0_1 l0_1.length c0_1] 46 (0, 0)) (qK BK226)) : gb230 ≠ gb226)); have n8_ := Aside0.mk ((by rw [hg]; exact Nat.ne_of_lt (blk_lt (g := gb227) (o := .cells #[.int .i64 0, .int .i64 0] 26 (0, 0)) (qK BK227)) : gb227 ≠ gb230)); have n9_ := Aside0.mk ((by rw [hg]; exact Nat.ne_of_gt (blk_lt (g := gb227) (o := .cells #[.int .i64 0, .int .i64 0] 26 (0, 0)) (qK BK227)) : gb230 ≠ gb227)); clear BK226; clear BK227; clear HB; have BK226 := n0_; have BK227 := n1_; have HB := n2_; have BK230 := n3_; have GW230 := n4_; have GE230 := n5_; have NB226_230 := n6_; have NB230_226 := n7_; have NB227_230 := n8_; have NB230_227 := n9_; clear n0_ n1_ n2_ n3_ n4_ n5_ n6_ n7_ n8_ n9_; clear hb hbox hg; have hnb47 := NB230_226.out; have hnc47 := NB226_230.out; have hnb48 := NB230_227.out; have hnc48 := NB227_230.out; have hcz49_0 : w46.cell? ⟨gb230, 0, none⟩ = some (.int .i64 0) := (blk_cell BK230.out 0).trans rfl; have hcz49_1 : w46.cell? ⟨gb230, 1, none⟩ = some (.int .i64 0) := (blk_cell BK230.out 1).trans rfl; have hfz49_0 := blk_frozen BK230.out 0; have hfz49_1 := blk_frozen BK230.out 1; have hcz50_0 : w46.cell? ⟨gb226, 0, none⟩ = some (.slice A0_0 l0_0.length c0_0) := (blk_cell BK226.out 0).trans rfl; have hcz50_1 : w46.cell? ⟨gb226, 1, none⟩ = some (.slice A0_1 l0_1.length c0_1) := (blk_cell BK226.out 1).trans rfl; have hfz50_0 := blk_frozen BK226.out 0; have hfz50_1 := blk_frozen BK226.out 1) | ((with_reducible refine gate_callee (f := 39) rfl ?_); refine goesL_ (some 19) rfl rfl Try.func39 (by kernel_rfl) rfl #[.slice A1 l1.length c1, .int .i64 (l0_0.length : Int)] rfl qA ?_; (with_reducible refine (place_Items.calls k _ _ l1 (l0_0.length : Int) t231 t232 _ ?side1 ?side2 A18.out).mono ?_); (case side1 => exact Kd.C_below HR1.out qB); (case side2 => exact HC1.out); rintro e w51 ⟨rfl, hb⟩; refine ⟨_, rfl, ?_⟩; have n0_ := Aside0.mk (blk_below (g := gb226) (o := .cells #[.slice A0_0 l0_0.length c0_0, .slice A0_1 l0_1.length c0_1] 46 (0, 0)) (by (with_reducible repeat (first | refine blk_drewN ?_ _ | refine blk_drew ?_ | refine blk_alloc ?_ _)); refine blk_far ?_ NB226_230.out _; (with_reducible repeat (first | refine blk_drewN ?_ _ | refine blk_drew ?_ | refine blk_alloc ?_ _)); refine blk_far ?_ NB226_230.out _; exact qK BK226) hb); have n1_ := Aside0.mk (blk_below (g := gb227) (o := .cells #[.int .i64 0, .int .i64 0] 26 (0, 0)) (by (with_reducible repeat (first | refine blk_drewN ?_ _ | refine blk_drew ?_ | refine blk_alloc ?_ _)); refine blk_far ?_ NB227_230.out _; (with_reducible repeat (first | refine blk_drewN ?_ _ | refine blk_drew ?_ | refine blk_alloc ?_ _)); refine blk_far ?_ NB227_230.out _; exact qK BK227) hb); have n2_ := Aside0.mk (blk_below (g := gb230) (o := .cells #[.int .i64 t228, .int .i64 t229] 26 (0, 0)) (by (with_reducible repeat (first | refine blk_drewN ?_ _ | refine blk_drew ?_ | refine blk_alloc ?_ _)); refine blk_put (cs := #[.int .i64 t228, .int .i64 0]) ?_ 1 _ rfl; (with_reducible repeat (first | refine blk_drewN ?_ _ | refine blk_drew ?_ | refine blk_alloc ?_ _)); refine blk_put (cs := #[.int .i64 0, .int .i64 0]) ?_ 0 _ rfl; exact qK BK230) hb); have n3_ := Aside0.mk (below_step qB hb); clear BK226; clear BK227; clear BK230; clear HB; have BK226 := n0_; have BK227 := n1_; have BK230 := n2_; have HB := n3_; clear n0_ n1_ n2_ n3_; (try clear hb); (try clear hb2); (try clear hk); (try clear hi)) | ((with_reducible refine gate_dst (N := 8) rfl ?_); refine qX (N := 8) (cs := #[.int .i64 0, .int .i64 0]) (t := 26) ?_; intro gb233 hg w52 hbox hb; have n0_ := Aside0.mk (blk_below (g := gb226) (o := .cells #[.slice A0_0 l0_0.length c0_0, .slice A0_1 l0_1.length c0_1] 46 (0, 0)) (qK BK226) hb); have n1_ := Aside0.mk (blk_below (g := gb227) (o := .cells #[.int .i64 0, .int .i64 0] 26 (0, 0)) (qK BK227) hb); have n2_ := Aside0.mk (blk_below (g := gb230) (o := .cells #[.int .i64 t228, .int .i64 t229] 26 (0, 0)) (qK BK230) hb); have n3_ := Aside0.mk (below_step qB hb); have n4_ := Aside0.mk (hbox); have n5_ := Aside0.mk ((qG hg : w.heap.size ≤ gb233)); have n6_ := Aside0.mk ((qG hg : w.heap.size ≤ gb233)); have n7_ := Aside0.mk ((by rw [hg]; exact Nat.ne_of_lt (blk_lt (g := gb226) (o := .cells #[.slice A0_0 l0_0.length c0_0, .slice A0_1 l0_1.length c0_1] 46 (0, 0)) (qK BK226)) : gb226 ≠ gb233)); have n8_ := Aside0.mk ((by rw [hg]; exact Nat.ne_of_gt (blk_lt (g := gb226) (o := .cells #[.slice A0_0 l0_0.length c0_0, .slice A0_1 l0_1.length c0_1] 46 (0, 0)) (qK BK226)) : gb233 ≠ gb226)); have n9_ := Aside0.mk ((by rw [hg]; exact Nat.ne_of_lt (blk_lt (g := gb227) (o := .cells #[.int .i64 0, .int .i64 0] 26 (0, 0)) (qK BK227)) : gb227 ≠ gb233)); have n10_ := Aside0.mk ((by rw [hg]; exact Nat.ne_of_gt (blk_lt (g := gb227) (o := .cells #[.int .i64 0, .int .i64 0] 26 (0, 0)) (qK BK227)) : gb233 ≠ gb227)); have n11_ := Aside0.mk ((by rw [hg]; exact Nat.ne_of_lt (blk_lt (g := gb230) (o := .cells #[.int .i64 t228, .int .i64 t229] 26 (0, 0)) (qK BK230)) : gb230 ≠ gb233)); have n12_ := Aside0.mk ((by rw [hg]; exact Nat.ne_of_gt (blk_lt (g := gb230) (o := .cells #[.int .i64 t228, .int .i64 t229] 26 (0, 0)) (qK BK230)) : gb233 ≠ gb230)); clear BK226; clear BK227; clear BK230; clear HB; have BK226 := n0_; have BK227 := n1_; have BK230 := n2_; have HB := n3_; have BK233 := n4_; have GW233 := n5_; have GE233 := n6_; have NB226_233 := n7_; have NB233_226 := n8_; have NB227_233 := n9_; have NB233_227 := n10_; have NB230_233 := n11_; have NB233_230 := n12_; clear n0_ n1_ n2_ n3_ n4_ n5_ n6_ n7_ n8_ n9_ n10_ n11_ n12_; clear hb hbox hg; have hnb53 := NB233_226.out; have hnc53 := NB226_233.out; have hnb54 := NB233_227.out; have hnc54 := NB227_233.out; have hnb55 := NB233_230.out; have hnc55 := NB230_233.out; have hcz56_0 : w52.cell? ⟨gb233, 0, none⟩ = some (.int .i64 0) := (blk_cell BK233.out 0).trans rfl; have hcz56_1 : w52.cell? ⟨gb233, 1, none⟩ = some (.int .i64 0) := (blk_cell BK233.out 1).trans rfl; have hfz56_0 := blk_frozen BK233.out 0; have hfz56_1 := blk_frozen BK233.out 1; have hcz57_0 : w52.cell? ⟨gb226, 0, none⟩ = some (.slice A0_0 l0_0.length c0_0) := (blk_cell BK226.out 0).trans rfl; have hcz57_1 : w52.cell? ⟨gb226, 1, none⟩ = some (.slice A0_1 l0_1.length c0_1) := (blk_cell BK226.out 1).trans rfl; have hfz57_0 := blk_frozen BK226.out 0; have hfz57_1 := blk_frozen BK226.out 1) | ((with_reducible refine gate_callee (f := 40) rfl ?_); refine goesL_ (some 26) rfl rfl Try.func40 (by kernel_rfl) rfl #[.agg #[.slice A0_0 l0_0.length c0_0, .slice A0_1 l0_1.length c0_1], .slice A1 l1.length c1] rfl qA ?_; (with_reducible refine (place_Assign.calls k _ _ l0_0 _ _ l0_1 _ _ l1 t234 t237 t240 t241 _ ?side1 ?side2 ?side3 ?side4 ?side5 ?side6 A40.out).mono ?_); (case side1 => exact Kd.C_below HR0_0.out qB); (case side2 => exact HC0_0.out); (case side3 => exact Kd.C_below HR0_1.out qB); (case side4 => exact HC0_1.out); (case side5 => exact Kd.C_below HR1.out qB); (case side6 => exact HC1.out); rintro e w58 ⟨v235, v238, rfl, ho0, ho1, hb⟩; refine ⟨_, rfl, ?_⟩; have n0_ := Aside0.mk (Kd.R_lower ho0 (below_size qB)); have n1_ := Aside0.mk (Kd.R_lower ho1 (below_size qB)); have n2_ := Aside0.mk (blk_below (g := gb226) (o := .cells #[.slice A0_0 l0_0.length c0_0, .slice A0_1 l0_1.length c0_1] 46 (0, 0)) (by (with_reducible repeat (first | refine blk_drewN ?_ _ | refine blk_drew ?_ | refine blk_alloc ?_ _)); refine blk_far ?_ NB226_233.out _; (with_reducible repeat (first | refine blk_drewN ?_ _ | refine blk_drew ?_ | refine blk_alloc ?_ _)); refine blk_far ?_ NB226_233.out _; exact qK BK226) hb); have n3_ := Aside0.mk (blk_below (g := gb227) (o := .cells #[.int .i64 0, .int .i64 0] 26 (0, 0)) (by (with_reducible repeat (first | refine blk_drewN ?_ _ | refine blk_drew ?_ | refine blk_alloc ?_ _)); refine blk_far ?_ NB227_233.out _; (with_reducible repeat (first | refine blk_drewN ?_ _ | refine blk_drew ?_ | refine blk_alloc ?_ _)); refine blk_far ?_ NB227_233.out _; exact qK BK227) hb); have n4_ := Aside0.mk (blk_below (g := gb230) (o := .cells #[.int .i64 t228, .int .i64 t229] 26 (0, 0)) (by (with_reducible repeat (first | refine blk_drewN ?_ _ | refine blk_drew ?_ | refine blk_alloc ?_ _)); refine blk_far ?_ NB230_233.out _; (with_reducible repeat (first | refine blk_drewN ?_ _ | refine blk_drew ?_ | refine blk_alloc ?_ _)); refine blk_far ?_ NB230_233.out _; exact qK BK230) hb); have n5_ := Aside0.mk (blk_below (g := gb233) (o := .cells #[.int .i64 t231, .int .i64 t232] 26 (0, 0)) (by (with_reducible repeat (first | refine blk_drewN ?_ _ | refine blk_drew ?_ | refine blk_alloc ?_ _)); refine blk_put (cs := #[.int .i64 t231, .int .i64 0]) ?_ 1 _ rfl; (with_reducible repeat (first | refine blk_drewN ?_ _ | refine blk_drew ?_ | refine blk_alloc ?_ _)); refine blk_put (cs := #[.int .i64 0, .int .i64 0]) ?_ 0 _ rfl; exact qK BK233) hb); have n6_ := Aside0.mk (below_step qB hb); clear BK226; clear BK227; clear BK230; clear BK233; clear HB; have HO236 := n0_; have HO239 := n1_; have BK226 := n2_; have BK227 := n3_; have BK230 := n4_; have BK233 := n5_; have HB := n6_; clear n0_ n1_ n2_ n3_ n4_ n5_ n6_; (try clear hb); (try clear hb2); (try clear hk); (try clear hi); (try clear ho0); (try clear ho1); have hcz59_0 : w58.cell? ⟨gb227, 0, none⟩ = some (.int .i64 0) := (blk_cell BK227.out 0).trans rfl; have hcz59_1 : w58.cell? ⟨gb227, 1, none⟩ = some (.int .i64 0) := (blk_cell BK227.out 1).trans rfl; have hfz59_0 := blk_frozen BK227.out 0; have hfz59_1 := blk_frozen BK227.out 1))
   refine bodyPost_ret (results_list (rs := [.tmp 4, .tmp 5, .cell 6 26]) rfl (by simp) (.tmp (.tmp (.cell gb227 26 #[.int .i64 t240, .int .i64 t241] (0, 0) _ rfl (by (with_reducible repeat (first | refine blk_drewN ?_ _ | refine blk_drew ?_ | refine blk_alloc ?_ _)); refine blk_put (cs := #[.int .i64 t240, .int .i64 0]) ?_ 1 _ rfl; (with_reducible repeat (first | refine blk_drewN ?_ _ | refine blk_drew ?_ | refine blk_alloc ?_ _)); refine blk_put (cs := #[.int .i64 0, .int .i64 0]) ?_ 0 _ rfl; exact qK BK227) Try.underlying26 rfl (by kernel_rfl) .nil)))) rfl ?_
   exact ⟨_, _, qE, by (with_reducible repeat (first | apply Kd.R_alloc | apply Kd.R_drewN | apply Kd.R_drew)); exact Kd.R_mono (Kd.R_far (p := ⟨gb227, 1, none⟩) (Kd.R_far (p := ⟨gb227, 0, none⟩) (Kd.R_types HO236.out BK227.out (by decide)) (fun _ hk => hk.2) (.int .i64 t240)) (fun _ hk => hk.2) (.int .i64 t241)) (fun _ hk => trivial), by (with_reducible repeat (first | apply Kd.R_alloc | apply Kd.R_drewN | apply Kd.R_drew)); exact Kd.R_mono (Kd.R_far (p := ⟨gb227, 1, none⟩) (Kd.R_far (p := ⟨gb227, 0, none⟩) (Kd.R_types HO239.out BK227.out (by decide)) (fun _ hk => hk.2) (.int .i64 t240)) (fun _ hk => hk.2) (.int .i64 t241)) (fun _ hk => trivial), qB⟩

/-! ### law_ints: function 25 -/
def law_ints.l0 : Nat → List Int → List Int → Int → Option (Bool)
 | 0, _, _, _ => none
 | k + 1, x0, x1, x5 => if x5 < (x0.length : Int) then (if 0 ≤ x5 then (if x5 < (x1.length : Int) then (if (rd x0 x5) = (rd x1 x5) then (law_ints.l0 k x0 x1 (wrap64 (x5 + 1))) else (some false)) else (none)) else (none)) else (some true)
def law_ints.f (k : Nat) (l0 : List Int) (l1 : List Int) : Option (Bool) := if (l0.length : Int) = (l1.length : Int) then (law_ints.l0 k l0 l1 0) else (some false)
theorem law_ints.mono_l : ∀ k, (∀ y0 y1 y2, LeO (law_ints.l0 k y0 y1 y2) (law_ints.l0 (k + 1) y0 y1 y2))
 | 0 => fun _ _ _ r h => by simp [law_ints.l0] at h
 | k + 1 => by
  have ih0 := law_ints.mono_l k
  ·intro y0 y1 y2
   unfold law_ints.l0
   repeat' first
   | (with_reducible exact ih0 _ _ _)
   | (with_reducible exact LeO.refl _)
   | (with_reducible exact LeO.none _)
   | (with_reducible refine LeO.ite ?_ ?_)
   | (with_reducible refine LeO.bind ?_ (fun _ => ?_))
   | exact ih0 _ _ _
   | exact LeO.none _
   | refine LeO.ite ?_ ?_
   | refine LeO.bind ?_ (fun _ => ?_)
theorem law_ints.mono : ∀ a0 a1 k, LeO (law_ints.f k a0 a1) (law_ints.f (k + 1) a0 a1) := by
 intro a0 a1 k
 have ih0 := law_ints.mono_l k
 unfold law_ints.f
 repeat' first
   | (with_reducible exact ih0 _ _ _)
   | (with_reducible exact LeO.refl _)
   | (with_reducible exact LeO.none _)
   | (with_reducible refine LeO.ite ?_ ?_)
   | (with_reducible refine LeO.bind ?_ (fun _ => ?_))
   | exact ih0 _ _ _
   | exact LeO.none _
   | refine LeO.ite ?_ ?_
   | refine LeO.bind ?_ (fun _ => ?_)
set_option maxHeartbeats 8000000 in
set_option maxRecDepth 100000 in
theorem law_ints.calls (k : Nat) (A0 : Option Addr) (c0 : Nat) (l0 : List Int) (A1 : Option Addr) (c1 : Nat) (l1 : List Int) (r : Bool) (w : World) (hr0 : Kd.C (Kd.int .i64) w A0 l0.length l0) (hc0 : l0.length ≤ c0) (hr1 : Kd.C (Kd.int .i64) w A1 l1.length l1) (hc1 : l1.length ≤ c1) (h : law_ints.f k l0 l1 = some r) :
  Calls Try.prog 25 #[.slice A0 l0.length c0, .slice A1 l1.length c1] w fun e w' => e = .returned (.bool r) ∧ Drawn0 w w' := by
 have HR0 := Aside0.mk hr0
 have HC0 := Aside0.mk hc0
 clear hr0 hc0
 have HR1 := Aside0.mk hr1
 have HC1 := Aside0.mk hc1
 clear hr1 hc1
 have H : (if (l0.length : Int) = (l1.length : Int) then (law_ints.l0 k l0 l1 0) else (some false)) = some r := h
 clear h
 by_cases c3 : (l0.length : Int) = (l1.length : Int)
 ·rw [if_pos c3] at H
  have c3b0 : ((l0.length : Int) == (l1.length : Int)) = true := beq_iff_eq.mpr c3
  have c3b1 : ((l0.length : Int) != (l1.length : Int)) = false := bne_eq_false_iff_eq.mpr c3
  have c3b2 : (l0.length == l1.length) = true := by first | simpa using c3 | (simp at c3 ⊢; omega)
  clear c3
  have H' := Aside0.mk H
  clear H
  go_enter Try.func25, Try.ntmps25
  go_wp2
  repeat (go_quiet (fail); try go_wp2)
  go_loopg [5] k (fun kq v5 w' => ∃ (x5_1 : Int), v5 = .int .i64 x5_1 ∧ Aside0 (law_ints.l0 kq l0 l1 x5_1 = some r) ∧ Aside0 (kq ≤ k) ∧ Drawn0 w w')
  case atStart => exact ⟨(0), qF, H', ⟨Nat.le_refl _⟩, by repeat (first | exact Drawn0.refl _ | apply Drawn0.step)⟩
  case round =>
   clear H'
   try clear c1
   try clear c2
   try clear p2
   try clear c3
   try clear c3b0
   try clear c3b1
   try clear c3b2
   obtain ⟨x5_1, rfl, HA, HK1, ⟨m1, rfl⟩⟩ := hrel
   cases gk with
   | zero => exact absurd HA.out (by simp [law_ints.l0])
   | succ k1 =>
    have H := HA.out
    clear HA
    simp only [law_ints.l0] at H
    by_cases c4 : x5_1 < (l0.length : Int)
    ·rw [if_pos c4] at H
     have c4b0 : decide (x5_1 < (l0.length : Int)) = true := decide_eq_true c4
     clear c4
     by_cases c5 : 0 ≤ x5_1
     ·rw [if_pos c5] at H
      have c5b0 : decide (0 ≤ x5_1) = true := decide_eq_true c5
      clear c5
      by_cases c6 : x5_1 < (l1.length : Int)
      ·rw [if_pos c6] at H
       have c6b0 : decide (x5_1 < (l1.length : Int)) = true := decide_eq_true c6
       clear c6
       by_cases c7 : (rd l0 x5_1) = (rd l1 x5_1)
       ·rw [if_pos c7] at H
        have c7b0 : ((rd l0 x5_1) == (rd l1 x5_1)) = true := beq_iff_eq.mpr c7
        have c7b1 : ((rd l0 x5_1) != (rd l1 x5_1)) = false := bne_eq_false_iff_eq.mpr c7
        clear c7
        have H' := Aside0.mk H
        clear H
        have p242 : 0 ≤ (x5_1 : Int) := of_decide_eq_true qO
        have q242 : x5_1 < (l0.length : Int) := of_decide_eq_true qO
        obtain ⟨ad242, e242, hx242_0⟩ := Kd.at_int HR0.out x5_1 p242 q242
        cases e242
        replace p242 := eq_true p242
        replace q242 := eq_true q242
        have p243 : 0 ≤ (x5_1 : Int) := of_decide_eq_true qO
        have q243 : x5_1 < (l1.length : Int) := of_decide_eq_true qO
        obtain ⟨ad243, e243, hx243_0⟩ := Kd.at_int HR1.out x5_1 p243 q243
        cases e243
        replace p243 := eq_true p243
        replace q243 := eq_true q243
        go_wp2
        repeat (go_quiet (fail); try go_wp2)
        go_roundg k1
        case measure => have := HK1.out; omega
        case rel => exact ⟨(wrap64 (x5_1 + 1)), qF, H', ⟨by have := HK1.out; omega⟩, by repeat (first | exact Drawn0.refl _ | apply Drawn0.step)⟩
       ·rw [if_neg c7] at H
        have c7b0 : ((rd l0 x5_1) == (rd l1 x5_1)) = false := beq_eq_false_iff_ne.mpr c7
        have c7b1 : ((rd l0 x5_1) != (rd l1 x5_1)) = true := bne_iff_ne.mpr c7
        obtain rfl := Option.some.inj H
        have p242 : 0 ≤ (x5_1 : Int) := of_decide_eq_true qO
        have q242 : x5_1 < (l0.length : Int) := of_decide_eq_true qO
        obtain ⟨ad242, e242, hx242_0⟩ := Kd.at_int HR0.out x5_1 p242 q242
        cases e242
        replace p242 := eq_true p242
        replace q242 := eq_true q242
        have p243 : 0 ≤ (x5_1 : Int) := of_decide_eq_true qO
        have q243 : x5_1 < (l1.length : Int) := of_decide_eq_true qO
        obtain ⟨ad243, e243, hx243_0⟩ := Kd.at_int HR1.out x5_1 p243 q243
        cases e243
        replace p243 := eq_true p243
        replace q243 := eq_true q243
        go_wp2
        repeat (go_quiet (fail); try go_wp2)
        go_ret
        exact ⟨qF, by repeat (first | exact Drawn0.refl _ | apply Drawn0.step)⟩
      ·rw [if_neg c6] at H
       exact absurd H (by simp)
     ·rw [if_neg c5] at H
      exact absurd H (by simp)
    ·rw [if_neg c4] at H
     have c4b0 : decide (x5_1 < (l0.length : Int)) = false := decide_eq_false c4
     clear c4
     obtain rfl := Option.some.inj H
     go_wp2
     repeat (go_quiet (fail); try go_wp2)
     go_ret
     exact ⟨qF, by repeat (first | exact Drawn0.refl _ | apply Drawn0.step)⟩
 ·rw [if_neg c3] at H
  have c3b0 : ((l0.length : Int) == (l1.length : Int)) = false := beq_eq_false_iff_ne.mpr c3
  have c3b1 : ((l0.length : Int) != (l1.length : Int)) = true := bne_iff_ne.mpr c3
  have c3b2 : (l0.length == l1.length) = false := by first | simpa using c3 | (simp at c3 ⊢; omega)
  obtain rfl := Option.some.inj H
  go_enter Try.func25, Try.ntmps25
  go_wp2
  repeat (go_quiet (fail); try go_wp2)
  go_ret
  exact ⟨qF, by repeat (first | exact Drawn0.refl _ | apply Drawn0.step)⟩

/-! ### script_Default: function 41 -/
def script_Default.f  : Option ((List (S60)) × (List (S72))) := some ((([(⟨(⟨#[116, 101, 120, 116]⟩ : ByteArray), 256, 1, 5⟩ : S60), (⟨(⟨#[99, 111, 110, 115, 116]⟩ : ByteArray), (-1), 1, 1⟩ : S60), (⟨(⟨#[100, 97, 116, 97]⟩ : ByteArray), (-1), 1, 3⟩ : S60)] : List (S60))), (([(⟨(⟨#[42]⟩ : ByteArray), 1, 0⟩ : S72), (⟨(⟨#[42]⟩ : ByteArray), 2, 1⟩ : S72), (⟨(⟨#[42]⟩ : ByteArray), 3, 2⟩ : S72), (⟨(⟨#[42]⟩ : ByteArray), 4, 2⟩ : S72)] : List (S72))))
set_option maxHeartbeats 8000000 in
set_option maxRecDepth 100000 in
theorem script_Default.calls  (r1 : List (S60)) (r2 : List (S72)) (w : World) (h : script_Default.f  = some (r1, r2)) :
  Calls Try.prog 41 #[] w fun e w' => ∃ v0_ v1_ : Value, e = .returned (.agg #[v0_, v1_]) ∧ Kd.R k60 60 w' w.heap.size (fun _ => True) v0_ r1 ∧ Kd.R k72 72 w' w.heap.size (fun _ => True) v1_ r2 ∧ Below w.heap.size w w' := by
 have hu46 := Try.underlying46
 have hu60 := Try.underlying60
 have hu72 := Try.underlying72
 have HB := Aside0.mk (Below.refl w.heap.size w)
 have H : (some ((([(⟨(⟨#[116, 101, 120, 116]⟩ : ByteArray), 256, 1, 5⟩ : S60), (⟨(⟨#[99, 111, 110, 115, 116]⟩ : ByteArray), (-1), 1, 1⟩ : S60), (⟨(⟨#[100, 97, 116, 97]⟩ : ByteArray), (-1), 1, 3⟩ : S60)] : List (S60))), (([(⟨(⟨#[42]⟩ : ByteArray), 1, 0⟩ : S72), (⟨(⟨#[42]⟩ : ByteArray), 2, 1⟩ : S72), (⟨(⟨#[42]⟩ : ByteArray), 3, 2⟩ : S72), (⟨(⟨#[42]⟩ : ByteArray), 4, 2⟩ : S72)] : List (S72))))) = some (r1, r2) := h
 clear h
 obtain ⟨y245, hy245⟩ : ∃ y_ : List (S60), y_ = (([(⟨(⟨#[116, 101, 120, 116]⟩ : ByteArray), 256, 1, 5⟩ : S60), (⟨(⟨#[99, 111, 110, 115, 116]⟩ : ByteArray), (-1), 1, 1⟩ : S60), (⟨(⟨#[100, 97, 116, 97]⟩ : ByteArray), (-1), 1, 3⟩ : S60)] : List (S60))) := ⟨_, rfl⟩
 replace H : (some (y245, (([(⟨(⟨#[42]⟩ : ByteArray), 1, 0⟩ : S72), (⟨(⟨#[42]⟩ : ByteArray), 2, 1⟩ : S72), (⟨(⟨#[42]⟩ : ByteArray), 3, 2⟩ : S72), (⟨(⟨#[42]⟩ : ByteArray), 4, 2⟩ : S72)] : List (S72))))) = some (r1, r2) := by first | (rw [hy245]; with_reducible exact H) | (have H2_ := (Option.bind_some _ _).symm.trans H; rw [hy245]; with_reducible exact H2_) | (have H2_ := (Option.bind_some _ _).symm.trans H; with_reducible exact H2_) | with_reducible exact H | (rw [hy245]; exact H) | exact H
 have Ny245 := Aside0.mk hy245
 clear hy245
 obtain ⟨y248, hy248⟩ : ∃ y_ : List (S72), y_ = (([(⟨(⟨#[42]⟩ : ByteArray), 1, 0⟩ : S72), (⟨(⟨#[42]⟩ : ByteArray), 2, 1⟩ : S72), (⟨(⟨#[42]⟩ : ByteArray), 3, 2⟩ : S72), (⟨(⟨#[42]⟩ : ByteArray), 4, 2⟩ : S72)] : List (S72))) := ⟨_, rfl⟩
 replace H : (some (y245, y248)) = some (r1, r2) := by first | (rw [hy248]; with_reducible exact H) | (have H2_ := (Option.bind_some _ _).symm.trans H; rw [hy248]; with_reducible exact H2_) | (have H2_ := (Option.bind_some _ _).symm.trans H; with_reducible exact H2_) | with_reducible exact H | (rw [hy248]; exact H) | exact H
 have Ny248 := Aside0.mk hy248
 clear hy248
 simp only [Option.some.injEq, Prod.mk.injEq] at H
 obtain ⟨rfl, rfl⟩ := H
 go_enter Try.func41, Try.ntmps41
 go_wp2_with (first | ((with_reducible refine gate_dst (N := 0) rfl ?_); refine qX (N := 0) (cs := #[.slice none 0 0, .slice none 0 0]) (t := 46) ?_; intro gb244 hg w1 hbox hb; have n0_ := Aside0.mk (below_step qB hb); have n1_ := Aside0.mk (hbox); have n2_ := Aside0.mk ((qG hg : w.heap.size ≤ gb244)); have n3_ := Aside0.mk ((qG hg : w.heap.size ≤ gb244)); clear HB; have HB := n0_; have BK244 := n1_; have GW244 := n2_; have GE244 := n3_; clear n0_ n1_ n2_ n3_; clear hb hbox hg) | ((with_reducible refine gate_dst (N := 4) rfl ?_); refine Kd.R_lit k60 _ 60 ?hg (N := 4) ?hd (xs := ([(⟨(⟨#[116, 101, 120, 116]⟩ : ByteArray), 256, 1, 5⟩ : S60), (⟨(⟨#[99, 111, 110, 115, 116]⟩ : ByteArray), (-1), 1, 1⟩ : S60), (⟨(⟨#[100, 97, 116, 97]⟩ : ByteArray), (-1), 1, 3⟩ : S60)] : List (S60))) (inner := [.string (⟨#[116, 101, 120, 116]⟩ : ByteArray), .int .i64 256, .int .i64 1, .int .i64 5, .string (⟨#[99, 111, 110, 115, 116]⟩ : ByteArray), .int .i64 (-1), .int .i64 1, .int .i64 1, .string (⟨#[100, 97, 116, 97]⟩ : ByteArray), .int .i64 (-1), .int .i64 1, .int .i64 3]) (ok := fun _ => True) (okp := fun _ => True) ?hr ?hp (fun _ hk => hk) trivial (Below.refl _ _) (Nat.le_refl _) (by simp) ?_; (case hd => rfl); (case hg => rfl); (case hr => first | (go_simp; done) | (go_simp; rfl)); (case hp => exact (Reps.c4 (show Kd.M k60 _ _ _ (⟨(⟨#[116, 101, 120, 116]⟩ : ByteArray), 256, 1, 5⟩ : S60) [.string (⟨#[116, 101, 120, 116]⟩ : ByteArray), .int .i64 256, .int .i64 1, .int .i64 5] from (k60_mkM _ _ _ (⟨(⟨#[116, 101, 120, 116]⟩ : ByteArray), 256, 1, 5⟩ : S60) )) (Reps.c4 (show Kd.M k60 _ _ _ (⟨(⟨#[99, 111, 110, 115, 116]⟩ : ByteArray), (-1), 1, 1⟩ : S60) [.string (⟨#[99, 111, 110, 115, 116]⟩ : ByteArray), .int .i64 (-1), .int .i64 1, .int .i64 1] from (k60_mkM _ _ _ (⟨(⟨#[99, 111, 110, 115, 116]⟩ : ByteArray), (-1), 1, 1⟩ : S60) )) (Reps.c4 (show Kd.M k60 _ _ _ (⟨(⟨#[100, 97, 116, 97]⟩ : ByteArray), (-1), 1, 3⟩ : S60) [.string (⟨#[100, 97, 116, 97]⟩ : ByteArray), .int .i64 (-1), .int .i64 1, .int .i64 3] from (k60_mkM _ _ _ (⟨(⟨#[100, 97, 116, 97]⟩ : ByteArray), (-1), 1, 3⟩ : S60) )) (Reps.none _ _))))); intro v246 w2 ho3 hb hg_ hnew_; clear hg_ hnew_; (first | rw [← Ny245.out] at ho3 | (simp only [Int.reduceToNat] at ho3; rw [← Ny245.out] at ho3)); have n0_ := Aside0.mk (Kd.R_lower ho3 (below_size qB)); have n1_ := Aside0.mk (blk_below (g := gb244) (o := .cells #[.slice none 0 0, .slice none 0 0] 46 (0, 0)) (qK BK244) hb); have n2_ := Aside0.mk (below_step qB hb); clear BK244; clear HB; have HO247 := n0_; have BK244 := n1_; have HB := n2_; clear n0_ n1_ n2_; clear hb ho3) | ((with_reducible refine gate_dst (N := 9) rfl ?_); refine Kd.R_lit k72 _ 72 ?hg (N := 9) ?hd (xs := ([(⟨(⟨#[42]⟩ : ByteArray), 1, 0⟩ : S72), (⟨(⟨#[42]⟩ : ByteArray), 2, 1⟩ : S72), (⟨(⟨#[42]⟩ : ByteArray), 3, 2⟩ : S72), (⟨(⟨#[42]⟩ : ByteArray), 4, 2⟩ : S72)] : List (S72))) (inner := [.string (⟨#[42]⟩ : ByteArray), .int .i64 1, .int .i64 0, .string (⟨#[42]⟩ : ByteArray), .int .i64 2, .int .i64 1, .string (⟨#[42]⟩ : ByteArray), .int .i64 3, .int .i64 2, .string (⟨#[42]⟩ : ByteArray), .int .i64 4, .int .i64 2]) (ok := fun _ => True) (okp := fun _ => True) ?hr ?hp (fun _ hk => hk) trivial (Below.refl _ _) (Nat.le_refl _) (by simp) ?_; (case hd => rfl); (case hg => rfl); (case hr => first | (go_simp; done) | (go_simp; rfl)); (case hp => exact (Reps.c3 (show Kd.M k72 _ _ _ (⟨(⟨#[42]⟩ : ByteArray), 1, 0⟩ : S72) [.string (⟨#[42]⟩ : ByteArray), .int .i64 1, .int .i64 0] from (k72_mkM _ _ _ (⟨(⟨#[42]⟩ : ByteArray), 1, 0⟩ : S72) )) (Reps.c3 (show Kd.M k72 _ _ _ (⟨(⟨#[42]⟩ : ByteArray), 2, 1⟩ : S72) [.string (⟨#[42]⟩ : ByteArray), .int .i64 2, .int .i64 1] from (k72_mkM _ _ _ (⟨(⟨#[42]⟩ : ByteArray), 2, 1⟩ : S72) )) (Reps.c3 (show Kd.M k72 _ _ _ (⟨(⟨#[42]⟩ : ByteArray), 3, 2⟩ : S72) [.string (⟨#[42]⟩ : ByteArray), .int .i64 3, .int .i64 2] from (k72_mkM _ _ _ (⟨(⟨#[42]⟩ : ByteArray), 3, 2⟩ : S72) )) (Reps.c3 (show Kd.M k72 _ _ _ (⟨(⟨#[42]⟩ : ByteArray), 4, 2⟩ : S72) [.string (⟨#[42]⟩ : ByteArray), .int .i64 4, .int .i64 2] from (k72_mkM _ _ _ (⟨(⟨#[42]⟩ : ByteArray), 4, 2⟩ : S72) )) (Reps.none _ _)))))); intro v249 w4 ho5 hb hg_ hnew_; clear hg_ hnew_; (first | rw [← Ny248.out] at ho5 | (simp only [Int.reduceToNat] at ho5; rw [← Ny248.out] at ho5)); have n0_ := Aside0.mk (Kd.R_below (qR HO247) hb); have n1_ := Aside0.mk (Kd.R_lower ho5 (below_size qB)); have n2_ := Aside0.mk (blk_below (g := gb244) (o := .cells #[.slice none 0 0, .slice none 0 0] 46 (0, 0)) (qK BK244) hb); have n3_ := Aside0.mk (below_step qB hb); clear HO247; clear BK244; clear HB; have HO247 := n0_; have HO250 := n1_; have BK244 := n2_; have HB := n3_; clear n0_ n1_ n2_ n3_; clear hb ho5; obtain ⟨Ao6, co6, eo6⟩ := Kd.R_slice HO250.out; subst eo6; obtain ⟨Ao7, co7, eo7⟩ := Kd.R_slice HO247.out; subst eo7; have hcz8_0 : w4.cell? ⟨gb244, 0, none⟩ = some (.slice none 0 0) := (blk_cell BK244.out 0).trans rfl; have hcz8_1 : w4.cell? ⟨gb244, 1, none⟩ = some (.slice none 0 0) := (blk_cell BK244.out 1).trans rfl; have hfz8_0 := blk_frozen BK244.out 0; have hfz8_1 := blk_frozen BK244.out 1))
 refine bodyPost_ret (results_cell_row rfl _ _ gb244 46 #[.slice Ao7 y245.length co7, .slice Ao6 y248.length co6] (0, 0) _ rfl (by (with_reducible repeat (first | refine blk_drewN ?_ _ | refine blk_drew ?_ | refine blk_alloc ?_ _)); refine blk_put (cs := #[.slice Ao7 y245.length co7, .slice none 0 0]) ?_ 1 _ rfl; (with_reducible repeat (first | refine blk_drewN ?_ _ | refine blk_drew ?_ | refine blk_alloc ?_ _)); refine blk_put (cs := #[.slice none 0 0, .slice none 0 0]) ?_ 0 _ rfl; exact qK BK244) Try.underlying46 rfl (by kernel_rfl)) rfl ?_
 exact ⟨_, _, qE, by (with_reducible repeat (first | apply Kd.R_alloc | apply Kd.R_drewN | apply Kd.R_drew)); exact Kd.R_mono (Kd.R_far (p := ⟨gb244, 1, none⟩) (Kd.R_far (p := ⟨gb244, 0, none⟩) (Kd.R_types HO247.out BK244.out (by decide)) (fun _ hk => hk.2) (.slice Ao7 y245.length co7)) (fun _ hk => hk.2) (.slice Ao6 y248.length co6)) (fun _ hk => trivial), by (with_reducible repeat (first | apply Kd.R_alloc | apply Kd.R_drewN | apply Kd.R_drew)); exact Kd.R_mono (Kd.R_far (p := ⟨gb244, 1, none⟩) (Kd.R_far (p := ⟨gb244, 0, none⟩) (Kd.R_types HO250.out BK244.out (by decide)) (fun _ hk => hk.2) (.slice Ao7 y245.length co7)) (fun _ hk => hk.2) (.slice Ao6 y248.length co6)) (fun _ hk => trivial), qB⟩

end Go.Proofs.Ytnbeamaoblmbhaa.PPlace
