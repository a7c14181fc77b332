/- Written by a program of this session, for the law(s) Place: contracts of the Go functions that the law reaches, each against a plain Lean function. No condition. -/
import Derived.Test.YtnbeamaoblmbhaaPPlacex0
import Derived.Test.YtnbeamaoblmbhaaPPlacex8
namespace Go.Proofs.Ytnbeamaoblmbhaa.PPlace
open Go.RowKit Go.Proofs.YtnbeamaoblmbhaaW.PrintWords Go.Proofs.YtnbeamaoblmbhaaW.PrintLast Go.Proofs.YtnbeamaoblmbhaaW.PrintMore
attribute [local go_sem] max2_int min2_int max_two min_two max_three min_three max_four min_four   -- for this text's walks alone
set_option linter.unusedVariables false
set_option linter.unusedSimpArgs false

/-! ### script_Validate: function 38 -/
mutual
def script_Validate.l0 : Nat → Int → Int → List (S60) → List (S72) → Option (Int × Int)
 | 0, _, _, _, _ => none
 | k + 1, x14, x15, x200000, x200001 => if x15 < x14 then ((script_output.f k x200000 x200001 x15).bind fun t201 => (if t201 = 0 then (script_Validate.l0 k x14 (wrap64 (x15 + 1)) x200000 x200001) else (some (t201, x15)))) else (if (x200001.length : Int) > 12 then (some (2, (-2))) else (script_Validate.l1 k x200001 (x200001.length : Int) 0 x200000 x200001))
def script_Validate.l1 : Nat → List (S72) → Int → Int → List (S60) → List (S72) → Option (Int × Int)
 | 0, _, _, _, _, _ => none
 | k + 1, x33, x34, x35, x200000, x200001 => if x35 < x34 then (if 0 ≤ x35 then (if x35 < (x33.length : Int) then ((script_isPattern.f k ((rd_T72 x33 x35).f0)).bind fun t204 => (if t204 = true then (if ((rd_T72 x33 x35).f1) < 0 then (script_Validate.j2 k x35 x33 x34 x35 true x200000 x200001 ((rd_T72 x33 x35).f0) ((rd_T72 x33 x35).f1) ((rd_T72 x33 x35).f2)) else (script_Validate.j2 k x35 x33 x34 x35 (decide (((rd_T72 x33 x35).f1) > 4)) x200000 x200001 ((rd_T72 x33 x35).f0) ((rd_T72 x33 x35).f1) ((rd_T72 x33 x35).f2))) else (some (12, wrap64 ((-10) - x35))))) else (none)) else (none)) else (some (0, 0))
def script_Validate.j2 : Nat → Int → List (S72) → Int → Int → Bool → List (S60) → List (S72) → ByteArray → Int → Int → Option (Int × Int)
 | 0, _, _, _, _, _, _, _, _, _, _ => none
 | k + 1, x5, x33, x34, x35, x48, x200000, x200001, x204000, x204001, x204002 => if x48 = true then (some (4, wrap64 ((-10) - x5))) else (if x204002 < 0 then (some (3, wrap64 ((-10) - x5))) else (if x204002 ≥ (x200000.length : Int) then (some (3, wrap64 ((-10) - x5))) else (script_Validate.l1 k x33 x34 (wrap64 (x35 + 1)) x200000 x200001)))
end
def script_Validate.f (k : Nat) (l0_0 : List (S60)) (l0_1 : List (S72)) : Option (Int × Int) := if (l0_0.length : Int) > 8 then (some (2, (-1))) else (script_Validate.l0 k (l0_0.length : Int) 0 l0_0 l0_1)
theorem script_Validate.mono_l : ∀ k, (∀ y0 y1 y2 y3, LeO (script_Validate.l0 k y0 y1 y2 y3) (script_Validate.l0 (k + 1) y0 y1 y2 y3)) ∧ (∀ y0 y1 y2 y3 y4, LeO (script_Validate.l1 k y0 y1 y2 y3 y4) (script_Validate.l1 (k + 1) y0 y1 y2 y3 y4)) ∧ (∀ y0 y1 y2 y3 y4 y5 y6 y7 y8 y9, LeO (script_Validate.j2 k y0 y1 y2 y3 y4 y5 y6 y7 y8 y9) (script_Validate.j2 (k + 1) y0 y1 y2 y3 y4 y5 y6 y7 y8 y9))
 | 0 => ⟨fun _ _ _ _ r h => by simp [script_Validate.l0] at h, fun _ _ _ _ _ r h => by simp [script_Validate.l1] at h, fun _ _ _ _ _ _ _ _ _ _ r h => by simp [script_Validate.j2] at h⟩
 | k + 1 => by
  obtain ⟨ih0, ih1, ih2⟩ := script_Validate.mono_l k
  refine ⟨?_, ?_, ?_⟩
  ·intro y0 y1 y2 y3
   unfold script_Validate.l0
   repeat' first
   | (with_reducible exact ih0 _ _ _ _)
   | (with_reducible exact ih1 _ _ _ _ _)
   | (with_reducible exact ih2 _ _ _ _ _ _ _ _ _ _)
   | (with_reducible exact script_isPattern.mono _ _)
   | (with_reducible exact script_output.mono _ _ _ _)
   | (with_reducible exact LeO.refl _)
   | (with_reducible exact LeO.none _)
   | (with_reducible refine LeO.ite ?_ ?_)
   | (with_reducible refine LeO.bind ?_ (fun _ => ?_))
   | exact ih0 _ _ _ _
   | exact ih1 _ _ _ _ _
   | exact ih2 _ _ _ _ _ _ _ _ _ _
   | exact script_isPattern.mono _ _
   | exact script_output.mono _ _ _ _
   | exact LeO.none _
   | refine LeO.ite ?_ ?_
   | refine LeO.bind ?_ (fun _ => ?_)
  ·intro y0 y1 y2 y3 y4
   unfold script_Validate.l1
   repeat' first
   | (with_reducible exact ih0 _ _ _ _)
   | (with_reducible exact ih1 _ _ _ _ _)
   | (with_reducible exact ih2 _ _ _ _ _ _ _ _ _ _)
   | (with_reducible exact script_isPattern.mono _ _)
   | (with_reducible exact script_output.mono _ _ _ _)
   | (with_reducible exact LeO.refl _)
   | (with_reducible exact LeO.none _)
   | (with_reducible refine LeO.ite ?_ ?_)
   | (with_reducible refine LeO.bind ?_ (fun _ => ?_))
   | exact ih0 _ _ _ _
   | exact ih1 _ _ _ _ _
   | exact ih2 _ _ _ _ _ _ _ _ _ _
   | exact script_isPattern.mono _ _
   | exact script_output.mono _ _ _ _
   | exact LeO.none _
   | refine LeO.ite ?_ ?_
   | refine LeO.bind ?_ (fun _ => ?_)
  ·intro y0 y1 y2 y3 y4 y5 y6 y7 y8 y9
   unfold script_Validate.j2
   repeat' first
   | (with_reducible exact ih0 _ _ _ _)
   | (with_reducible exact ih1 _ _ _ _ _)
   | (with_reducible exact ih2 _ _ _ _ _ _ _ _ _ _)
   | (with_reducible exact script_isPattern.mono _ _)
   | (with_reducible exact script_output.mono _ _ _ _)
   | (with_reducible exact LeO.refl _)
   | (with_reducible exact LeO.none _)
   | (with_reducible refine LeO.ite ?_ ?_)
   | (with_reducible refine LeO.bind ?_ (fun _ => ?_))
   | exact ih0 _ _ _ _
   | exact ih1 _ _ _ _ _
   | exact ih2 _ _ _ _ _ _ _ _ _ _
   | exact script_isPattern.mono _ _
   | exact script_output.mono _ _ _ _
   | exact LeO.none _
   | refine LeO.ite ?_ ?_
   | refine LeO.bind ?_ (fun _ => ?_)
theorem script_Validate.mono : ∀ a0 a1 k, LeO (script_Validate.f k a0 a1) (script_Validate.f (k + 1) a0 a1) := by
 intro a0 a1 k
 obtain ⟨ih0, ih1, ih2⟩ := script_Validate.mono_l k
 unfold script_Validate.f
 repeat' first
   | (with_reducible exact ih0 _ _ _ _)
   | (with_reducible exact ih1 _ _ _ _ _)
   | (with_reducible exact ih2 _ _ _ _ _ _ _ _ _ _)
   | (with_reducible exact script_isPattern.mono _ _)
   | (with_reducible exact script_output.mono _ _ _ _)
   | (with_reducible exact LeO.refl _)
   | (with_reducible exact LeO.none _)
   | (with_reducible refine LeO.ite ?_ ?_)
   | (with_reducible refine LeO.bind ?_ (fun _ => ?_))
   | exact ih0 _ _ _ _
   | exact ih1 _ _ _ _ _
   | exact ih2 _ _ _ _ _ _ _ _ _ _
   | exact script_isPattern.mono _ _
   | exact script_output.mono _ _ _ _
   | exact LeO.none _
   | refine LeO.ite ?_ ?_
   | refine LeO.bind ?_ (fun _ => ?_)
set_option maxHeartbeats 8000000 in
set_option maxRecDepth 100000 in
theorem script_Validate.calls (k : Nat) (A0_0 : Option Addr) (c0_0 : Nat) (l0_0 : List (S60)) (A0_1 : Option Addr) (c0_1 : Nat) (l0_1 : List (S72)) (r1 : Int) (r2 : Int) (w : World) (hr0_0 : Kd.C k60 w A0_0 l0_0.length l0_0) (hc0_0 : l0_0.length ≤ c0_0) (hr0_1 : Kd.C k72 w A0_1 l0_1.length l0_1) (hc0_1 : l0_1.length ≤ c0_1) (h : script_Validate.f k l0_0 l0_1 = some (r1, r2)) :
  Calls Try.prog 38 #[.agg #[.slice A0_0 l0_0.length c0_0, .slice A0_1 l0_1.length c0_1]] w fun e w' => e = .returned (.agg #[.int .i64 r1, .int .i64 r2]) ∧ Below w.heap.size w w' := by
 have hu46 := Try.underlying46
 have hu26 := Try.underlying26
 have hu72 := Try.underlying72
 have HR0_0 := Aside0.mk hr0_0
 have HC0_0 := Aside0.mk hc0_0
 clear hr0_0 hc0_0
 have HR0_1 := Aside0.mk hr0_1
 have HC0_1 := Aside0.mk hc0_1
 clear hr0_1 hc0_1
 have HB := Aside0.mk (Below.refl w.heap.size w)
 have H : (if (l0_0.length : Int) > 8 then (some (2, (-1))) else (script_Validate.l0 k (l0_0.length : Int) 0 l0_0 l0_1)) = some (r1, r2) := h
 clear h
 by_cases c2 : (l0_0.length : Int) > 8
 ·rw [if_pos c2] at H
  have c2b0 : decide (8 < (l0_0.length : Int)) = true := decide_eq_true c2
  have c2b1 : decide (8 < l0_0.length) = true := decide_eq_true (by omega)
  clear c2
  simp only [Option.some.injEq, Prod.mk.injEq] at H
  obtain ⟨rfl, rfl⟩ := H
  go_enter Try.func38, Try.ntmps38
  go_wp2_with (first | ((with_reducible refine gate_dst (N := 1) rfl ?_); (try (refine gate_guard (by rfl) ?_; dsimp only)); refine qX (N := 1) (cs := #[.slice A0_0 l0_0.length c0_0, .slice A0_1 l0_1.length c0_1]) (t := 46) ?_; intro gb199 hg w3 hbox hb; have n0_ := Aside0.mk (below_step qB hb); have n1_ := Aside0.mk (hbox); have n2_ := Aside0.mk ((qG hg : w.heap.size ≤ gb199)); have n3_ := Aside0.mk ((qG hg : w.heap.size ≤ gb199)); clear HB; have HB := n0_; have BK199 := n1_; have GW199 := n2_; have GE199 := n3_; clear n0_ n1_ n2_ n3_; clear hb hbox hg) | ((with_reducible refine gate_dst (N := 2) rfl ?_); (try (refine gate_guard (by rfl) ?_; dsimp only)); refine qX (N := 2) (cs := #[.int .i64 0, .int .i64 0]) (t := 26) ?_; intro gb200 hg w4 hbox hb; have n0_ := Aside0.mk (blk_below (g := gb199) (o := .cells #[.slice A0_0 l0_0.length c0_0, .slice A0_1 l0_1.length c0_1] 46 (0, 0)) (qK BK199) hb); have n1_ := Aside0.mk (below_step qB hb); have n2_ := Aside0.mk (hbox); have n3_ := Aside0.mk ((qG hg : w.heap.size ≤ gb200)); have n4_ := Aside0.mk ((qG hg : w.heap.size ≤ gb200)); have n5_ := Aside0.mk ((by rw [hg]; exact Nat.ne_of_lt (blk_lt (g := gb199) (o := .cells #[.slice A0_0 l0_0.length c0_0, .slice A0_1 l0_1.length c0_1] 46 (0, 0)) (qK BK199)) : gb199 ≠ gb200)); have n6_ := Aside0.mk ((by rw [hg]; exact Nat.ne_of_gt (blk_lt (g := gb199) (o := .cells #[.slice A0_0 l0_0.length c0_0, .slice A0_1 l0_1.length c0_1] 46 (0, 0)) (qK BK199)) : gb200 ≠ gb199)); clear BK199; clear HB; have BK199 := n0_; have HB := n1_; have BK200 := n2_; have GW200 := n3_; have GE200 := n4_; have NB199_200 := n5_; have NB200_199 := n6_; clear n0_ n1_ n2_ n3_ n4_ n5_ n6_; clear hb hbox hg; have hnb5 := NB199_200.out; have hnc5 := NB200_199.out; have hcz6_0 : w4.cell? ⟨gb199, 0, none⟩ = some (.slice A0_0 l0_0.length c0_0) := (blk_cell BK199.out 0).trans rfl; have hcz6_1 : w4.cell? ⟨gb199, 1, none⟩ = some (.slice A0_1 l0_1.length c0_1) := (blk_cell BK199.out 1).trans rfl; have hfz6_0 := blk_frozen BK199.out 0; have hfz6_1 := blk_frozen BK199.out 1; have hcz7_0 : w4.cell? ⟨gb200, 0, none⟩ = some (.int .i64 0) := (blk_cell BK200.out 0).trans rfl; have hcz7_1 : w4.cell? ⟨gb200, 1, none⟩ = some (.int .i64 0) := (blk_cell BK200.out 1).trans rfl; have hfz7_0 := blk_frozen BK200.out 0; have hfz7_1 := blk_frozen BK200.out 1))
  refine bodyPost_ret (results_cell_row rfl _ _ gb200 26 #[.int .i64 2, .int .i64 (-1)] (0, 0) _ rfl (by (with_reducible repeat (first | refine blk_drewN ?_ _ | refine blk_drew ?_ | refine blk_alloc ?_ _)); refine blk_put (cs := #[.int .i64 2, .int .i64 0]) ?_ 1 _ rfl; (with_reducible repeat (first | refine blk_drewN ?_ _ | refine blk_drew ?_ | refine blk_alloc ?_ _)); refine blk_put (cs := #[.int .i64 0, .int .i64 0]) ?_ 0 _ rfl; exact qK BK200) Try.underlying26 rfl (by kernel_rfl)) rfl ?_
  exact ⟨qE, qB⟩
 ·rw [if_neg c2] at H
  have c2b0 : decide (8 < (l0_0.length : Int)) = false := decide_eq_false c2
  have c2b1 : decide (8 < l0_0.length) = false := decide_eq_false (by omega)
  clear c2
  have H' := Aside0.mk H
  clear H
  go_enter Try.func38, Try.ntmps38
  go_wp2_with (first | ((with_reducible refine gate_dst (N := 1) rfl ?_); (try (refine gate_guard (by rfl) ?_; dsimp only)); refine qX (N := 1) (cs := #[.slice A0_0 l0_0.length c0_0, .slice A0_1 l0_1.length c0_1]) (t := 46) ?_; intro gb199 hg w8 hbox hb; have n0_ := Aside0.mk (below_step qB hb); have n1_ := Aside0.mk (hbox); have n2_ := Aside0.mk ((qG hg : w.heap.size ≤ gb199)); have n3_ := Aside0.mk ((qG hg : w.heap.size ≤ gb199)); clear HB; have HB := n0_; have BK199 := n1_; have GW199 := n2_; have GE199 := n3_; clear n0_ n1_ n2_ n3_; clear hb hbox hg) | ((with_reducible refine gate_dst (N := 2) rfl ?_); (try (refine gate_guard (by rfl) ?_; dsimp only)); refine qX (N := 2) (cs := #[.int .i64 0, .int .i64 0]) (t := 26) ?_; intro gb200 hg w9 hbox hb; have n0_ := Aside0.mk (blk_below (g := gb199) (o := .cells #[.slice A0_0 l0_0.length c0_0, .slice A0_1 l0_1.length c0_1] 46 (0, 0)) (qK BK199) hb); have n1_ := Aside0.mk (below_step qB hb); have n2_ := Aside0.mk (hbox); have n3_ := Aside0.mk ((qG hg : w.heap.size ≤ gb200)); have n4_ := Aside0.mk ((qG hg : w.heap.size ≤ gb200)); have n5_ := Aside0.mk ((by rw [hg]; exact Nat.ne_of_lt (blk_lt (g := gb199) (o := .cells #[.slice A0_0 l0_0.length c0_0, .slice A0_1 l0_1.length c0_1] 46 (0, 0)) (qK BK199)) : gb199 ≠ gb200)); have n6_ := Aside0.mk ((by rw [hg]; exact Nat.ne_of_gt (blk_lt (g := gb199) (o := .cells #[.slice A0_0 l0_0.length c0_0, .slice A0_1 l0_1.length c0_1] 46 (0, 0)) (qK BK199)) : gb200 ≠ gb199)); clear BK199; clear HB; have BK199 := n0_; have HB := n1_; have BK200 := n2_; have GW200 := n3_; have GE200 := n4_; have NB199_200 := n5_; have NB200_199 := n6_; clear n0_ n1_ n2_ n3_ n4_ n5_ n6_; clear hb hbox hg; have hnb10 := NB199_200.out; have hnc10 := NB200_199.out; have hcz11_0 : w9.cell? ⟨gb199, 0, none⟩ = some (.slice A0_0 l0_0.length c0_0) := (blk_cell BK199.out 0).trans rfl; have hcz11_1 : w9.cell? ⟨gb199, 1, none⟩ = some (.slice A0_1 l0_1.length c0_1) := (blk_cell BK199.out 1).trans rfl; have hfz11_0 := blk_frozen BK199.out 0; have hfz11_1 := blk_frozen BK199.out 1))
  go_loopg [15] k (fun kq v15 w' => ∃ (x15_1 : Int) (x201000_1 : Int) (x201001_1 : Int), v15 = .int .i64 x15_1 ∧ Aside0 (script_Validate.l0 kq (l0_0.length : Int) x15_1 l0_0 l0_1 = some (r1, r2)) ∧ Aside0 (kq ≤ k) ∧ Aside0 (w'.heap[gb199]? = some (.cells #[(.slice A0_0 l0_0.length c0_0), (.slice A0_1 l0_1.length c0_1)] 46 (0, 0))) ∧ Aside0 (w'.heap[gb200]? = some (.cells #[.int .i64 x201000_1, .int .i64 x201001_1] 26 (0, 0))) ∧ Aside0 (Below w.heap.size w w'))
  case atStart => exact ⟨(0), (0), (0), qF, H', ⟨Nat.le_refl _⟩, ⟨qK BK199⟩, ⟨qK BK200⟩, ⟨qB⟩⟩
  case round =>
   clear H'
   try clear c1
   try clear c2
   try clear c2b0
   try clear c2b1
   try clear p2
   try clear c3
   try clear c5
   try clear c10
   try clear hcz11_0
   try clear hcz11_1
   try clear hcz6_0
   try clear hcz6_1
   try clear hcz7_0
   try clear hcz7_1
   try clear hfz11_0
   try clear hfz11_1
   try clear hfz6_0
   try clear hfz6_1
   try clear hfz7_0
   try clear hfz7_1
   obtain ⟨x15_1, x201000_1, x201001_1, rfl, HA, HK1, BK199, BK200, HB⟩ := hrel
   cases gk with
   | zero => exact absurd HA.out (by simp [script_Validate.l0])
   | succ k1 =>
    have H := HA.out
    clear HA
    simp only [script_Validate.l0] at H
    by_cases c12 : x15_1 < (l0_0.length : Int)
    ·rw [if_pos c12] at H
     have c12b0 : decide (x15_1 < (l0_0.length : Int)) = true := decide_eq_true c12
     clear c12
     replace H := Option.bind_eq_some_iff.mp H
     obtain ⟨t201, A130, H⟩ := H
     replace H : (if t201 = 0 then (script_Validate.l0 k1 (l0_0.length : Int) (wrap64 (x15_1 + 1)) l0_0 l0_1) else (some (t201, x15_1))) = some (r1, r2) := H
     have A13 := Aside0.mk A130
     clear A130
     by_cases c14 : t201 = 0
     ·rw [if_pos c14] at H
      have c14b0 : (t201 == 0) = true := beq_iff_eq.mpr c14
      have c14b1 : (t201 != 0) = false := bne_eq_false_iff_eq.mpr c14
      clear c14
      have H' := Aside0.mk H
      clear H
      have hnb15 := NB199_200.out
      have hnc15 := NB200_199.out
      have hcz16_0 : wr.cell? ⟨gb199, 0, none⟩ = some (.slice A0_0 l0_0.length c0_0) := (blk_cell BK199.out 0).trans rfl
      have hcz16_1 : wr.cell? ⟨gb199, 1, none⟩ = some (.slice A0_1 l0_1.length c0_1) := (blk_cell BK199.out 1).trans rfl
      have hfz16_0 := blk_frozen BK199.out 0
      have hfz16_1 := blk_frozen BK199.out 1
      go_wp2_with (first | ((with_reducible refine gate_callee (f := 43) rfl ?_); refine goesL_ (some 20) rfl rfl Try.func43 (by kernel_rfl) rfl #[.agg #[.slice A0_0 l0_0.length c0_0, .slice A0_1 l0_1.length c0_1], .int .i64 x15_1] rfl qA ?_; (with_reducible refine (script_output.calls k1 _ _ l0_0 _ _ l0_1 x15_1 t201 _ ?side1 ?side2 ?side3 ?side4 A13.out).mono ?_); (case side1 => repeat (first | exact (Kd.C_below HR0_0.out HB.out) | (with_reducible refine Kd.C_alloc ?_ _) | (with_reducible refine Kd.C_drewN ?_ _) | (with_reducible refine Kd.C_drew ?_))); (case side2 => exact HC0_0.out); (case side3 => repeat (first | exact (Kd.C_below HR0_1.out HB.out) | (with_reducible refine Kd.C_alloc ?_ _) | (with_reducible refine Kd.C_drewN ?_ _) | (with_reducible refine Kd.C_drew ?_))); (case side4 => exact HC0_1.out); rintro e w17 ⟨rfl, hb⟩; refine ⟨_, rfl, ?_⟩; have n0_ := Aside0.mk (blk_below (g := gb199) (o := .cells #[.slice A0_0 l0_0.length c0_0, .slice A0_1 l0_1.length c0_1] 46 (0, 0)) (qK BK199) hb); have n1_ := Aside0.mk (blk_below (g := gb200) (o := .cells #[.int .i64 x201000_1, .int .i64 x201001_1] 26 (0, 0)) (qK BK200) hb); have n2_ := Aside0.mk (below_step qB hb); clear BK199; clear BK200; clear HB; have BK199 := n0_; have BK200 := n1_; have HB := n2_; clear n0_ n1_ n2_; (try clear hb); (try clear hb2); (try clear hk); (try clear hi)))
      go_roundg k1
      case measure => have := HK1.out; omega
      case rel => exact ⟨(wrap64 (x15_1 + 1)), (x201000_1), (x201001_1), qF, H', ⟨by have := HK1.out; omega⟩, ⟨qK BK199⟩, ⟨qK BK200⟩, ⟨qB⟩⟩
     ·rw [if_neg c14] at H
      have c14b0 : (t201 == 0) = false := beq_eq_false_iff_ne.mpr c14
      have c14b1 : (t201 != 0) = true := bne_iff_ne.mpr c14
      simp only [Option.some.injEq, Prod.mk.injEq] at H
      obtain ⟨rfl, rfl⟩ := H
      have hnb18 := NB199_200.out
      have hnc18 := NB200_199.out
      have hcz19_0 : wr.cell? ⟨gb199, 0, none⟩ = some (.slice A0_0 l0_0.length c0_0) := (blk_cell BK199.out 0).trans rfl
      have hcz19_1 : wr.cell? ⟨gb199, 1, none⟩ = some (.slice A0_1 l0_1.length c0_1) := (blk_cell BK199.out 1).trans rfl
      have hfz19_0 := blk_frozen BK199.out 0
      have hfz19_1 := blk_frozen BK199.out 1
      go_wp2_with (first | ((with_reducible refine gate_callee (f := 43) rfl ?_); refine goesL_ (some 20) rfl rfl Try.func43 (by kernel_rfl) rfl #[.agg #[.slice A0_0 l0_0.length c0_0, .slice A0_1 l0_1.length c0_1], .int .i64 x15_1] rfl qA ?_; (with_reducible refine (script_output.calls k1 _ _ l0_0 _ _ l0_1 x15_1 t201 _ ?side1 ?side2 ?side3 ?side4 A13.out).mono ?_); (case side1 => repeat (first | exact (Kd.C_below HR0_0.out HB.out) | (with_reducible refine Kd.C_alloc ?_ _) | (with_reducible refine Kd.C_drewN ?_ _) | (with_reducible refine Kd.C_drew ?_))); (case side2 => exact HC0_0.out); (case side3 => repeat (first | exact (Kd.C_below HR0_1.out HB.out) | (with_reducible refine Kd.C_alloc ?_ _) | (with_reducible refine Kd.C_drewN ?_ _) | (with_reducible refine Kd.C_drew ?_))); (case side4 => exact HC0_1.out); rintro e w20 ⟨rfl, hb⟩; refine ⟨_, rfl, ?_⟩; have n0_ := Aside0.mk (blk_below (g := gb199) (o := .cells #[.slice A0_0 l0_0.length c0_0, .slice A0_1 l0_1.length c0_1] 46 (0, 0)) (qK BK199) hb); have n1_ := Aside0.mk (blk_below (g := gb200) (o := .cells #[.int .i64 x201000_1, .int .i64 x201001_1] 26 (0, 0)) (qK BK200) hb); have n2_ := Aside0.mk (below_step qB hb); clear BK199; clear BK200; clear HB; have BK199 := n0_; have BK200 := n1_; have HB := n2_; clear n0_ n1_ n2_; (try clear hb); (try clear hb2); (try clear hk); (try clear hi); have hcz21_0 : w20.cell? ⟨gb200, 0, none⟩ = some (.int .i64 x201000_1) := (blk_cell BK200.out 0).trans rfl; have hcz21_1 : w20.cell? ⟨gb200, 1, none⟩ = some (.int .i64 x201001_1) := (blk_cell BK200.out 1).trans rfl; have hfz21_0 := blk_frozen BK200.out 0; have hfz21_1 := blk_frozen BK200.out 1))
      refine bodyPost_ret (results_cell_row rfl _ _ gb200 26 #[.int .i64 t201, .int .i64 x15_1] (0, 0) _ rfl (by (with_reducible repeat (first | refine blk_drewN ?_ _ | refine blk_drew ?_ | refine blk_alloc ?_ _)); refine blk_put (cs := #[.int .i64 t201, .int .i64 x201001_1]) ?_ 1 _ rfl; (with_reducible repeat (first | refine blk_drewN ?_ _ | refine blk_drew ?_ | refine blk_alloc ?_ _)); refine blk_put (cs := #[.int .i64 x201000_1, .int .i64 x201001_1]) ?_ 0 _ rfl; exact qK BK200) Try.underlying26 rfl (by kernel_rfl)) rfl ?_
      exact ⟨qE, qB⟩
    ·rw [if_neg c12] at H
     have c12b0 : decide (x15_1 < (l0_0.length : Int)) = false := decide_eq_false c12
     clear c12
     by_cases c22 : (l0_1.length : Int) > 12
     ·rw [if_pos c22] at H
      have c22b0 : decide (12 < (l0_1.length : Int)) = true := decide_eq_true c22
      have c22b1 : decide (12 < l0_1.length) = true := decide_eq_true (by omega)
      clear c22
      simp only [Option.some.injEq, Prod.mk.injEq] at H
      obtain ⟨rfl, rfl⟩ := H
      have hnb23 := NB199_200.out
      have hnc23 := NB200_199.out
      have hcz24_0 : wr.cell? ⟨gb199, 0, none⟩ = some (.slice A0_0 l0_0.length c0_0) := (blk_cell BK199.out 0).trans rfl
      have hcz24_1 : wr.cell? ⟨gb199, 1, none⟩ = some (.slice A0_1 l0_1.length c0_1) := (blk_cell BK199.out 1).trans rfl
      have hfz24_0 := blk_frozen BK199.out 0
      have hfz24_1 := blk_frozen BK199.out 1
      have hcz25_0 : wr.cell? ⟨gb200, 0, none⟩ = some (.int .i64 x201000_1) := (blk_cell BK200.out 0).trans rfl
      have hcz25_1 : wr.cell? ⟨gb200, 1, none⟩ = some (.int .i64 x201001_1) := (blk_cell BK200.out 1).trans rfl
      have hfz25_0 := blk_frozen BK200.out 0
      have hfz25_1 := blk_frozen BK200.out 1
      go_wp2
      refine bodyPost_ret (results_cell_row rfl _ _ gb200 26 #[.int .i64 2, .int .i64 (-2)] (0, 0) _ rfl (by (with_reducible repeat (first | refine blk_drewN ?_ _ | refine blk_drew ?_ | refine blk_alloc ?_ _)); refine blk_put (cs := #[.int .i64 2, .int .i64 x201001_1]) ?_ 1 _ rfl; (with_reducible repeat (first | refine blk_drewN ?_ _ | refine blk_drew ?_ | refine blk_alloc ?_ _)); refine blk_put (cs := #[.int .i64 x201000_1, .int .i64 x201001_1]) ?_ 0 _ rfl; exact qK BK200) Try.underlying26 rfl (by kernel_rfl)) rfl ?_
      exact ⟨qE, qB⟩
     ·rw [if_neg c22] at H
      have c22b0 : decide (12 < (l0_1.length : Int)) = false := decide_eq_false c22
      have c22b1 : decide (12 < l0_1.length) = false := decide_eq_false (by omega)
      clear c22
      have H' := Aside0.mk H
      clear H
      have hnb26 := NB199_200.out
      have hnc26 := NB200_199.out
      have hcz27_0 : wr.cell? ⟨gb199, 0, none⟩ = some (.slice A0_0 l0_0.length c0_0) := (blk_cell BK199.out 0).trans rfl
      have hcz27_1 : wr.cell? ⟨gb199, 1, none⟩ = some (.slice A0_1 l0_1.length c0_1) := (blk_cell BK199.out 1).trans rfl
      have hfz27_0 := blk_frozen BK199.out 0
      have hfz27_1 := blk_frozen BK199.out 1
      go_wp2
      go_loopg [35] k1 (fun kq v35 w' => ∃ (x35_2 : Int) (x201000_2 : Int) (x201001_2 : Int), v35 = .int .i64 x35_2 ∧ Aside0 (script_Validate.l1 kq l0_1 (l0_1.length : Int) x35_2 l0_0 l0_1 = some (r1, r2)) ∧ Aside0 (kq ≤ k1) ∧ Aside0 (w'.heap[gb199]? = some (.cells #[(.slice A0_0 l0_0.length c0_0), (.slice A0_1 l0_1.length c0_1)] 46 (0, 0))) ∧ Aside0 (w'.heap[gb200]? = some (.cells #[.int .i64 x201000_2, .int .i64 x201001_2] 26 (0, 0))) ∧ Aside0 (Below w.heap.size w w'))
      case atStart => exact ⟨(0), (x201000_1), (x201001_1), qF, H', ⟨Nat.le_refl _⟩, ⟨qK BK199⟩, ⟨qK BK200⟩, ⟨qB⟩⟩
      case round =>
       clear H'
       try clear c1
       try clear c2
       try clear c2b0
       try clear c2b1
       try clear p2
       try clear c3
       try clear c4
       try clear c5
       try clear p6
       try clear c10
       try clear c12
       try clear c12b0
       try clear c14
       try clear c14b0
       try clear c14b1
       try clear c15
       try clear c18
       try clear c22
       try clear c22b0
       try clear c22b1
       try clear c23
       try clear c26
       try clear hcz11_0
       try clear hcz11_1
       try clear hcz16_0
       try clear hcz16_1
       try clear hcz19_0
       try clear hcz19_1
       try clear hcz21_0
       try clear hcz21_1
       try clear hcz24_0
       try clear hcz24_1
       try clear hcz25_0
       try clear hcz25_1
       try clear hcz27_0
       try clear hcz27_1
       try clear hcz6_0
       try clear hcz6_1
       try clear hcz7_0
       try clear hcz7_1
       try clear hfz11_0
       try clear hfz11_1
       try clear hfz16_0
       try clear hfz16_1
       try clear hfz19_0
       try clear hfz19_1
       try clear hfz21_0
       try clear hfz21_1
       try clear hfz24_0
       try clear hfz24_1
       try clear hfz25_0
       try clear hfz25_1
       try clear hfz27_0
       try clear hfz27_1
       try clear hfz6_0
       try clear hfz6_1
       try clear hfz7_0
       try clear hfz7_1
       try clear p2
       obtain ⟨x35_2, x201000_2, x201001_2, rfl, HA, HK2, BK199, BK200, HB⟩ := hrel
       cases gk with
       | zero => exact absurd HA.out (by simp [script_Validate.l1])
       | succ k2 =>
        have H := HA.out
        clear HA
        simp only [script_Validate.l1] at H
        by_cases c28 : x35_2 < (l0_1.length : Int)
        ·rw [if_pos c28] at H
         have c28b0 : decide (x35_2 < (l0_1.length : Int)) = true := decide_eq_true c28
         clear c28
         by_cases c29 : 0 ≤ x35_2
         ·rw [if_pos c29] at H
          have c29b0 : decide (0 ≤ x35_2) = true := decide_eq_true c29
          clear c29
          by_cases c30 : x35_2 < (l0_1.length : Int)
          ·rw [if_pos c30] at H
           have c30b0 : decide (x35_2 < (l0_1.length : Int)) = true := decide_eq_true c30
           clear c30
           replace H := Option.bind_eq_some_iff.mp H
           obtain ⟨t204, A310, H⟩ := H
           replace H : (if t204 = true then (if ((rd_T72 l0_1 x35_2).f1) < 0 then (script_Validate.j2 k2 x35_2 l0_1 (l0_1.length : Int) x35_2 true l0_0 l0_1 ((rd_T72 l0_1 x35_2).f0) ((rd_T72 l0_1 x35_2).f1) ((rd_T72 l0_1 x35_2).f2)) else (script_Validate.j2 k2 x35_2 l0_1 (l0_1.length : Int) x35_2 (decide (((rd_T72 l0_1 x35_2).f1) > 4)) l0_0 l0_1 ((rd_T72 l0_1 x35_2).f0) ((rd_T72 l0_1 x35_2).f1) ((rd_T72 l0_1 x35_2).f2))) else (some (12, wrap64 ((-10) - x35_2)))) = some (r1, r2) := H
           have A31 := Aside0.mk A310
           clear A310
           by_cases c32 : t204 = true
           ·subst c32
            have H1 : (if ((rd_T72 l0_1 x35_2).f1) < 0 then (script_Validate.j2 k2 x35_2 l0_1 (l0_1.length : Int) x35_2 true l0_0 l0_1 ((rd_T72 l0_1 x35_2).f0) ((rd_T72 l0_1 x35_2).f1) ((rd_T72 l0_1 x35_2).f2)) else (script_Validate.j2 k2 x35_2 l0_1 (l0_1.length : Int) x35_2 (decide (((rd_T72 l0_1 x35_2).f1) > 4)) l0_0 l0_1 ((rd_T72 l0_1 x35_2).f0) ((rd_T72 l0_1 x35_2).f1) ((rd_T72 l0_1 x35_2).f2))) = some (r1, r2) := by rw [if_pos rfl] at H; exact H
            clear H
            have H := H1
            clear H1
            have HC33 := Aside0.mk H
            clear H
            have p202 : 0 ≤ (x35_2 : Int) := of_decide_eq_true qO
            have q202 : x35_2 < (l0_1.length : Int) := of_decide_eq_true qO
            obtain ⟨ad202, e202, hx202_0, hx202_1, hx202_2⟩ := at_T72 HR0_1.out x35_2 p202 q202
            cases e202
            replace hx202_0 := (HB.out.cell (World.block_lt_of_cell? w _ hx202_0)).trans hx202_0
            replace hx202_1 := (HB.out.cell (World.block_lt_of_cell? w _ hx202_1)).trans hx202_1
            replace hx202_2 := (HB.out.cell (World.block_lt_of_cell? w _ hx202_2)).trans hx202_2
            replace p202 := eq_true p202
            replace q202 := eq_true q202
            go_upto_region 17 with (first | ((with_reducible refine gate_dst (N := 6) rfl ?_); (try (refine gate_guard (by rfl) ?_; dsimp only)); refine qX (N := 6) (cs := #[.string (⟨#[]⟩ : ByteArray), .int .i64 0, .int .i64 0]) (t := 72) ?_; intro gb203 hg w34 hbox hb; have n0_ := Aside0.mk (blk_below (g := gb199) (o := .cells #[.slice A0_0 l0_0.length c0_0, .slice (some ad202) l0_1.length c0_1] 46 (0, 0)) (qK BK199) hb); have n1_ := Aside0.mk (blk_below (g := gb200) (o := .cells #[.int .i64 x201000_2, .int .i64 x201001_2] 26 (0, 0)) (qK BK200) hb); have n2_ := Aside0.mk (below_step qB hb); have n3_ := Aside0.mk (hbox); have n4_ := Aside0.mk ((qG hg : w.heap.size ≤ gb203)); have n5_ := Aside0.mk ((qG hg : w.heap.size ≤ gb203)); have n6_ := Aside0.mk ((by rw [hg]; exact Nat.ne_of_lt (blk_lt (g := gb199) (o := .cells #[.slice A0_0 l0_0.length c0_0, .slice (some ad202) l0_1.length c0_1] 46 (0, 0)) (qK BK199)) : gb199 ≠ gb203)); have n7_ := Aside0.mk ((by rw [hg]; exact Nat.ne_of_gt (blk_lt (g := gb199) (o := .cells #[.slice A0_0 l0_0.length c0_0, .slice (some ad202) l0_1.length c0_1] 46 (0, 0)) (qK BK199)) : gb203 ≠ gb199)); have n8_ := Aside0.mk ((by rw [hg]; exact Nat.ne_of_lt (blk_lt (g := gb200) (o := .cells #[.int .i64 x201000_2, .int .i64 x201001_2] 26 (0, 0)) (qK BK200)) : gb200 ≠ gb203)); have n9_ := Aside0.mk ((by rw [hg]; exact Nat.ne_of_gt (blk_lt (g := gb200) (o := .cells #[.int .i64 x201000_2, .int .i64 x201001_2] 26 (0, 0)) (qK BK200)) : gb203 ≠ gb200)); clear BK199; clear BK200; clear HB; have BK199 := n0_; have BK200 := n1_; have HB := n2_; have BK203 := n3_; have GW203 := n4_; have GE203 := n5_; have NB199_203 := n6_; have NB203_199 := n7_; have NB200_203 := n8_; have NB203_200 := n9_; clear n0_ n1_ n2_ n3_ n4_ n5_ n6_ n7_ n8_ n9_; clear hb hbox hg; have hnb35 := NB203_199.out; have hnc35 := NB199_203.out; have hnb36 := NB203_200.out; have hnc36 := NB200_203.out; have hcz37_0 : w34.cell? ⟨gb203, 0, none⟩ = some (.string (⟨#[]⟩ : ByteArray)) := (blk_cell BK203.out 0).trans rfl; have hcz37_1 : w34.cell? ⟨gb203, 1, none⟩ = some (.int .i64 0) := (blk_cell BK203.out 1).trans rfl; have hcz37_2 : w34.cell? ⟨gb203, 2, none⟩ = some (.int .i64 0) := (blk_cell BK203.out 2).trans rfl; have hfz37_0 := blk_frozen BK203.out 0; have hfz37_1 := blk_frozen BK203.out 1; have hfz37_2 := blk_frozen BK203.out 2) | ((with_reducible refine gate_callee (f := 44) rfl ?_); refine goesL_ (some 43) rfl rfl Try.func44 (by kernel_rfl) rfl #[.string ((rd_T72 l0_1 x35_2).f0)] rfl qA ?_; (with_reducible refine (script_isPattern.calls k2 ((rd_T72 l0_1 x35_2).f0) true _ A31.out).mono ?_); rintro e w' ⟨rfl, ⟨nd, rfl⟩⟩; refine ⟨_, rfl, ?_⟩))
            (try simp only [Act.put, List.setIfInBounds_toArray, List.set_cons_zero, List.set_cons_succ])
            go_cut [48] (fun v48 wc => ∃ (kq : Nat) (x48_32 : Bool), v48 = .bool x48_32 ∧ Aside0 (script_Validate.j2 kq x35_2 l0_1 (l0_1.length : Int) x35_2 x48_32 l0_0 l0_1 ((rd_T72 l0_1 x35_2).f0) ((rd_T72 l0_1 x35_2).f1) ((rd_T72 l0_1 x35_2).f2) = some (r1, r2)) ∧ Aside0 (kq ≤ k2) ∧ Aside0 (wc.heap[gb199]? = some (.cells #[(.slice A0_0 l0_0.length c0_0), (.slice (some ad202) l0_1.length c0_1)] 46 (0, 0))) ∧ Aside0 (wc.heap[gb200]? = some (.cells #[.int .i64 x201000_2, .int .i64 x201001_2] 26 (0, 0))) ∧ Aside0 (wc.heap[gb203]? = some (.cells #[.string ((rd_T72 l0_1 x35_2).f0), .int .i64 ((rd_T72 l0_1 x35_2).f1), .int .i64 ((rd_T72 l0_1 x35_2).f2)] 72 (0, 0))) ∧ Aside0 (Below w.heap.size w wc))
            case first =>
             have H := HC33.out
             clear HC33
             by_cases c38 : ((rd_T72 l0_1 x35_2).f1) < 0
             ·rw [if_pos c38] at H
              have c38b0 : decide (((rd_T72 l0_1 x35_2).f1) < 0) = true := decide_eq_true c38
              clear c38
              (first | rw [c38b0] | (simp only [i64_w, i32_w]; rw [c38b0]) | skip)
              have H' := Aside0.mk H
              clear H
              have hnb39 := NB203_199.out
              have hnc39 := NB199_203.out
              have hnb40 := NB203_200.out
              have hnc40 := NB200_203.out
              have hcz41_0 : w34.cell? ⟨gb203, 0, none⟩ = some (.string (⟨#[]⟩ : ByteArray)) := (blk_cell BK203.out 0).trans rfl
              have hcz41_1 : w34.cell? ⟨gb203, 1, none⟩ = some (.int .i64 0) := (blk_cell BK203.out 1).trans rfl
              have hcz41_2 : w34.cell? ⟨gb203, 2, none⟩ = some (.int .i64 0) := (blk_cell BK203.out 2).trans rfl
              have hfz41_0 := blk_frozen BK203.out 0
              have hfz41_1 := blk_frozen BK203.out 1
              have hfz41_2 := blk_frozen BK203.out 2
              go_wp2
              go_meet
              case rel => exact ⟨_, (true), qF, H', ⟨by have := HK1.out; have := HK2.out; first | omega | exact Nat.le_refl _⟩, ⟨by (with_reducible repeat (first | refine blk_drewN ?_ _ | refine blk_drew ?_ | refine blk_alloc ?_ _)); refine blk_far ?_ NB199_203.out _; (with_reducible repeat (first | refine blk_drewN ?_ _ | refine blk_drew ?_ | refine blk_alloc ?_ _)); refine blk_far ?_ NB199_203.out _; (with_reducible repeat (first | refine blk_drewN ?_ _ | refine blk_drew ?_ | refine blk_alloc ?_ _)); refine blk_far ?_ NB199_203.out _; exact qK BK199⟩, ⟨by (with_reducible repeat (first | refine blk_drewN ?_ _ | refine blk_drew ?_ | refine blk_alloc ?_ _)); refine blk_far ?_ NB200_203.out _; (with_reducible repeat (first | refine blk_drewN ?_ _ | refine blk_drew ?_ | refine blk_alloc ?_ _)); refine blk_far ?_ NB200_203.out _; (with_reducible repeat (first | refine blk_drewN ?_ _ | refine blk_drew ?_ | refine blk_alloc ?_ _)); refine blk_far ?_ NB200_203.out _; exact qK BK200⟩, ⟨by (with_reducible repeat (first | refine blk_drewN ?_ _ | refine blk_drew ?_ | refine blk_alloc ?_ _)); refine blk_put (cs := #[.string ((rd_T72 l0_1 x35_2).f0), .int .i64 ((rd_T72 l0_1 x35_2).f1), .int .i64 0]) ?_ 2 _ rfl; (with_reducible repeat (first | refine blk_drewN ?_ _ | refine blk_drew ?_ | refine blk_alloc ?_ _)); refine blk_put (cs := #[.string ((rd_T72 l0_1 x35_2).f0), .int .i64 0, .int .i64 0]) ?_ 1 _ rfl; (with_reducible repeat (first | refine blk_drewN ?_ _ | refine blk_drew ?_ | refine blk_alloc ?_ _)); refine blk_put (cs := #[.string (⟨#[]⟩ : ByteArray), .int .i64 0, .int .i64 0]) ?_ 0 _ rfl; exact qK BK203⟩, ⟨qB⟩⟩
             ·rw [if_neg c38] at H
              have c38b0 : decide (((rd_T72 l0_1 x35_2).f1) < 0) = false := decide_eq_false c38
              clear c38
              (first | rw [c38b0] | (simp only [i64_w, i32_w]; rw [c38b0]) | skip)
              have H' := Aside0.mk H
              clear H
              have hnb42 := NB203_199.out
              have hnc42 := NB199_203.out
              have hnb43 := NB203_200.out
              have hnc43 := NB200_203.out
              have hcz44_0 : w34.cell? ⟨gb203, 0, none⟩ = some (.string (⟨#[]⟩ : ByteArray)) := (blk_cell BK203.out 0).trans rfl
              have hcz44_1 : w34.cell? ⟨gb203, 1, none⟩ = some (.int .i64 0) := (blk_cell BK203.out 1).trans rfl
              have hcz44_2 : w34.cell? ⟨gb203, 2, none⟩ = some (.int .i64 0) := (blk_cell BK203.out 2).trans rfl
              have hfz44_0 := blk_frozen BK203.out 0
              have hfz44_1 := blk_frozen BK203.out 1
              have hfz44_2 := blk_frozen BK203.out 2
              go_wp2
              go_meet
              case rel => exact ⟨_, (decide (((rd_T72 l0_1 x35_2).f1) > 4)), qF, H', ⟨by have := HK1.out; have := HK2.out; first | omega | exact Nat.le_refl _⟩, ⟨by (with_reducible repeat (first | refine blk_drewN ?_ _ | refine blk_drew ?_ | refine blk_alloc ?_ _)); refine blk_far ?_ NB199_203.out _; (with_reducible repeat (first | refine blk_drewN ?_ _ | refine blk_drew ?_ | refine blk_alloc ?_ _)); refine blk_far ?_ NB199_203.out _; (with_reducible repeat (first | refine blk_drewN ?_ _ | refine blk_drew ?_ | refine blk_alloc ?_ _)); refine blk_far ?_ NB199_203.out _; exact qK BK199⟩, ⟨by (with_reducible repeat (first | refine blk_drewN ?_ _ | refine blk_drew ?_ | refine blk_alloc ?_ _)); refine blk_far ?_ NB200_203.out _; (with_reducible repeat (first | refine blk_drewN ?_ _ | refine blk_drew ?_ | refine blk_alloc ?_ _)); refine blk_far ?_ NB200_203.out _; (with_reducible repeat (first | refine blk_drewN ?_ _ | refine blk_drew ?_ | refine blk_alloc ?_ _)); refine blk_far ?_ NB200_203.out _; exact qK BK200⟩, ⟨by (with_reducible repeat (first | refine blk_drewN ?_ _ | refine blk_drew ?_ | refine blk_alloc ?_ _)); refine blk_put (cs := #[.string ((rd_T72 l0_1 x35_2).f0), .int .i64 ((rd_T72 l0_1 x35_2).f1), .int .i64 0]) ?_ 2 _ rfl; (with_reducible repeat (first | refine blk_drewN ?_ _ | refine blk_drew ?_ | refine blk_alloc ?_ _)); refine blk_put (cs := #[.string ((rd_T72 l0_1 x35_2).f0), .int .i64 0, .int .i64 0]) ?_ 1 _ rfl; (with_reducible repeat (first | refine blk_drewN ?_ _ | refine blk_drew ?_ | refine blk_alloc ?_ _)); refine blk_put (cs := #[.string (⟨#[]⟩ : ByteArray), .int .i64 0, .int .i64 0]) ?_ 0 _ rfl; exact qK BK203⟩, ⟨qB⟩⟩
            case rest =>
             clear HC33
             try clear c1
             try clear c2
             try clear c2b0
             try clear c2b1
             try clear p2
             try clear q2
             try clear hx2
             try clear c3
             try clear c4
             try clear c5
             try clear p6
             try clear c10
             try clear c12
             try clear c12b0
             try clear c14
             try clear c14b0
             try clear c14b1
             try clear c15
             try clear c18
             try clear p20
             try clear q20
             try clear hx20
             try clear c22
             try clear c22b0
             try clear c22b1
             try clear c23
             try clear c26
             try clear c28
             try clear c28b0
             try clear c29
             try clear c29b0
             try clear c30
             try clear c30b0
             try clear c32
             try clear c35
             try clear c36
             try clear c38
             try clear c38b0
             try clear c39
             try clear c40
             try clear c42
             try clear c43
             try clear c44
             try clear hcz11_0
             try clear hcz11_1
             try clear hcz16_0
             try clear hcz16_1
             try clear hcz19_0
             try clear hcz19_1
             try clear hcz21_0
             try clear hcz21_1
             try clear hcz24_0
             try clear hcz24_1
             try clear hcz25_0
             try clear hcz25_1
             try clear hcz27_0
             try clear hcz27_1
             try clear hcz37_0
             try clear hcz37_1
             try clear hcz37_2
             try clear hcz41_0
             try clear hcz41_1
             try clear hcz41_2
             try clear hcz44_0
             try clear hcz44_1
             try clear hcz44_2
             try clear hcz6_0
             try clear hcz6_1
             try clear hcz7_0
             try clear hcz7_1
             try clear hfz11_0
             try clear hfz11_1
             try clear hfz16_0
             try clear hfz16_1
             try clear hfz19_0
             try clear hfz19_1
             try clear hfz21_0
             try clear hfz21_1
             try clear hfz24_0
             try clear hfz24_1
             try clear hfz25_0
             try clear hfz25_1
             try clear hfz27_0
             try clear hfz27_1
             try clear hfz37_0
             try clear hfz37_1
             try clear hfz37_2
             try clear hfz41_0
             try clear hfz41_1
             try clear hfz41_2
             try clear hfz44_0
             try clear hfz44_1
             try clear hfz44_2
             try clear hfz6_0
             try clear hfz6_1
             try clear hfz7_0
             try clear hfz7_1
             try clear hx202_0
             try clear hx202_1
             try clear hx202_2
             try clear p2
             try clear p202
             try clear p6
             try clear q202
             obtain ⟨kq, x48_32, rfl, HA, HJ32, BK199, BK200, BK203, HB⟩ := hcut
             cases kq with
             | zero => exact absurd HA.out (by simp [script_Validate.j2])
             | succ kj32 =>
              have H := HA.out
              clear HA
              simp only [script_Validate.j2] at H
              by_cases c45 : x48_32 = true
              ·subst c45
               have H1 : (some (4, wrap64 ((-10) - x35_2))) = some (r1, r2) := by rw [if_pos rfl] at H; exact H
               clear H
               have H := H1
               clear H1
               simp only [Option.some.injEq, Prod.mk.injEq] at H
               obtain ⟨rfl, rfl⟩ := H
               have hnb46 := NB200_199.out
               have hnc46 := NB199_200.out
               have hnb47 := NB200_203.out
               have hnc47 := NB203_200.out
               have hcz48_0 : wc.cell? ⟨gb200, 0, none⟩ = some (.int .i64 x201000_2) := (blk_cell BK200.out 0).trans rfl
               have hcz48_1 : wc.cell? ⟨gb200, 1, none⟩ = some (.int .i64 x201001_2) := (blk_cell BK200.out 1).trans rfl
               have hfz48_0 := blk_frozen BK200.out 0
               have hfz48_1 := blk_frozen BK200.out 1
               go_wp2
               refine bodyPost_ret (results_cell_row rfl _ _ gb200 26 #[.int .i64 4, .int .i64 (wrap64 ((-10) - x35_2))] (0, 0) _ rfl (by (with_reducible repeat (first | refine blk_drewN ?_ _ | refine blk_drew ?_ | refine blk_alloc ?_ _)); refine blk_put (cs := #[.int .i64 4, .int .i64 x201001_2]) ?_ 1 _ rfl; (with_reducible repeat (first | refine blk_drewN ?_ _ | refine blk_drew ?_ | refine blk_alloc ?_ _)); refine blk_put (cs := #[.int .i64 x201000_2, .int .i64 x201001_2]) ?_ 0 _ rfl; exact qK BK200) Try.underlying26 rfl (by kernel_rfl)) rfl ?_
               exact ⟨qE, qB⟩
              ·replace c45 := Bool.eq_false_iff.mpr c45
               subst c45
               have H1 : (if ((rd_T72 l0_1 x35_2).f2) < 0 then (some (3, wrap64 ((-10) - x35_2))) else (if ((rd_T72 l0_1 x35_2).f2) ≥ (l0_0.length : Int) then (some (3, wrap64 ((-10) - x35_2))) else (script_Validate.l1 kj32 l0_1 (l0_1.length : Int) (wrap64 (x35_2 + 1)) l0_0 l0_1))) = some (r1, r2) := by rw [if_neg (show ¬ (false = true) by decide)] at H; exact H
               clear H
               have H := H1
               clear H1
               by_cases c49 : ((rd_T72 l0_1 x35_2).f2) < 0
               ·rw [if_pos c49] at H
                have c49b0 : decide (((rd_T72 l0_1 x35_2).f2) < 0) = true := decide_eq_true c49
                clear c49
                simp only [Option.some.injEq, Prod.mk.injEq] at H
                obtain ⟨rfl, rfl⟩ := H
                have hnb50 := NB203_199.out
                have hnc50 := NB199_203.out
                have hnb51 := NB203_200.out
                have hnc51 := NB200_203.out
                have hcz52_0 : wc.cell? ⟨gb203, 0, none⟩ = some (.string ((rd_T72 l0_1 x35_2).f0)) := (blk_cell BK203.out 0).trans rfl
                have hcz52_1 : wc.cell? ⟨gb203, 1, none⟩ = some (.int .i64 ((rd_T72 l0_1 x35_2).f1)) := (blk_cell BK203.out 1).trans rfl
                have hcz52_2 : wc.cell? ⟨gb203, 2, none⟩ = some (.int .i64 ((rd_T72 l0_1 x35_2).f2)) := (blk_cell BK203.out 2).trans rfl
                have hfz52_0 := blk_frozen BK203.out 0
                have hfz52_1 := blk_frozen BK203.out 1
                have hfz52_2 := blk_frozen BK203.out 2
                have hnb53 := NB200_199.out
                have hnc53 := NB199_200.out
                have hcz54_0 : wc.cell? ⟨gb200, 0, none⟩ = some (.int .i64 x201000_2) := (blk_cell BK200.out 0).trans rfl
                have hcz54_1 : wc.cell? ⟨gb200, 1, none⟩ = some (.int .i64 x201001_2) := (blk_cell BK200.out 1).trans rfl
                have hfz54_0 := blk_frozen BK200.out 0
                have hfz54_1 := blk_frozen BK200.out 1
                go_wp2
                refine bodyPost_ret (results_cell_row rfl _ _ gb200 26 #[.int .i64 3, .int .i64 (wrap64 ((-10) - x35_2))] (0, 0) _ rfl (by (with_reducible repeat (first | refine blk_drewN ?_ _ | refine blk_drew ?_ | refine blk_alloc ?_ _)); refine blk_put (cs := #[.int .i64 3, .int .i64 x201001_2]) ?_ 1 _ rfl; (with_reducible repeat (first | refine blk_drewN ?_ _ | refine blk_drew ?_ | refine blk_alloc ?_ _)); refine blk_put (cs := #[.int .i64 x201000_2, .int .i64 x201001_2]) ?_ 0 _ rfl; exact qK BK200) Try.underlying26 rfl (by kernel_rfl)) rfl ?_
                exact ⟨qE, qB⟩
               ·rw [if_neg c49] at H
                have c49b0 : decide (((rd_T72 l0_1 x35_2).f2) < 0) = false := decide_eq_false c49
                clear c49
                by_cases c55 : ((rd_T72 l0_1 x35_2).f2) ≥ (l0_0.length : Int)
                ·rw [if_pos c55] at H
                 have c55b0 : decide ((l0_0.length : Int) ≤ ((rd_T72 l0_1 x35_2).f2)) = true := decide_eq_true c55
                 clear c55
                 simp only [Option.some.injEq, Prod.mk.injEq] at H
                 obtain ⟨rfl, rfl⟩ := H
                 have hnb56 := NB203_199.out
                 have hnc56 := NB199_203.out
                 have hnb57 := NB203_200.out
                 have hnc57 := NB200_203.out
                 have hcz58_0 : wc.cell? ⟨gb203, 0, none⟩ = some (.string ((rd_T72 l0_1 x35_2).f0)) := (blk_cell BK203.out 0).trans rfl
                 have hcz58_1 : wc.cell? ⟨gb203, 1, none⟩ = some (.int .i64 ((rd_T72 l0_1 x35_2).f1)) := (blk_cell BK203.out 1).trans rfl
                 have hcz58_2 : wc.cell? ⟨gb203, 2, none⟩ = some (.int .i64 ((rd_T72 l0_1 x35_2).f2)) := (blk_cell BK203.out 2).trans rfl
                 have hfz58_0 := blk_frozen BK203.out 0
                 have hfz58_1 := blk_frozen BK203.out 1
                 have hfz58_2 := blk_frozen BK203.out 2
                 have hnb59 := NB199_200.out
                 have hnc59 := NB200_199.out
                 have hcz60_0 : wc.cell? ⟨gb199, 0, none⟩ = some (.slice A0_0 l0_0.length c0_0) := (blk_cell BK199.out 0).trans rfl
                 have hcz60_1 : wc.cell? ⟨gb199, 1, none⟩ = some (.slice (some ad202) l0_1.length c0_1) := (blk_cell BK199.out 1).trans rfl
                 have hfz60_0 := blk_frozen BK199.out 0
                 have hfz60_1 := blk_frozen BK199.out 1
                 have hcz61_0 : wc.cell? ⟨gb200, 0, none⟩ = some (.int .i64 x201000_2) := (blk_cell BK200.out 0).trans rfl
                 have hcz61_1 : wc.cell? ⟨gb200, 1, none⟩ = some (.int .i64 x201001_2) := (blk_cell BK200.out 1).trans rfl
                 have hfz61_0 := blk_frozen BK200.out 0
                 have hfz61_1 := blk_frozen BK200.out 1
                 go_wp2
                 refine bodyPost_ret (results_cell_row rfl _ _ gb200 26 #[.int .i64 3, .int .i64 (wrap64 ((-10) - x35_2))] (0, 0) _ rfl (by (with_reducible repeat (first | refine blk_drewN ?_ _ | refine blk_drew ?_ | refine blk_alloc ?_ _)); refine blk_put (cs := #[.int .i64 3, .int .i64 x201001_2]) ?_ 1 _ rfl; (with_reducible repeat (first | refine blk_drewN ?_ _ | refine blk_drew ?_ | refine blk_alloc ?_ _)); refine blk_put (cs := #[.int .i64 x201000_2, .int .i64 x201001_2]) ?_ 0 _ rfl; exact qK BK200) Try.underlying26 rfl (by kernel_rfl)) rfl ?_
                 exact ⟨qE, qB⟩
                ·rw [if_neg c55] at H
                 have c55b0 : decide ((l0_0.length : Int) ≤ ((rd_T72 l0_1 x35_2).f2)) = false := decide_eq_false c55
                 clear c55
                 have H' := Aside0.mk H
                 clear H
                 have hnb62 := NB203_199.out
                 have hnc62 := NB199_203.out
                 have hnb63 := NB203_200.out
                 have hnc63 := NB200_203.out
                 have hcz64_0 : wc.cell? ⟨gb203, 0, none⟩ = some (.string ((rd_T72 l0_1 x35_2).f0)) := (blk_cell BK203.out 0).trans rfl
                 have hcz64_1 : wc.cell? ⟨gb203, 1, none⟩ = some (.int .i64 ((rd_T72 l0_1 x35_2).f1)) := (blk_cell BK203.out 1).trans rfl
                 have hcz64_2 : wc.cell? ⟨gb203, 2, none⟩ = some (.int .i64 ((rd_T72 l0_1 x35_2).f2)) := (blk_cell BK203.out 2).trans rfl
                 have hfz64_0 := blk_frozen BK203.out 0
                 have hfz64_1 := blk_frozen BK203.out 1
                 have hfz64_2 := blk_frozen BK203.out 2
                 have hnb65 := NB199_200.out
                 have hnc65 := NB200_199.out
                 have hcz66_0 : wc.cell? ⟨gb199, 0, none⟩ = some (.slice A0_0 l0_0.length c0_0) := (blk_cell BK199.out 0).trans rfl
                 have hcz66_1 : wc.cell? ⟨gb199, 1, none⟩ = some (.slice (some ad202) l0_1.length c0_1) := (blk_cell BK199.out 1).trans rfl
                 have hfz66_0 := blk_frozen BK199.out 0
                 have hfz66_1 := blk_frozen BK199.out 1
                 go_wp2
                 go_roundg kj32
                 case measure => have := HK1.out; have := HK2.out; have := HJ32.out; omega
                 case rel => exact ⟨(wrap64 (x35_2 + 1)), (x201000_2), (x201001_2), qF, H', ⟨by have := HK1.out; have := HK2.out; have := HJ32.out; omega⟩, ⟨qK BK199⟩, ⟨qK BK200⟩, ⟨qB⟩⟩
           ·replace c32 := Bool.eq_false_iff.mpr c32
            subst c32
            have H1 : (some (12, wrap64 ((-10) - x35_2))) = some (r1, r2) := by rw [if_neg (show ¬ (false = true) by decide)] at H; exact H
            clear H
            have H := H1
            clear H1
            simp only [Option.some.injEq, Prod.mk.injEq] at H
            obtain ⟨rfl, rfl⟩ := H
            have p202 : 0 ≤ (x35_2 : Int) := of_decide_eq_true qO
            have q202 : x35_2 < (l0_1.length : Int) := of_decide_eq_true qO
            obtain ⟨ad202, e202, hx202_0, hx202_1, hx202_2⟩ := at_T72 HR0_1.out x35_2 p202 q202
            cases e202
            replace hx202_0 := (HB.out.cell (World.block_lt_of_cell? w _ hx202_0)).trans hx202_0
            replace hx202_1 := (HB.out.cell (World.block_lt_of_cell? w _ hx202_1)).trans hx202_1
            replace hx202_2 := (HB.out.cell (World.block_lt_of_cell? w _ hx202_2)).trans hx202_2
            replace p202 := eq_true p202
            replace q202 := eq_true q202
            go_wp2_with (first | ((with_reducible refine gate_dst (N := 6) rfl ?_); (try (refine gate_guard (by rfl) ?_; dsimp only)); refine qX (N := 6) (cs := #[.string (⟨#[]⟩ : ByteArray), .int .i64 0, .int .i64 0]) (t := 72) ?_; intro gb203 hg w67 hbox hb; have n0_ := Aside0.mk (blk_below (g := gb199) (o := .cells #[.slice A0_0 l0_0.length c0_0, .slice (some ad202) l0_1.length c0_1] 46 (0, 0)) (qK BK199) hb); have n1_ := Aside0.mk (blk_below (g := gb200) (o := .cells #[.int .i64 x201000_2, .int .i64 x201001_2] 26 (0, 0)) (qK BK200) hb); have n2_ := Aside0.mk (below_step qB hb); have n3_ := Aside0.mk (hbox); have n4_ := Aside0.mk ((qG hg : w.heap.size ≤ gb203)); have n5_ := Aside0.mk ((qG hg : w.heap.size ≤ gb203)); have n6_ := Aside0.mk ((by rw [hg]; exact Nat.ne_of_lt (blk_lt (g := gb199) (o := .cells #[.slice A0_0 l0_0.length c0_0, .slice (some ad202) l0_1.length c0_1] 46 (0, 0)) (qK BK199)) : gb199 ≠ gb203)); have n7_ := Aside0.mk ((by rw [hg]; exact Nat.ne_of_gt (blk_lt (g := gb199) (o := .cells #[.slice A0_0 l0_0.length c0_0, .slice (some ad202) l0_1.length c0_1] 46 (0, 0)) (qK BK199)) : gb203 ≠ gb199)); have n8_ := Aside0.mk ((by rw [hg]; exact Nat.ne_of_lt (blk_lt (g := gb200) (o := .cells #[.int .i64 x201000_2, .int .i64 x201001_2] 26 (0, 0)) (qK BK200)) : gb200 ≠ gb203)); have n9_ := Aside0.mk ((by rw [hg]; exact Nat.ne_of_gt (blk_lt (g := gb200) (o := .cells #[.int .i64 x201000_2, .int .i64 x201001_2] 26 (0, 0)) (qK BK200)) : gb203 ≠ gb200)); clear BK199; clear BK200; clear HB; have BK199 := n0_; have BK200 := n1_; have HB := n2_; have BK203 := n3_; have GW203 := n4_; have GE203 := n5_; have NB199_203 := n6_; have NB203_199 := n7_; have NB200_203 := n8_; have NB203_200 := n9_; clear n0_ n1_ n2_ n3_ n4_ n5_ n6_ n7_ n8_ n9_; clear hb hbox hg; have hnb68 := NB203_199.out; have hnc68 := NB199_203.out; have hnb69 := NB203_200.out; have hnc69 := NB200_203.out; have hcz70_0 : w67.cell? ⟨gb203, 0, none⟩ = some (.string (⟨#[]⟩ : ByteArray)) := (blk_cell BK203.out 0).trans rfl; have hcz70_1 : w67.cell? ⟨gb203, 1, none⟩ = some (.int .i64 0) := (blk_cell BK203.out 1).trans rfl; have hcz70_2 : w67.cell? ⟨gb203, 2, none⟩ = some (.int .i64 0) := (blk_cell BK203.out 2).trans rfl; have hfz70_0 := blk_frozen BK203.out 0; have hfz70_1 := blk_frozen BK203.out 1; have hfz70_2 := blk_frozen BK203.out 2) | ((with_reducible refine gate_callee (f := 44) rfl ?_); refine goesL_ (some 43) rfl rfl Try.func44 (by kernel_rfl) rfl #[.string ((rd_T72 l0_1 x35_2).f0)] rfl qA ?_; (with_reducible refine (script_isPattern.calls k2 ((rd_T72 l0_1 x35_2).f0) false _ A31.out).mono ?_); rintro e w' ⟨rfl, ⟨nd, rfl⟩⟩; refine ⟨_, rfl, ?_⟩; have hnb71 := NB200_199.out; have hnc71 := NB199_200.out; have hcz72_0 : w67.cell? ⟨gb200, 0, none⟩ = some (.int .i64 x201000_2) := (blk_cell BK200.out 0).trans rfl; have hcz72_1 : w67.cell? ⟨gb200, 1, none⟩ = some (.int .i64 x201001_2) := (blk_cell BK200.out 1).trans rfl; have hfz72_0 := blk_frozen BK200.out 0; have hfz72_1 := blk_frozen BK200.out 1))
            refine bodyPost_ret (results_cell_row rfl _ _ gb200 26 #[.int .i64 12, .int .i64 (wrap64 ((-10) - x35_2))] (0, 0) _ rfl (by (with_reducible repeat (first | refine blk_drewN ?_ _ | refine blk_drew ?_ | refine blk_alloc ?_ _)); refine blk_put (cs := #[.int .i64 12, .int .i64 x201001_2]) ?_ 1 _ rfl; (with_reducible repeat (first | refine blk_drewN ?_ _ | refine blk_drew ?_ | refine blk_alloc ?_ _)); refine blk_put (cs := #[.int .i64 x201000_2, .int .i64 x201001_2]) ?_ 0 _ rfl; (with_reducible repeat (first | refine blk_drewN ?_ _ | refine blk_drew ?_ | refine blk_alloc ?_ _)); refine blk_far ?_ NB200_203.out _; (with_reducible repeat (first | refine blk_drewN ?_ _ | refine blk_drew ?_ | refine blk_alloc ?_ _)); refine blk_far ?_ NB200_203.out _; (with_reducible repeat (first | refine blk_drewN ?_ _ | refine blk_drew ?_ | refine blk_alloc ?_ _)); refine blk_far ?_ NB200_203.out _; exact qK BK200) Try.underlying26 rfl (by kernel_rfl)) rfl ?_
            exact ⟨qE, qB⟩
          ·rw [if_neg c30] at H
           exact absurd H (by simp)
         ·rw [if_neg c29] at H
          exact absurd H (by simp)
        ·rw [if_neg c28] at H
         have c28b0 : decide (x35_2 < (l0_1.length : Int)) = false := decide_eq_false c28
         clear c28
         simp only [Option.some.injEq, Prod.mk.injEq] at H
         obtain ⟨rfl, rfl⟩ := H
         have hnb73 := NB200_199.out
         have hnc73 := NB199_200.out
         have hcz74_0 : wr.cell? ⟨gb200, 0, none⟩ = some (.int .i64 x201000_2) := (blk_cell BK200.out 0).trans rfl
         have hcz74_1 : wr.cell? ⟨gb200, 1, none⟩ = some (.int .i64 x201001_2) := (blk_cell BK200.out 1).trans rfl
         have hfz74_0 := blk_frozen BK200.out 0
         have hfz74_1 := blk_frozen BK200.out 1
         go_wp2
         refine bodyPost_ret (results_cell_row rfl _ _ gb200 26 #[.int .i64 0, .int .i64 0] (0, 0) _ rfl (by (with_reducible repeat (first | refine blk_drewN ?_ _ | refine blk_drew ?_ | refine blk_alloc ?_ _)); refine blk_put (cs := #[.int .i64 0, .int .i64 x201001_2]) ?_ 1 _ rfl; (with_reducible repeat (first | refine blk_drewN ?_ _ | refine blk_drew ?_ | refine blk_alloc ?_ _)); refine blk_put (cs := #[.int .i64 x201000_2, .int .i64 x201001_2]) ?_ 0 _ rfl; exact qK BK200) Try.underlying26 rfl (by kernel_rfl)) rfl ?_
         exact ⟨qE, qB⟩

end Go.Proofs.Ytnbeamaoblmbhaa.PPlace
