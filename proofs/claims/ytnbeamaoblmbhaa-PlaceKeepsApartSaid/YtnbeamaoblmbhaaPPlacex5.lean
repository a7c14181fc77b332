/- Written by a program of this session, for the law(s) Place: contracts of the Go functions that the law reaches, each against a plain Lean function. No condition. -/
import Derived.Test.YtnbeamaoblmbhaaPPlacex0
import Derived.Test.YtnbeamaoblmbhaaPPlacex3
namespace Go.Proofs.Ytnbeamaoblmbhaa.PPlace
open Go.RowKit Go.Proofs.YtnbeamaoblmbhaaW.PrintWords Go.Proofs.YtnbeamaoblmbhaaW.PrintLast Go.Proofs.YtnbeamaoblmbhaaW.PrintMore
attribute [local go_sem] max2_int min2_int max_two min_two max_three min_three max_four min_four   -- for this text's walks alone
set_option linter.unusedVariables false
set_option linter.unusedSimpArgs false

/-! ### ref_ItemsFault: function 21 -/
def ref_ItemsFault.l0 : Nat → List (S62) → Int → Int → Option (Int × Int)
 | 0, _, _, _ => none
 | k + 1, x0, x1, x5 => if x5 < (x0.length : Int) then (if 0 ≤ x5 then ((ref_In.f ((rd_T62 x0 x5).f0) 0 (wrap64 (x1 - 1))).bind fun t154 => (if t154 = true then ((ref_In.f ((rd_T62 x0 x5).f1) 0 1048576).bind fun t156 => (if t156 = true then ((ref_Power.f k ((rd_T62 x0 x5).f2) 256).bind fun t158 => (if t158 = true then (ref_ItemsFault.l0 k x0 x1 (wrap64 (x5 + 1))) else ((ref_At.f 3 (wrap64 ((-100) - x5))).bind fun bt159 => (some (bt159.1, bt159.2))))) else ((ref_At.f 3 (wrap64 ((-100) - x5))).bind fun bt161 => (some (bt161.1, bt161.2))))) else ((ref_At.f 3 (wrap64 ((-100) - x5))).bind fun bt163 => (some (bt163.1, bt163.2))))) else (none)) else (some (0, 0))
def ref_ItemsFault.f (k : Nat) (l0 : List (S62)) (a1 : Int) : Option (Int × Int) := if (l0.length : Int) > 200 then ((ref_At.f 2 (-3)).bind fun bt151 => (some (bt151.1, bt151.2))) else (ref_ItemsFault.l0 k l0 a1 0)
theorem ref_ItemsFault.mono_l : ∀ k, (∀ y0 y1 y2, LeO (ref_ItemsFault.l0 k y0 y1 y2) (ref_ItemsFault.l0 (k + 1) y0 y1 y2))
 | 0 => fun _ _ _ r h => by simp [ref_ItemsFault.l0] at h
 | k + 1 => by
  have ih0 := ref_ItemsFault.mono_l k
  ·intro y0 y1 y2
   unfold ref_ItemsFault.l0
   repeat' first
   | (with_reducible exact ih0 _ _ _)
   | (with_reducible exact ref_Power.mono _ _ _)
   | (with_reducible exact LeO.refl _)
   | (with_reducible exact LeO.none _)
   | (with_reducible refine LeO.ite ?_ ?_)
   | (with_reducible refine LeO.bind ?_ (fun _ => ?_))
   | exact ih0 _ _ _
   | exact ref_Power.mono _ _ _
   | exact LeO.none _
   | refine LeO.ite ?_ ?_
   | refine LeO.bind ?_ (fun _ => ?_)
theorem ref_ItemsFault.mono : ∀ a0 a1 k, LeO (ref_ItemsFault.f k a0 a1) (ref_ItemsFault.f (k + 1) a0 a1) := by
 intro a0 a1 k
 have ih0 := ref_ItemsFault.mono_l k
 unfold ref_ItemsFault.f
 repeat' first
   | (with_reducible exact ih0 _ _ _)
   | (with_reducible exact ref_Power.mono _ _ _)
   | (with_reducible exact LeO.refl _)
   | (with_reducible exact LeO.none _)
   | (with_reducible refine LeO.ite ?_ ?_)
   | (with_reducible refine LeO.bind ?_ (fun _ => ?_))
   | exact ih0 _ _ _
   | exact ref_Power.mono _ _ _
   | exact LeO.none _
   | refine LeO.ite ?_ ?_
   | refine LeO.bind ?_ (fun _ => ?_)
set_option maxHeartbeats 8000000 in
set_option maxRecDepth 100000 in
theorem ref_ItemsFault.calls (k : Nat) (A0 : Option Addr) (c0 : Nat) (l0 : List (S62)) (a1 : Int) (r1 : Int) (r2 : Int) (w : World) (hr0 : Kd.C k62 w A0 l0.length l0) (hc0 : l0.length ≤ c0) (h : ref_ItemsFault.f k l0 a1 = some (r1, r2)) :
  Calls Try.prog 21 #[.slice A0 l0.length c0, .int .i64 a1] w fun e w' => e = .returned (.agg #[.int .i64 r1, .int .i64 r2]) ∧ Below w.heap.size w w' := by
 have hu26 := Try.underlying26
 have HR0 := Aside0.mk hr0
 have HC0 := Aside0.mk hc0
 clear hr0 hc0
 have HB := Aside0.mk (Below.refl w.heap.size w)
 have H : (if (l0.length : Int) > 200 then ((ref_At.f 2 (-3)).bind fun bt151 => (some (bt151.1, bt151.2))) else (ref_ItemsFault.l0 k l0 a1 0)) = some (r1, r2) := h
 clear h
 by_cases c3 : (l0.length : Int) > 200
 ·rw [if_pos c3] at H
  have c3b0 : decide (200 < (l0.length : Int)) = true := decide_eq_true c3
  have c3b1 : decide (200 < l0.length) = true := decide_eq_true (by omega)
  clear c3
  replace H := Option.bind_eq_some_iff.mp H
  obtain ⟨⟨t151, t152⟩, A40, H⟩ := H
  replace H : (some (t151, t152)) = some (r1, r2) := H
  have A4 := Aside0.mk A40
  clear A40
  simp only [Option.some.injEq, Prod.mk.injEq] at H
  obtain ⟨rfl, rfl⟩ := H
  go_enter Try.func21, Try.ntmps21
  go_wp2_with (first | ((with_reducible refine gate_dst (N := 4) rfl ?_); refine qX (N := 4) (cs := #[.int .i64 0, .int .i64 0]) (t := 26) ?_; intro gb150 hg w5 hbox hb; have n0_ := Aside0.mk (below_step qB hb); have n1_ := Aside0.mk (hbox); have n2_ := Aside0.mk ((qG hg : w.heap.size ≤ gb150)); have n3_ := Aside0.mk ((qG hg : w.heap.size ≤ gb150)); clear HB; have HB := n0_; have BK150 := n1_; have GW150 := n2_; have GE150 := n3_; clear n0_ n1_ n2_ n3_; clear hb hbox hg) | ((with_reducible refine gate_callee (f := 14) rfl ?_); refine goesL_ (some 9) rfl rfl Try.func14 (by kernel_rfl) rfl #[.int .i64 2, .int .i64 (-3)] rfl qA ?_; (with_reducible refine (ref_At.calls 2 (-3) t151 t152 _ A4.out).mono ?_); rintro e w6 ⟨rfl, hb⟩; refine ⟨_, rfl, ?_⟩; have n0_ := Aside0.mk (blk_below (g := gb150) (o := .cells #[.int .i64 0, .int .i64 0] 26 (0, 0)) (qK BK150) hb); have n1_ := Aside0.mk (below_step qB hb); clear BK150; clear HB; have BK150 := n0_; have HB := n1_; clear n0_ n1_; (try clear hb); (try clear hb2); (try clear hk); (try clear hi); have hcz7_0 : w6.cell? ⟨gb150, 0, none⟩ = some (.int .i64 0) := (blk_cell BK150.out 0).trans rfl; have hcz7_1 : w6.cell? ⟨gb150, 1, none⟩ = some (.int .i64 0) := (blk_cell BK150.out 1).trans rfl; have hfz7_0 := blk_frozen BK150.out 0; have hfz7_1 := blk_frozen BK150.out 1))
  refine bodyPost_ret (results_cell_row rfl _ _ gb150 26 #[.int .i64 t151, .int .i64 t152] (0, 0) _ rfl (by (with_reducible repeat (first | refine blk_drewN ?_ _ | refine blk_drew ?_ | refine blk_alloc ?_ _)); refine blk_put (cs := #[.int .i64 t151, .int .i64 0]) ?_ 1 _ rfl; (with_reducible repeat (first | refine blk_drewN ?_ _ | refine blk_drew ?_ | refine blk_alloc ?_ _)); refine blk_put (cs := #[.int .i64 0, .int .i64 0]) ?_ 0 _ rfl; exact qK BK150) Try.underlying26 rfl (by kernel_rfl)) rfl ?_
  exact ⟨qE, qB⟩
 ·rw [if_neg c3] at H
  have c3b0 : decide (200 < (l0.length : Int)) = false := decide_eq_false c3
  have c3b1 : decide (200 < l0.length) = false := decide_eq_false (by omega)
  clear c3
  have H' := Aside0.mk H
  clear H
  go_enter Try.func21, Try.ntmps21
  go_wp2_with (first | ((with_reducible refine gate_dst (N := 4) rfl ?_); refine qX (N := 4) (cs := #[.int .i64 0, .int .i64 0]) (t := 26) ?_; intro gb150 hg w8 hbox hb; have n0_ := Aside0.mk (below_step qB hb); have n1_ := Aside0.mk (hbox); have n2_ := Aside0.mk ((qG hg : w.heap.size ≤ gb150)); have n3_ := Aside0.mk ((qG hg : w.heap.size ≤ gb150)); clear HB; have HB := n0_; have BK150 := n1_; have GW150 := n2_; have GE150 := n3_; clear n0_ n1_ n2_ n3_; clear hb hbox hg))
  go_loopg [5] k (fun kq v5 w' => ∃ (x5_1 : Int) (x151000_1 : Int) (x151001_1 : Int), v5 = .int .i64 x5_1 ∧ Aside0 (ref_ItemsFault.l0 kq l0 a1 x5_1 = some (r1, r2)) ∧ Aside0 (kq ≤ k) ∧ Aside0 (w'.heap[gb150]? = some (.cells #[.int .i64 x151000_1, .int .i64 x151001_1] 26 (0, 0))) ∧ Aside0 (Below w.heap.size w w'))
  case atStart => exact ⟨(0), (0), (0), qF, H', ⟨Nat.le_refl _⟩, ⟨qK BK150⟩, ⟨qB⟩⟩
  case round =>
   clear H'
   try clear c1
   try clear c2
   try clear p2
   try clear c3
   try clear c3b0
   try clear c3b1
   try clear hcz7_0
   try clear hcz7_1
   try clear hfz7_0
   try clear hfz7_1
   obtain ⟨x5_1, x151000_1, x151001_1, rfl, HA, HK1, BK150, HB⟩ := hrel
   cases gk with
   | zero => exact absurd HA.out (by simp [ref_ItemsFault.l0])
   | succ k1 =>
    have H := HA.out
    clear HA
    simp only [ref_ItemsFault.l0] at H
    by_cases c9 : x5_1 < (l0.length : Int)
    ·rw [if_pos c9] at H
     have c9b0 : decide (x5_1 < (l0.length : Int)) = true := decide_eq_true c9
     clear c9
     by_cases c10 : 0 ≤ x5_1
     ·rw [if_pos c10] at H
      have c10b0 : decide (0 ≤ x5_1) = true := decide_eq_true c10
      clear c10
      replace H := Option.bind_eq_some_iff.mp H
      obtain ⟨t154, A110, H⟩ := H
      replace H : (if t154 = true then ((ref_In.f ((rd_T62 l0 x5_1).f1) 0 1048576).bind fun t156 => (if t156 = true then ((ref_Power.f k1 ((rd_T62 l0 x5_1).f2) 256).bind fun t158 => (if t158 = true then (ref_ItemsFault.l0 k1 l0 a1 (wrap64 (x5_1 + 1))) else ((ref_At.f 3 (wrap64 ((-100) - x5_1))).bind fun bt159 => (some (bt159.1, bt159.2))))) else ((ref_At.f 3 (wrap64 ((-100) - x5_1))).bind fun bt161 => (some (bt161.1, bt161.2))))) else ((ref_At.f 3 (wrap64 ((-100) - x5_1))).bind fun bt163 => (some (bt163.1, bt163.2)))) = some (r1, r2) := H
      have A11 := Aside0.mk A110
      clear A110
      by_cases c12 : t154 = true
      ·subst c12
       have H1 : ((ref_In.f ((rd_T62 l0 x5_1).f1) 0 1048576).bind fun t156 => (if t156 = true then ((ref_Power.f k1 ((rd_T62 l0 x5_1).f2) 256).bind fun t158 => (if t158 = true then (ref_ItemsFault.l0 k1 l0 a1 (wrap64 (x5_1 + 1))) else ((ref_At.f 3 (wrap64 ((-100) - x5_1))).bind fun bt159 => (some (bt159.1, bt159.2))))) else ((ref_At.f 3 (wrap64 ((-100) - x5_1))).bind fun bt161 => (some (bt161.1, bt161.2))))) = some (r1, r2) := by rw [if_pos rfl] at H; exact H
       clear H
       have H := H1
       clear H1
       replace H := Option.bind_eq_some_iff.mp H
       obtain ⟨t156, A130, H⟩ := H
       replace H : (if t156 = true then ((ref_Power.f k1 ((rd_T62 l0 x5_1).f2) 256).bind fun t158 => (if t158 = true then (ref_ItemsFault.l0 k1 l0 a1 (wrap64 (x5_1 + 1))) else ((ref_At.f 3 (wrap64 ((-100) - x5_1))).bind fun bt159 => (some (bt159.1, bt159.2))))) else ((ref_At.f 3 (wrap64 ((-100) - x5_1))).bind fun bt161 => (some (bt161.1, bt161.2)))) = some (r1, r2) := H
       have A13 := Aside0.mk A130
       clear A130
       by_cases c14 : t156 = true
       ·subst c14
        have H1 : ((ref_Power.f k1 ((rd_T62 l0 x5_1).f2) 256).bind fun t158 => (if t158 = true then (ref_ItemsFault.l0 k1 l0 a1 (wrap64 (x5_1 + 1))) else ((ref_At.f 3 (wrap64 ((-100) - x5_1))).bind fun bt159 => (some (bt159.1, bt159.2))))) = some (r1, r2) := by rw [if_pos rfl] at H; exact H
        clear H
        have H := H1
        clear H1
        replace H := Option.bind_eq_some_iff.mp H
        obtain ⟨t158, A150, H⟩ := H
        replace H : (if t158 = true then (ref_ItemsFault.l0 k1 l0 a1 (wrap64 (x5_1 + 1))) else ((ref_At.f 3 (wrap64 ((-100) - x5_1))).bind fun bt159 => (some (bt159.1, bt159.2)))) = some (r1, r2) := H
        have A15 := Aside0.mk A150
        clear A150
        by_cases c16 : t158 = true
        ·subst c16
         have H1 : (ref_ItemsFault.l0 k1 l0 a1 (wrap64 (x5_1 + 1))) = some (r1, r2) := by rw [if_pos rfl] at H; exact H
         clear H
         have H := H1
         clear H1
         have H' := Aside0.mk H
         clear H
         have p153 : 0 ≤ (x5_1 : Int) := of_decide_eq_true qO
         have q153 : x5_1 < (l0.length : Int) := of_decide_eq_true qO
         obtain ⟨ad153, e153, hx153_0, hx153_1, hx153_2⟩ := at_T62 HR0.out x5_1 p153 q153
         cases e153
         replace hx153_0 := (HB.out.cell (World.block_lt_of_cell? w _ hx153_0)).trans hx153_0
         replace hx153_1 := (HB.out.cell (World.block_lt_of_cell? w _ hx153_1)).trans hx153_1
         replace hx153_2 := (HB.out.cell (World.block_lt_of_cell? w _ hx153_2)).trans hx153_2
         replace p153 := eq_true p153
         replace q153 := eq_true q153
         go_wp2_with (first | ((with_reducible refine gate_callee (f := 13) rfl ?_); refine goesL_ (some 23) rfl rfl Try.func13 (by kernel_rfl) rfl #[.int .i64 ((rd_T62 l0 x5_1).f0), .int .i64 0, .int .i64 (wrap64 (a1 - 1))] rfl qA ?_; (with_reducible refine (ref_In.calls ((rd_T62 l0 x5_1).f0) 0 (wrap64 (a1 - 1)) true _ A11.out).mono ?_); rintro e w' ⟨rfl, ⟨nd, rfl⟩⟩; refine ⟨_, rfl, ?_⟩; have p155 : 0 ≤ (x5_1 : Int) := of_decide_eq_true qO; have q155 : x5_1 < (l0.length : Int) := of_decide_eq_true qO; obtain ⟨ad155, e155, hx155_0, hx155_1, hx155_2⟩ := at_T62 HR0.out x5_1 p155 q155; obtain rfl : ad153 = ad155 := (by injection e155); replace hx155_0 := (HB.out.cell (World.block_lt_of_cell? w _ hx155_0)).trans hx155_0; replace hx155_1 := (HB.out.cell (World.block_lt_of_cell? w _ hx155_1)).trans hx155_1; replace hx155_2 := (HB.out.cell (World.block_lt_of_cell? w _ hx155_2)).trans hx155_2; replace p155 := eq_true p155; replace q155 := eq_true q155) | (go_at_call 13; (with_reducible refine (ref_In.calls ((rd_T62 l0 x5_1).f1) 0 1048576 true _ A13.out).mono ?_); rintro e w' ⟨rfl, ⟨nd, rfl⟩⟩; have p157 : 0 ≤ (x5_1 : Int) := of_decide_eq_true qO; have q157 : x5_1 < (l0.length : Int) := of_decide_eq_true qO; obtain ⟨ad157, e157, hx157_0, hx157_1, hx157_2⟩ := at_T62 HR0.out x5_1 p157 q157; obtain rfl : ad153 = ad157 := (by injection e157); replace hx157_0 := (HB.out.cell (World.block_lt_of_cell? w _ hx157_0)).trans hx157_0; replace hx157_1 := (HB.out.cell (World.block_lt_of_cell? w _ hx157_1)).trans hx157_1; replace hx157_2 := (HB.out.cell (World.block_lt_of_cell? w _ hx157_2)).trans hx157_2; replace p157 := eq_true p157; replace q157 := eq_true q157) | (go_at_call 35; (with_reducible refine (ref_Power.calls k1 ((rd_T62 l0 x5_1).f2) 256 true _ A15.out).mono ?_); rintro e w' ⟨rfl, ⟨nd, rfl⟩⟩))
         go_roundg k1
         case measure => have := HK1.out; omega
         case rel => exact ⟨(wrap64 (x5_1 + 1)), (x151000_1), (x151001_1), qF, H', ⟨by have := HK1.out; omega⟩, ⟨qK BK150⟩, ⟨qB⟩⟩
        ·replace c16 := Bool.eq_false_iff.mpr c16
         subst c16
         have H1 : ((ref_At.f 3 (wrap64 ((-100) - x5_1))).bind fun bt159 => (some (bt159.1, bt159.2))) = some (r1, r2) := by rw [if_neg (show ¬ (false = true) by decide)] at H; exact H
         clear H
         have H := H1
         clear H1
         replace H := Option.bind_eq_some_iff.mp H
         obtain ⟨⟨t159, t160⟩, A170, H⟩ := H
         replace H : (some (t159, t160)) = some (r1, r2) := H
         have A17 := Aside0.mk A170
         clear A170
         simp only [Option.some.injEq, Prod.mk.injEq] at H
         obtain ⟨rfl, rfl⟩ := H
         have p153 : 0 ≤ (x5_1 : Int) := of_decide_eq_true qO
         have q153 : x5_1 < (l0.length : Int) := of_decide_eq_true qO
         obtain ⟨ad153, e153, hx153_0, hx153_1, hx153_2⟩ := at_T62 HR0.out x5_1 p153 q153
         cases e153
         replace hx153_0 := (HB.out.cell (World.block_lt_of_cell? w _ hx153_0)).trans hx153_0
         replace hx153_1 := (HB.out.cell (World.block_lt_of_cell? w _ hx153_1)).trans hx153_1
         replace hx153_2 := (HB.out.cell (World.block_lt_of_cell? w _ hx153_2)).trans hx153_2
         replace p153 := eq_true p153
         replace q153 := eq_true q153
         go_wp2_with (first | ((with_reducible refine gate_callee (f := 13) rfl ?_); refine goesL_ (some 23) rfl rfl Try.func13 (by kernel_rfl) rfl #[.int .i64 ((rd_T62 l0 x5_1).f0), .int .i64 0, .int .i64 (wrap64 (a1 - 1))] rfl qA ?_; (with_reducible refine (ref_In.calls ((rd_T62 l0 x5_1).f0) 0 (wrap64 (a1 - 1)) true _ A11.out).mono ?_); rintro e w' ⟨rfl, ⟨nd, rfl⟩⟩; refine ⟨_, rfl, ?_⟩; (try (rw [drewN_self wr]; generalize hq_ : World.drewN wr _ = wr; have n0_ : Aside0 (wr.heap[gb150]? = some (.cells #[.int .i64 x151000_1, .int .i64 x151001_1] 26 (0, 0))) := ⟨by rw [← hq_]; exact (qK BK150)⟩; have n1_ : Aside0 (Below w.heap.size w wr) := ⟨by rw [← hq_]; exact qB⟩; clear BK150 HB hq_; have BK150 := n0_; have HB := n1_; clear n0_ n1_)); have p155 : 0 ≤ (x5_1 : Int) := of_decide_eq_true qO; have q155 : x5_1 < (l0.length : Int) := of_decide_eq_true qO; obtain ⟨ad155, e155, hx155_0, hx155_1, hx155_2⟩ := at_T62 HR0.out x5_1 p155 q155; obtain rfl : ad153 = ad155 := (by injection e155); replace hx155_0 := (HB.out.cell (World.block_lt_of_cell? w _ hx155_0)).trans hx155_0; replace hx155_1 := (HB.out.cell (World.block_lt_of_cell? w _ hx155_1)).trans hx155_1; replace hx155_2 := (HB.out.cell (World.block_lt_of_cell? w _ hx155_2)).trans hx155_2; replace p155 := eq_true p155; replace q155 := eq_true q155) | (go_at_call 13; (with_reducible refine (ref_In.calls ((rd_T62 l0 x5_1).f1) 0 1048576 true _ A13.out).mono ?_); rintro e w' ⟨rfl, ⟨nd, rfl⟩⟩; (try (rw [drewN_self wr]; generalize hq_ : World.drewN wr _ = wr; have n0_ : Aside0 (wr.heap[gb150]? = some (.cells #[.int .i64 x151000_1, .int .i64 x151001_1] 26 (0, 0))) := ⟨by rw [← hq_]; exact (qK BK150)⟩; have n1_ : Aside0 (Below w.heap.size w wr) := ⟨by rw [← hq_]; exact qB⟩; clear BK150 HB hq_; have BK150 := n0_; have HB := n1_; clear n0_ n1_)); have p157 : 0 ≤ (x5_1 : Int) := of_decide_eq_true qO; have q157 : x5_1 < (l0.length : Int) := of_decide_eq_true qO; obtain ⟨ad157, e157, hx157_0, hx157_1, hx157_2⟩ := at_T62 HR0.out x5_1 p157 q157; obtain rfl : ad153 = ad157 := (by injection e157); replace hx157_0 := (HB.out.cell (World.block_lt_of_cell? w _ hx157_0)).trans hx157_0; replace hx157_1 := (HB.out.cell (World.block_lt_of_cell? w _ hx157_1)).trans hx157_1; replace hx157_2 := (HB.out.cell (World.block_lt_of_cell? w _ hx157_2)).trans hx157_2; replace p157 := eq_true p157; replace q157 := eq_true q157) | (go_at_call 35; (with_reducible refine (ref_Power.calls k1 ((rd_T62 l0 x5_1).f2) 256 false _ A15.out).mono ?_); rintro e w' ⟨rfl, ⟨nd, rfl⟩⟩; (try (rw [drewN_self wr]; generalize hq_ : World.drewN wr _ = wr; have n0_ : Aside0 (wr.heap[gb150]? = some (.cells #[.int .i64 x151000_1, .int .i64 x151001_1] 26 (0, 0))) := ⟨by rw [← hq_]; exact (qK BK150)⟩; have n1_ : Aside0 (Below w.heap.size w wr) := ⟨by rw [← hq_]; exact qB⟩; clear BK150 HB hq_; have BK150 := n0_; have HB := n1_; clear n0_ n1_))) | ((with_reducible refine gate_callee (f := 14) rfl ?_); refine goesL_ (some 45) rfl rfl Try.func14 (by kernel_rfl) rfl #[.int .i64 3, .int .i64 (wrap64 ((-100) - x5_1))] rfl qA ?_; (with_reducible refine (ref_At.calls 3 (wrap64 ((-100) - x5_1)) t159 t160 _ A17.out).mono ?_); rintro e w18 ⟨rfl, hb⟩; refine ⟨_, rfl, ?_⟩; have n0_ := Aside0.mk (blk_below (g := gb150) (o := .cells #[.int .i64 x151000_1, .int .i64 x151001_1] 26 (0, 0)) (qK BK150) hb); have n1_ := Aside0.mk (below_step qB hb); clear BK150; clear HB; have BK150 := n0_; have HB := n1_; clear n0_ n1_; (try clear hb); (try clear hb2); (try clear hk); (try clear hi); have hcz19_0 : w18.cell? ⟨gb150, 0, none⟩ = some (.int .i64 x151000_1) := (blk_cell BK150.out 0).trans rfl; have hcz19_1 : w18.cell? ⟨gb150, 1, none⟩ = some (.int .i64 x151001_1) := (blk_cell BK150.out 1).trans rfl; have hfz19_0 := blk_frozen BK150.out 0; have hfz19_1 := blk_frozen BK150.out 1))
         refine bodyPost_ret (results_cell_row rfl _ _ gb150 26 #[.int .i64 t159, .int .i64 t160] (0, 0) _ rfl (by (with_reducible repeat (first | refine blk_drewN ?_ _ | refine blk_drew ?_ | refine blk_alloc ?_ _)); refine blk_put (cs := #[.int .i64 t159, .int .i64 x151001_1]) ?_ 1 _ rfl; (with_reducible repeat (first | refine blk_drewN ?_ _ | refine blk_drew ?_ | refine blk_alloc ?_ _)); refine blk_put (cs := #[.int .i64 x151000_1, .int .i64 x151001_1]) ?_ 0 _ rfl; exact qK BK150) Try.underlying26 rfl (by kernel_rfl)) rfl ?_
         exact ⟨qE, qB⟩
       ·replace c14 := Bool.eq_false_iff.mpr c14
        subst c14
        have H1 : ((ref_At.f 3 (wrap64 ((-100) - x5_1))).bind fun bt161 => (some (bt161.1, bt161.2))) = some (r1, r2) := by rw [if_neg (show ¬ (false = true) by decide)] at H; exact H
        clear H
        have H := H1
        clear H1
        replace H := Option.bind_eq_some_iff.mp H
        obtain ⟨⟨t161, t162⟩, A200, H⟩ := H
        replace H : (some (t161, t162)) = some (r1, r2) := H
        have A20 := Aside0.mk A200
        clear A200
        simp only [Option.some.injEq, Prod.mk.injEq] at H
        obtain ⟨rfl, rfl⟩ := H
        have p153 : 0 ≤ (x5_1 : Int) := of_decide_eq_true qO
        have q153 : x5_1 < (l0.length : Int) := of_decide_eq_true qO
        obtain ⟨ad153, e153, hx153_0, hx153_1, hx153_2⟩ := at_T62 HR0.out x5_1 p153 q153
        cases e153
        replace hx153_0 := (HB.out.cell (World.block_lt_of_cell? w _ hx153_0)).trans hx153_0
        replace hx153_1 := (HB.out.cell (World.block_lt_of_cell? w _ hx153_1)).trans hx153_1
        replace hx153_2 := (HB.out.cell (World.block_lt_of_cell? w _ hx153_2)).trans hx153_2
        replace p153 := eq_true p153
        replace q153 := eq_true q153
        go_wp2_with (first | ((with_reducible refine gate_callee (f := 13) rfl ?_); refine goesL_ (some 23) rfl rfl Try.func13 (by kernel_rfl) rfl #[.int .i64 ((rd_T62 l0 x5_1).f0), .int .i64 0, .int .i64 (wrap64 (a1 - 1))] rfl qA ?_; (with_reducible refine (ref_In.calls ((rd_T62 l0 x5_1).f0) 0 (wrap64 (a1 - 1)) true _ A11.out).mono ?_); rintro e w' ⟨rfl, ⟨nd, rfl⟩⟩; refine ⟨_, rfl, ?_⟩; (try (rw [drewN_self wr]; generalize hq_ : World.drewN wr _ = wr; have n0_ : Aside0 (wr.heap[gb150]? = some (.cells #[.int .i64 x151000_1, .int .i64 x151001_1] 26 (0, 0))) := ⟨by rw [← hq_]; exact (qK BK150)⟩; have n1_ : Aside0 (Below w.heap.size w wr) := ⟨by rw [← hq_]; exact qB⟩; clear BK150 HB hq_; have BK150 := n0_; have HB := n1_; clear n0_ n1_)); have p155 : 0 ≤ (x5_1 : Int) := of_decide_eq_true qO; have q155 : x5_1 < (l0.length : Int) := of_decide_eq_true qO; obtain ⟨ad155, e155, hx155_0, hx155_1, hx155_2⟩ := at_T62 HR0.out x5_1 p155 q155; obtain rfl : ad153 = ad155 := (by injection e155); replace hx155_0 := (HB.out.cell (World.block_lt_of_cell? w _ hx155_0)).trans hx155_0; replace hx155_1 := (HB.out.cell (World.block_lt_of_cell? w _ hx155_1)).trans hx155_1; replace hx155_2 := (HB.out.cell (World.block_lt_of_cell? w _ hx155_2)).trans hx155_2; replace p155 := eq_true p155; replace q155 := eq_true q155) | (go_at_call 13; (with_reducible refine (ref_In.calls ((rd_T62 l0 x5_1).f1) 0 1048576 false _ A13.out).mono ?_); rintro e w' ⟨rfl, ⟨nd, rfl⟩⟩; (try (rw [drewN_self wr]; generalize hq_ : World.drewN wr _ = wr; have n0_ : Aside0 (wr.heap[gb150]? = some (.cells #[.int .i64 x151000_1, .int .i64 x151001_1] 26 (0, 0))) := ⟨by rw [← hq_]; exact (qK BK150)⟩; have n1_ : Aside0 (Below w.heap.size w wr) := ⟨by rw [← hq_]; exact qB⟩; clear BK150 HB hq_; have BK150 := n0_; have HB := n1_; clear n0_ n1_))) | ((with_reducible refine gate_callee (f := 14) rfl ?_); refine goesL_ (some 45) rfl rfl Try.func14 (by kernel_rfl) rfl #[.int .i64 3, .int .i64 (wrap64 ((-100) - x5_1))] rfl qA ?_; (with_reducible refine (ref_At.calls 3 (wrap64 ((-100) - x5_1)) t161 t162 _ A20.out).mono ?_); rintro e w21 ⟨rfl, hb⟩; refine ⟨_, rfl, ?_⟩; have n0_ := Aside0.mk (blk_below (g := gb150) (o := .cells #[.int .i64 x151000_1, .int .i64 x151001_1] 26 (0, 0)) (qK BK150) hb); have n1_ := Aside0.mk (below_step qB hb); clear BK150; clear HB; have BK150 := n0_; have HB := n1_; clear n0_ n1_; (try clear hb); (try clear hb2); (try clear hk); (try clear hi); have hcz22_0 : w21.cell? ⟨gb150, 0, none⟩ = some (.int .i64 x151000_1) := (blk_cell BK150.out 0).trans rfl; have hcz22_1 : w21.cell? ⟨gb150, 1, none⟩ = some (.int .i64 x151001_1) := (blk_cell BK150.out 1).trans rfl; have hfz22_0 := blk_frozen BK150.out 0; have hfz22_1 := blk_frozen BK150.out 1))
        refine bodyPost_ret (results_cell_row rfl _ _ gb150 26 #[.int .i64 t161, .int .i64 t162] (0, 0) _ rfl (by (with_reducible repeat (first | refine blk_drewN ?_ _ | refine blk_drew ?_ | refine blk_alloc ?_ _)); refine blk_put (cs := #[.int .i64 t161, .int .i64 x151001_1]) ?_ 1 _ rfl; (with_reducible repeat (first | refine blk_drewN ?_ _ | refine blk_drew ?_ | refine blk_alloc ?_ _)); refine blk_put (cs := #[.int .i64 x151000_1, .int .i64 x151001_1]) ?_ 0 _ rfl; exact qK BK150) Try.underlying26 rfl (by kernel_rfl)) rfl ?_
        exact ⟨qE, qB⟩
      ·replace c12 := Bool.eq_false_iff.mpr c12
       subst c12
       have H1 : ((ref_At.f 3 (wrap64 ((-100) - x5_1))).bind fun bt163 => (some (bt163.1, bt163.2))) = some (r1, r2) := by rw [if_neg (show ¬ (false = true) by decide)] at H; exact H
       clear H
       have H := H1
       clear H1
       replace H := Option.bind_eq_some_iff.mp H
       obtain ⟨⟨t163, t164⟩, A230, H⟩ := H
       replace H : (some (t163, t164)) = some (r1, r2) := H
       have A23 := Aside0.mk A230
       clear A230
       simp only [Option.some.injEq, Prod.mk.injEq] at H
       obtain ⟨rfl, rfl⟩ := H
       have p153 : 0 ≤ (x5_1 : Int) := of_decide_eq_true qO
       have q153 : x5_1 < (l0.length : Int) := of_decide_eq_true qO
       obtain ⟨ad153, e153, hx153_0, hx153_1, hx153_2⟩ := at_T62 HR0.out x5_1 p153 q153
       cases e153
       replace hx153_0 := (HB.out.cell (World.block_lt_of_cell? w _ hx153_0)).trans hx153_0
       replace hx153_1 := (HB.out.cell (World.block_lt_of_cell? w _ hx153_1)).trans hx153_1
       replace hx153_2 := (HB.out.cell (World.block_lt_of_cell? w _ hx153_2)).trans hx153_2
       replace p153 := eq_true p153
       replace q153 := eq_true q153
       go_wp2_with (first | ((with_reducible refine gate_callee (f := 13) rfl ?_); refine goesL_ (some 23) rfl rfl Try.func13 (by kernel_rfl) rfl #[.int .i64 ((rd_T62 l0 x5_1).f0), .int .i64 0, .int .i64 (wrap64 (a1 - 1))] rfl qA ?_; (with_reducible refine (ref_In.calls ((rd_T62 l0 x5_1).f0) 0 (wrap64 (a1 - 1)) false _ A11.out).mono ?_); rintro e w' ⟨rfl, ⟨nd, rfl⟩⟩; refine ⟨_, rfl, ?_⟩; (try (rw [drewN_self wr]; generalize hq_ : World.drewN wr _ = wr; have n0_ : Aside0 (wr.heap[gb150]? = some (.cells #[.int .i64 x151000_1, .int .i64 x151001_1] 26 (0, 0))) := ⟨by rw [← hq_]; exact (qK BK150)⟩; have n1_ : Aside0 (Below w.heap.size w wr) := ⟨by rw [← hq_]; exact qB⟩; clear BK150 HB hq_; have BK150 := n0_; have HB := n1_; clear n0_ n1_))) | ((with_reducible refine gate_callee (f := 14) rfl ?_); refine goesL_ (some 45) rfl rfl Try.func14 (by kernel_rfl) rfl #[.int .i64 3, .int .i64 (wrap64 ((-100) - x5_1))] rfl qA ?_; (with_reducible refine (ref_At.calls 3 (wrap64 ((-100) - x5_1)) t163 t164 _ A23.out).mono ?_); rintro e w24 ⟨rfl, hb⟩; refine ⟨_, rfl, ?_⟩; have n0_ := Aside0.mk (blk_below (g := gb150) (o := .cells #[.int .i64 x151000_1, .int .i64 x151001_1] 26 (0, 0)) (qK BK150) hb); have n1_ := Aside0.mk (below_step qB hb); clear BK150; clear HB; have BK150 := n0_; have HB := n1_; clear n0_ n1_; (try clear hb); (try clear hb2); (try clear hk); (try clear hi); have hcz25_0 : w24.cell? ⟨gb150, 0, none⟩ = some (.int .i64 x151000_1) := (blk_cell BK150.out 0).trans rfl; have hcz25_1 : w24.cell? ⟨gb150, 1, none⟩ = some (.int .i64 x151001_1) := (blk_cell BK150.out 1).trans rfl; have hfz25_0 := blk_frozen BK150.out 0; have hfz25_1 := blk_frozen BK150.out 1))
       refine bodyPost_ret (results_cell_row rfl _ _ gb150 26 #[.int .i64 t163, .int .i64 t164] (0, 0) _ rfl (by (with_reducible repeat (first | refine blk_drewN ?_ _ | refine blk_drew ?_ | refine blk_alloc ?_ _)); refine blk_put (cs := #[.int .i64 t163, .int .i64 x151001_1]) ?_ 1 _ rfl; (with_reducible repeat (first | refine blk_drewN ?_ _ | refine blk_drew ?_ | refine blk_alloc ?_ _)); refine blk_put (cs := #[.int .i64 x151000_1, .int .i64 x151001_1]) ?_ 0 _ rfl; exact qK BK150) Try.underlying26 rfl (by kernel_rfl)) rfl ?_
       exact ⟨qE, qB⟩
     ·rw [if_neg c10] at H
      exact absurd H (by simp)
    ·rw [if_neg c9] at H
     have c9b0 : decide (x5_1 < (l0.length : Int)) = false := decide_eq_false c9
     clear c9
     simp only [Option.some.injEq, Prod.mk.injEq] at H
     obtain ⟨rfl, rfl⟩ := H
     have hcz26_0 : wr.cell? ⟨gb150, 0, none⟩ = some (.int .i64 x151000_1) := (blk_cell BK150.out 0).trans rfl
     have hcz26_1 : wr.cell? ⟨gb150, 1, none⟩ = some (.int .i64 x151001_1) := (blk_cell BK150.out 1).trans rfl
     have hfz26_0 := blk_frozen BK150.out 0
     have hfz26_1 := blk_frozen BK150.out 1
     go_wp2
     refine bodyPost_ret (results_cell_row rfl _ _ gb150 26 #[.int .i64 0, .int .i64 0] (0, 0) _ rfl (by (with_reducible repeat (first | refine blk_drewN ?_ _ | refine blk_drew ?_ | refine blk_alloc ?_ _)); refine blk_put (cs := #[.int .i64 0, .int .i64 x151001_1]) ?_ 1 _ rfl; (with_reducible repeat (first | refine blk_drewN ?_ _ | refine blk_drew ?_ | refine blk_alloc ?_ _)); refine blk_put (cs := #[.int .i64 x151000_1, .int .i64 x151001_1]) ?_ 0 _ rfl; exact qK BK150) Try.underlying26 rfl (by kernel_rfl)) rfl ?_
     exact ⟨qE, qB⟩

/-! ### ref_Round: function 37 -/
def ref_Round.l0 : Nat → Int → Int → Option (Int)
 | 0, _, _ => none
 | k + 1, x0, x1 => if x1 = 0 then (none) else (if (Int.tmod x0 x1) = 0 then (some x0) else (ref_Round.l0 k (wrap64 (x0 + 1)) x1))
def ref_Round.f (k : Nat) (a0 : Int) (a1 : Int) : Option (Int) := ref_Round.l0 k a0 a1
theorem ref_Round.mono_l : ∀ k, (∀ y0 y1, LeO (ref_Round.l0 k y0 y1) (ref_Round.l0 (k + 1) y0 y1))
 | 0 => fun _ _ r h => by simp [ref_Round.l0] at h
 | k + 1 => by
  have ih0 := ref_Round.mono_l k
  ·intro y0 y1
   unfold ref_Round.l0
   repeat' first
   | (with_reducible exact ih0 _ _)
   | (with_reducible exact LeO.refl _)
   | (with_reducible exact LeO.none _)
   | (with_reducible refine LeO.ite ?_ ?_)
   | (with_reducible refine LeO.bind ?_ (fun _ => ?_))
   | exact ih0 _ _
   | exact LeO.none _
   | refine LeO.ite ?_ ?_
   | refine LeO.bind ?_ (fun _ => ?_)
theorem ref_Round.mono : ∀ a0 a1 k, LeO (ref_Round.f k a0 a1) (ref_Round.f (k + 1) a0 a1) := by
 intro a0 a1 k
 have ih0 := ref_Round.mono_l k
 unfold ref_Round.f
 repeat' first
   | (with_reducible exact ih0 _ _)
   | (with_reducible exact LeO.refl _)
   | (with_reducible exact LeO.none _)
   | (with_reducible refine LeO.ite ?_ ?_)
   | (with_reducible refine LeO.bind ?_ (fun _ => ?_))
   | exact ih0 _ _
   | exact LeO.none _
   | refine LeO.ite ?_ ?_
   | refine LeO.bind ?_ (fun _ => ?_)
set_option maxHeartbeats 8000000 in
set_option maxRecDepth 100000 in
theorem ref_Round.calls (k : Nat) (a0 : Int) (a1 : Int) (r : Int) (w : World) (h : ref_Round.f k a0 a1 = some r) :
  Calls Try.prog 37 #[.int .i64 a0, .int .i64 a1] w fun e w' => e = .returned (.int .i64 r) ∧ Drawn0 w w' := by
 have H : (ref_Round.l0 k a0 a1) = some r := h
 clear h
 have H' := Aside0.mk H
 clear H
 go_enter Try.func37, Try.ntmps37
 go_wp2
 go_loopg [0] k (fun kq v0 w' => ∃ (x0_1 : Int), v0 = .int .i64 x0_1 ∧ Aside0 (ref_Round.l0 kq x0_1 a1 = some r) ∧ Aside0 (kq ≤ k) ∧ Drawn0 w w')
 case atStart => exact ⟨(a0), qF, H', ⟨Nat.le_refl _⟩, by repeat (first | exact Drawn0.refl _ | apply Drawn0.step)⟩
 case round =>
  clear H'
  try clear p2
  obtain ⟨x0_1, rfl, HA, HK1, ⟨m1, rfl⟩⟩ := hrel
  cases gk with
  | zero => exact absurd HA.out (by simp [ref_Round.l0])
  | succ k1 =>
   have H := HA.out
   clear HA
   simp only [ref_Round.l0] at H
   by_cases c3 : a1 = 0
   ·rw [if_pos c3] at H
    exact absurd H (by simp)
   ·rw [if_neg c3] at H
    have c3b0 : (a1 == 0) = false := beq_eq_false_iff_ne.mpr c3
    have c3b1 : (a1 != 0) = true := bne_iff_ne.mpr c3
    by_cases c4 : (Int.tmod x0_1 a1) = 0
    ·rw [if_pos c4] at H
     have c4b0 : ((Int.tmod x0_1 a1) == 0) = true := beq_iff_eq.mpr c4
     have c4b1 : ((Int.tmod x0_1 a1) != 0) = false := bne_eq_false_iff_eq.mpr c4
     clear c4
     obtain rfl := Option.some.inj H
     go_wp2
     go_ret
     exact ⟨qF, by repeat (first | exact Drawn0.refl _ | apply Drawn0.step)⟩
    ·rw [if_neg c4] at H
     have c4b0 : ((Int.tmod x0_1 a1) == 0) = false := beq_eq_false_iff_ne.mpr c4
     have c4b1 : ((Int.tmod x0_1 a1) != 0) = true := bne_iff_ne.mpr c4
     have H' := Aside0.mk H
     clear H
     go_wp2
     go_roundg k1
     case measure => have := HK1.out; omega
     case rel => exact ⟨(wrap64 (x0_1 + 1)), qF, H', ⟨by have := HK1.out; omega⟩, by repeat (first | exact Drawn0.refl _ | apply Drawn0.step)⟩

end Go.Proofs.Ytnbeamaoblmbhaa.PPlace
