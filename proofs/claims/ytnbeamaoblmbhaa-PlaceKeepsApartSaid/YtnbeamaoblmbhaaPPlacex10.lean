/- Written by a program of this session, for the law(s) Place: contracts of the Go functions that the law reaches, each against a plain Lean function. No condition. -/
import Derived.Test.YtnbeamaoblmbhaaPPlacex0
namespace Go.Proofs.Ytnbeamaoblmbhaa.PPlace
open Go.RowKit Go.Proofs.YtnbeamaoblmbhaaW.PrintWords Go.Proofs.YtnbeamaoblmbhaaW.PrintLast Go.Proofs.YtnbeamaoblmbhaaW.PrintMore
attribute [local go_sem] max2_int min2_int max_two min_two max_three min_three max_four min_four   -- for this text's walks alone
set_option linter.unusedVariables false
set_option linter.unusedSimpArgs false

/-! ### place_Items: function 39 -/
mutual
def place_Items.l0 : Nat → Int → List (S62) → Int → Int → Option (Int × Int)
 | 0, _, _, _, _ => none
 | k + 1, x1, x11, x12, x13 => if x13 < x12 then (if 0 ≤ x13 then (if x13 < (x11.length : Int) then (if ((rd_T62 x11 x13).f0) < 0 then (place_Items.j1 k x1 x13 x11 x12 x13 true ((rd_T62 x11 x13).f0) ((rd_T62 x11 x13).f1) ((rd_T62 x11 x13).f2)) else (if ((rd_T62 x11 x13).f0) ≥ x1 then (place_Items.j1 k x1 x13 x11 x12 x13 true ((rd_T62 x11 x13).f0) ((rd_T62 x11 x13).f1) ((rd_T62 x11 x13).f2)) else (if ((rd_T62 x11 x13).f1) < 0 then (place_Items.j1 k x1 x13 x11 x12 x13 true ((rd_T62 x11 x13).f0) ((rd_T62 x11 x13).f1) ((rd_T62 x11 x13).f2)) else (place_Items.j1 k x1 x13 x11 x12 x13 (decide (((rd_T62 x11 x13).f1) > 1048576)) ((rd_T62 x11 x13).f0) ((rd_T62 x11 x13).f1) ((rd_T62 x11 x13).f2))))) else (none)) else (none)) else (some (0, 0))
def place_Items.j1 : Nat → Int → Int → List (S62) → Int → Int → Bool → Int → Int → Int → Option (Int × Int)
 | 0, _, _, _, _, _, _, _, _, _ => none
 | k + 1, x1, x5, x11, x12, x13, x18, x208000, x208001, x208002 => if x18 = true then (some (3, wrap64 ((-100) - x5))) else (if x208002 < 1 then (some (3, wrap64 ((-100) - x5))) else (if x208002 > 256 then (some (3, wrap64 ((-100) - x5))) else (if (Go.bits .and .i64 x208002 (wrap64 (x208002 - 1))) = 0 then (place_Items.l0 k x1 x11 x12 (wrap64 (x13 + 1))) else (some (3, wrap64 ((-100) - x5))))))
end
def place_Items.f (k : Nat) (l0 : List (S62)) (a1 : Int) : Option (Int × Int) := if (l0.length : Int) > 200 then (some (2, (-3))) else (place_Items.l0 k a1 l0 (l0.length : Int) 0)
theorem place_Items.mono_l : ∀ k, (∀ y0 y1 y2 y3, LeO (place_Items.l0 k y0 y1 y2 y3) (place_Items.l0 (k + 1) y0 y1 y2 y3)) ∧ (∀ y0 y1 y2 y3 y4 y5 y6 y7 y8, LeO (place_Items.j1 k y0 y1 y2 y3 y4 y5 y6 y7 y8) (place_Items.j1 (k + 1) y0 y1 y2 y3 y4 y5 y6 y7 y8))
 | 0 => ⟨fun _ _ _ _ r h => by simp [place_Items.l0] at h, fun _ _ _ _ _ _ _ _ _ r h => by simp [place_Items.j1] at h⟩
 | k + 1 => by
  obtain ⟨ih0, ih1⟩ := place_Items.mono_l k
  refine ⟨?_, ?_⟩
  ·intro y0 y1 y2 y3
   unfold place_Items.l0
   repeat' first
   | (with_reducible exact ih0 _ _ _ _)
   | (with_reducible exact ih1 _ _ _ _ _ _ _ _ _)
   | (with_reducible exact LeO.refl _)
   | (with_reducible exact LeO.none _)
   | (with_reducible refine LeO.ite ?_ ?_)
   | (with_reducible refine LeO.bind ?_ (fun _ => ?_))
   | exact ih0 _ _ _ _
   | exact ih1 _ _ _ _ _ _ _ _ _
   | exact LeO.none _
   | refine LeO.ite ?_ ?_
   | refine LeO.bind ?_ (fun _ => ?_)
  ·intro y0 y1 y2 y3 y4 y5 y6 y7 y8
   unfold place_Items.j1
   repeat' first
   | (with_reducible exact ih0 _ _ _ _)
   | (with_reducible exact ih1 _ _ _ _ _ _ _ _ _)
   | (with_reducible exact LeO.refl _)
   | (with_reducible exact LeO.none _)
   | (with_reducible refine LeO.ite ?_ ?_)
   | (with_reducible refine LeO.bind ?_ (fun _ => ?_))
   | exact ih0 _ _ _ _
   | exact ih1 _ _ _ _ _ _ _ _ _
   | exact LeO.none _
   | refine LeO.ite ?_ ?_
   | refine LeO.bind ?_ (fun _ => ?_)
theorem place_Items.mono : ∀ a0 a1 k, LeO (place_Items.f k a0 a1) (place_Items.f (k + 1) a0 a1) := by
 intro a0 a1 k
 obtain ⟨ih0, ih1⟩ := place_Items.mono_l k
 unfold place_Items.f
 repeat' first
   | (with_reducible exact ih0 _ _ _ _)
   | (with_reducible exact ih1 _ _ _ _ _ _ _ _ _)
   | (with_reducible exact LeO.refl _)
   | (with_reducible exact LeO.none _)
   | (with_reducible refine LeO.ite ?_ ?_)
   | (with_reducible refine LeO.bind ?_ (fun _ => ?_))
   | exact ih0 _ _ _ _
   | exact ih1 _ _ _ _ _ _ _ _ _
   | exact LeO.none _
   | refine LeO.ite ?_ ?_
   | refine LeO.bind ?_ (fun _ => ?_)
set_option maxHeartbeats 8000000 in
set_option maxRecDepth 100000 in
theorem place_Items.calls (k : Nat) (A0 : Option Addr) (c0 : Nat) (l0 : List (S62)) (a1 : Int) (r1 : Int) (r2 : Int) (w : World) (hr0 : Kd.C k62 w A0 l0.length l0) (hc0 : l0.length ≤ c0) (h : place_Items.f k l0 a1 = some (r1, r2)) :
  Calls Try.prog 39 #[.slice A0 l0.length c0, .int .i64 a1] w fun e w' => e = .returned (.agg #[.int .i64 r1, .int .i64 r2]) ∧ Below w.heap.size w w' := by
 have hu26 := Try.underlying26
 have hu62 := Try.underlying62
 have HR0 := Aside0.mk hr0
 have HC0 := Aside0.mk hc0
 clear hr0 hc0
 have HB := Aside0.mk (Below.refl w.heap.size w)
 have H : (if (l0.length : Int) > 200 then (some (2, (-3))) else (place_Items.l0 k a1 l0 (l0.length : Int) 0)) = some (r1, r2) := h
 clear h
 by_cases c3 : (l0.length : Int) > 200
 ·rw [if_pos c3] at H
  have c3b0 : decide (200 < (l0.length : Int)) = true := decide_eq_true c3
  have c3b1 : decide (200 < l0.length) = true := decide_eq_true (by omega)
  clear c3
  simp only [Option.some.injEq, Prod.mk.injEq] at H
  obtain ⟨rfl, rfl⟩ := H
  go_enter Try.func39, Try.ntmps39
  go_wp2_with (first | ((with_reducible refine gate_dst (N := 4) rfl ?_); refine qX (N := 4) (cs := #[.int .i64 0, .int .i64 0]) (t := 26) ?_; intro gb205 hg w4 hbox hb; have n0_ := Aside0.mk (below_step qB hb); have n1_ := Aside0.mk (hbox); have n2_ := Aside0.mk ((qG hg : w.heap.size ≤ gb205)); have n3_ := Aside0.mk ((qG hg : w.heap.size ≤ gb205)); clear HB; have HB := n0_; have BK205 := n1_; have GW205 := n2_; have GE205 := n3_; clear n0_ n1_ n2_ n3_; clear hb hbox hg; have hcz5_0 : w4.cell? ⟨gb205, 0, none⟩ = some (.int .i64 0) := (blk_cell BK205.out 0).trans rfl; have hcz5_1 : w4.cell? ⟨gb205, 1, none⟩ = some (.int .i64 0) := (blk_cell BK205.out 1).trans rfl; have hfz5_0 := blk_frozen BK205.out 0; have hfz5_1 := blk_frozen BK205.out 1))
  refine bodyPost_ret (results_cell_row rfl _ _ gb205 26 #[.int .i64 2, .int .i64 (-3)] (0, 0) _ rfl (by (with_reducible repeat (first | refine blk_drewN ?_ _ | refine blk_drew ?_ | refine blk_alloc ?_ _)); refine blk_put (cs := #[.int .i64 2, .int .i64 0]) ?_ 1 _ rfl; (with_reducible repeat (first | refine blk_drewN ?_ _ | refine blk_drew ?_ | refine blk_alloc ?_ _)); refine blk_put (cs := #[.int .i64 0, .int .i64 0]) ?_ 0 _ rfl; exact qK BK205) Try.underlying26 rfl (by kernel_rfl)) rfl ?_
  exact ⟨qE, qB⟩
 ·rw [if_neg c3] at H
  have c3b0 : decide (200 < (l0.length : Int)) = false := decide_eq_false c3
  have c3b1 : decide (200 < l0.length) = false := decide_eq_false (by omega)
  clear c3
  have H' := Aside0.mk H
  clear H
  go_enter Try.func39, Try.ntmps39
  go_wp2_with (first | ((with_reducible refine gate_dst (N := 4) rfl ?_); refine qX (N := 4) (cs := #[.int .i64 0, .int .i64 0]) (t := 26) ?_; intro gb205 hg w6 hbox hb; have n0_ := Aside0.mk (below_step qB hb); have n1_ := Aside0.mk (hbox); have n2_ := Aside0.mk ((qG hg : w.heap.size ≤ gb205)); have n3_ := Aside0.mk ((qG hg : w.heap.size ≤ gb205)); clear HB; have HB := n0_; have BK205 := n1_; have GW205 := n2_; have GE205 := n3_; clear n0_ n1_ n2_ n3_; clear hb hbox hg))
  go_loopg [13] k (fun kq v13 w' => ∃ (x13_1 : Int) (x206000_1 : Int) (x206001_1 : Int), v13 = .int .i64 x13_1 ∧ Aside0 (place_Items.l0 kq a1 l0 (l0.length : Int) x13_1 = some (r1, r2)) ∧ Aside0 (kq ≤ k) ∧ Aside0 (w'.heap[gb205]? = some (.cells #[.int .i64 x206000_1, .int .i64 x206001_1] 26 (0, 0))) ∧ Aside0 (Below w.heap.size w w'))
  case atStart => exact ⟨(0), (0), (0), qF, H', ⟨Nat.le_refl _⟩, ⟨qK BK205⟩, ⟨qB⟩⟩
  case round =>
   clear H'
   try clear p2
   try clear c3
   try clear c3b0
   try clear c3b1
   try clear hcz5_0
   try clear hcz5_1
   try clear hfz5_0
   try clear hfz5_1
   obtain ⟨x13_1, x206000_1, x206001_1, rfl, HA, HK1, BK205, HB⟩ := hrel
   cases gk with
   | zero => exact absurd HA.out (by simp [place_Items.l0])
   | succ k1 =>
    have H := HA.out
    clear HA
    simp only [place_Items.l0] at H
    by_cases c7 : x13_1 < (l0.length : Int)
    ·rw [if_pos c7] at H
     have c7b0 : decide (x13_1 < (l0.length : Int)) = true := decide_eq_true c7
     clear c7
     by_cases c8 : 0 ≤ x13_1
     ·rw [if_pos c8] at H
      have c8b0 : decide (0 ≤ x13_1) = true := decide_eq_true c8
      clear c8
      by_cases c9 : x13_1 < (l0.length : Int)
      ·rw [if_pos c9] at H
       have c9b0 : decide (x13_1 < (l0.length : Int)) = true := decide_eq_true c9
       clear c9
       have HC10 := Aside0.mk H
       clear H
       have p206 : 0 ≤ (x13_1 : Int) := of_decide_eq_true qO
       have q206 : x13_1 < (l0.length : Int) := of_decide_eq_true qO
       obtain ⟨ad206, e206, hx206_0, hx206_1, hx206_2⟩ := at_T62 HR0.out x13_1 p206 q206
       cases e206
       replace hx206_0 := (HB.out.cell (World.block_lt_of_cell? w _ hx206_0)).trans hx206_0
       replace hx206_1 := (HB.out.cell (World.block_lt_of_cell? w _ hx206_1)).trans hx206_1
       replace hx206_2 := (HB.out.cell (World.block_lt_of_cell? w _ hx206_2)).trans hx206_2
       replace p206 := eq_true p206
       replace q206 := eq_true q206
       go_upto_region 6 with (first | ((with_reducible refine gate_dst (N := 6) rfl ?_); refine qX (N := 6) (cs := #[.int .i64 0, .int .i64 0, .int .i64 0]) (t := 62) ?_; intro gb207 hg w11 hbox hb; have n0_ := Aside0.mk (blk_below (g := gb205) (o := .cells #[.int .i64 x206000_1, .int .i64 x206001_1] 26 (0, 0)) (qK BK205) hb); have n1_ := Aside0.mk (below_step qB hb); have n2_ := Aside0.mk (hbox); have n3_ := Aside0.mk ((qG hg : w.heap.size ≤ gb207)); have n4_ := Aside0.mk ((qG hg : w.heap.size ≤ gb207)); have n5_ := Aside0.mk ((by rw [hg]; exact Nat.ne_of_lt (blk_lt (g := gb205) (o := .cells #[.int .i64 x206000_1, .int .i64 x206001_1] 26 (0, 0)) (qK BK205)) : gb205 ≠ gb207)); have n6_ := Aside0.mk ((by rw [hg]; exact Nat.ne_of_gt (blk_lt (g := gb205) (o := .cells #[.int .i64 x206000_1, .int .i64 x206001_1] 26 (0, 0)) (qK BK205)) : gb207 ≠ gb205)); clear BK205; clear HB; have BK205 := n0_; have HB := n1_; have BK207 := n2_; have GW207 := n3_; have GE207 := n4_; have NB205_207 := n5_; have NB207_205 := n6_; clear n0_ n1_ n2_ n3_ n4_ n5_ n6_; clear hb hbox hg; have hnb12 := NB207_205.out; have hnc12 := NB205_207.out; have hcz13_0 : w11.cell? ⟨gb207, 0, none⟩ = some (.int .i64 0) := (blk_cell BK207.out 0).trans rfl; have hcz13_1 : w11.cell? ⟨gb207, 1, none⟩ = some (.int .i64 0) := (blk_cell BK207.out 1).trans rfl; have hcz13_2 : w11.cell? ⟨gb207, 2, none⟩ = some (.int .i64 0) := (blk_cell BK207.out 2).trans rfl; have hfz13_0 := blk_frozen BK207.out 0; have hfz13_1 := blk_frozen BK207.out 1; have hfz13_2 := blk_frozen BK207.out 2))
       (try simp only [Act.put, List.setIfInBounds_toArray, List.set_cons_zero, List.set_cons_succ])
       go_cut [18] (fun v18 wc => ∃ (kq : Nat) (x18_9 : Bool), v18 = .bool x18_9 ∧ Aside0 (place_Items.j1 kq a1 x13_1 l0 (l0.length : Int) x13_1 x18_9 ((rd_T62 l0 x13_1).f0) ((rd_T62 l0 x13_1).f1) ((rd_T62 l0 x13_1).f2) = some (r1, r2)) ∧ Aside0 (kq ≤ k1) ∧ Aside0 (wc.heap[gb205]? = some (.cells #[.int .i64 x206000_1, .int .i64 x206001_1] 26 (0, 0))) ∧ Aside0 (wc.heap[gb207]? = some (.cells #[.int .i64 ((rd_T62 l0 x13_1).f0), .int .i64 ((rd_T62 l0 x13_1).f1), .int .i64 ((rd_T62 l0 x13_1).f2)] 62 (0, 0))) ∧ Aside0 (Below w.heap.size w wc))
       case first =>
        have H := HC10.out
        clear HC10
        by_cases c14 : ((rd_T62 l0 x13_1).f0) < 0
        ·rw [if_pos c14] at H
         have c14b0 : decide (((rd_T62 l0 x13_1).f0) < 0) = true := decide_eq_true c14
         clear c14
         (first | rw [c14b0] | (simp only [i64_w, i32_w]; rw [c14b0]) | skip)
         have H' := Aside0.mk H
         clear H
         have hnb15 := NB207_205.out
         have hnc15 := NB205_207.out
         have hcz16_0 : w11.cell? ⟨gb207, 0, none⟩ = some (.int .i64 0) := (blk_cell BK207.out 0).trans rfl
         have hcz16_1 : w11.cell? ⟨gb207, 1, none⟩ = some (.int .i64 0) := (blk_cell BK207.out 1).trans rfl
         have hcz16_2 : w11.cell? ⟨gb207, 2, none⟩ = some (.int .i64 0) := (blk_cell BK207.out 2).trans rfl
         have hfz16_0 := blk_frozen BK207.out 0
         have hfz16_1 := blk_frozen BK207.out 1
         have hfz16_2 := blk_frozen BK207.out 2
         go_wp2
         go_meet
         case rel => exact ⟨_, (true), qF, H', ⟨by have := HK1.out; first | omega | exact Nat.le_refl _⟩, ⟨by (with_reducible repeat (first | refine blk_drewN ?_ _ | refine blk_drew ?_ | refine blk_alloc ?_ _)); refine blk_far ?_ NB205_207.out _; (with_reducible repeat (first | refine blk_drewN ?_ _ | refine blk_drew ?_ | refine blk_alloc ?_ _)); refine blk_far ?_ NB205_207.out _; (with_reducible repeat (first | refine blk_drewN ?_ _ | refine blk_drew ?_ | refine blk_alloc ?_ _)); refine blk_far ?_ NB205_207.out _; exact qK BK205⟩, ⟨by (with_reducible repeat (first | refine blk_drewN ?_ _ | refine blk_drew ?_ | refine blk_alloc ?_ _)); refine blk_put (cs := #[.int .i64 ((rd_T62 l0 x13_1).f0), .int .i64 ((rd_T62 l0 x13_1).f1), .int .i64 0]) ?_ 2 _ rfl; (with_reducible repeat (first | refine blk_drewN ?_ _ | refine blk_drew ?_ | refine blk_alloc ?_ _)); refine blk_put (cs := #[.int .i64 ((rd_T62 l0 x13_1).f0), .int .i64 0, .int .i64 0]) ?_ 1 _ rfl; (with_reducible repeat (first | refine blk_drewN ?_ _ | refine blk_drew ?_ | refine blk_alloc ?_ _)); refine blk_put (cs := #[.int .i64 0, .int .i64 0, .int .i64 0]) ?_ 0 _ rfl; exact qK BK207⟩, ⟨qB⟩⟩
        ·rw [if_neg c14] at H
         have c14b0 : decide (((rd_T62 l0 x13_1).f0) < 0) = false := decide_eq_false c14
         clear c14
         (first | rw [c14b0] | (simp only [i64_w, i32_w]; rw [c14b0]) | skip)
         by_cases c17 : ((rd_T62 l0 x13_1).f0) ≥ a1
         ·rw [if_pos c17] at H
          have c17b0 : decide (a1 ≤ ((rd_T62 l0 x13_1).f0)) = true := decide_eq_true c17
          clear c17
          have H' := Aside0.mk H
          clear H
          have hnb18 := NB207_205.out
          have hnc18 := NB205_207.out
          have hcz19_0 : w11.cell? ⟨gb207, 0, none⟩ = some (.int .i64 0) := (blk_cell BK207.out 0).trans rfl
          have hcz19_1 : w11.cell? ⟨gb207, 1, none⟩ = some (.int .i64 0) := (blk_cell BK207.out 1).trans rfl
          have hcz19_2 : w11.cell? ⟨gb207, 2, none⟩ = some (.int .i64 0) := (blk_cell BK207.out 2).trans rfl
          have hfz19_0 := blk_frozen BK207.out 0
          have hfz19_1 := blk_frozen BK207.out 1
          have hfz19_2 := blk_frozen BK207.out 2
          go_wp2
          go_meet
          case rel => exact ⟨_, (true), qF, H', ⟨by have := HK1.out; first | omega | exact Nat.le_refl _⟩, ⟨by (with_reducible repeat (first | refine blk_drewN ?_ _ | refine blk_drew ?_ | refine blk_alloc ?_ _)); refine blk_far ?_ NB205_207.out _; (with_reducible repeat (first | refine blk_drewN ?_ _ | refine blk_drew ?_ | refine blk_alloc ?_ _)); refine blk_far ?_ NB205_207.out _; (with_reducible repeat (first | refine blk_drewN ?_ _ | refine blk_drew ?_ | refine blk_alloc ?_ _)); refine blk_far ?_ NB205_207.out _; exact qK BK205⟩, ⟨by (with_reducible repeat (first | refine blk_drewN ?_ _ | refine blk_drew ?_ | refine blk_alloc ?_ _)); refine blk_put (cs := #[.int .i64 ((rd_T62 l0 x13_1).f0), .int .i64 ((rd_T62 l0 x13_1).f1), .int .i64 0]) ?_ 2 _ rfl; (with_reducible repeat (first | refine blk_drewN ?_ _ | refine blk_drew ?_ | refine blk_alloc ?_ _)); refine blk_put (cs := #[.int .i64 ((rd_T62 l0 x13_1).f0), .int .i64 0, .int .i64 0]) ?_ 1 _ rfl; (with_reducible repeat (first | refine blk_drewN ?_ _ | refine blk_drew ?_ | refine blk_alloc ?_ _)); refine blk_put (cs := #[.int .i64 0, .int .i64 0, .int .i64 0]) ?_ 0 _ rfl; exact qK BK207⟩, ⟨qB⟩⟩
         ·rw [if_neg c17] at H
          have c17b0 : decide (a1 ≤ ((rd_T62 l0 x13_1).f0)) = false := decide_eq_false c17
          clear c17
          by_cases c20 : ((rd_T62 l0 x13_1).f1) < 0
          ·rw [if_pos c20] at H
           have c20b0 : decide (((rd_T62 l0 x13_1).f1) < 0) = true := decide_eq_true c20
           clear c20
           have H' := Aside0.mk H
           clear H
           have hnb21 := NB207_205.out
           have hnc21 := NB205_207.out
           have hcz22_0 : w11.cell? ⟨gb207, 0, none⟩ = some (.int .i64 0) := (blk_cell BK207.out 0).trans rfl
           have hcz22_1 : w11.cell? ⟨gb207, 1, none⟩ = some (.int .i64 0) := (blk_cell BK207.out 1).trans rfl
           have hcz22_2 : w11.cell? ⟨gb207, 2, none⟩ = some (.int .i64 0) := (blk_cell BK207.out 2).trans rfl
           have hfz22_0 := blk_frozen BK207.out 0
           have hfz22_1 := blk_frozen BK207.out 1
           have hfz22_2 := blk_frozen BK207.out 2
           go_wp2
           go_meet
           case rel => exact ⟨_, (true), qF, H', ⟨by have := HK1.out; first | omega | exact Nat.le_refl _⟩, ⟨by (with_reducible repeat (first | refine blk_drewN ?_ _ | refine blk_drew ?_ | refine blk_alloc ?_ _)); refine blk_far ?_ NB205_207.out _; (with_reducible repeat (first | refine blk_drewN ?_ _ | refine blk_drew ?_ | refine blk_alloc ?_ _)); refine blk_far ?_ NB205_207.out _; (with_reducible repeat (first | refine blk_drewN ?_ _ | refine blk_drew ?_ | refine blk_alloc ?_ _)); refine blk_far ?_ NB205_207.out _; exact qK BK205⟩, ⟨by (with_reducible repeat (first | refine blk_drewN ?_ _ | refine blk_drew ?_ | refine blk_alloc ?_ _)); refine blk_put (cs := #[.int .i64 ((rd_T62 l0 x13_1).f0), .int .i64 ((rd_T62 l0 x13_1).f1), .int .i64 0]) ?_ 2 _ rfl; (with_reducible repeat (first | refine blk_drewN ?_ _ | refine blk_drew ?_ | refine blk_alloc ?_ _)); refine blk_put (cs := #[.int .i64 ((rd_T62 l0 x13_1).f0), .int .i64 0, .int .i64 0]) ?_ 1 _ rfl; (with_reducible repeat (first | refine blk_drewN ?_ _ | refine blk_drew ?_ | refine blk_alloc ?_ _)); refine blk_put (cs := #[.int .i64 0, .int .i64 0, .int .i64 0]) ?_ 0 _ rfl; exact qK BK207⟩, ⟨qB⟩⟩
          ·rw [if_neg c20] at H
           have c20b0 : decide (((rd_T62 l0 x13_1).f1) < 0) = false := decide_eq_false c20
           clear c20
           have H' := Aside0.mk H
           clear H
           have hnb23 := NB207_205.out
           have hnc23 := NB205_207.out
           have hcz24_0 : w11.cell? ⟨gb207, 0, none⟩ = some (.int .i64 0) := (blk_cell BK207.out 0).trans rfl
           have hcz24_1 : w11.cell? ⟨gb207, 1, none⟩ = some (.int .i64 0) := (blk_cell BK207.out 1).trans rfl
           have hcz24_2 : w11.cell? ⟨gb207, 2, none⟩ = some (.int .i64 0) := (blk_cell BK207.out 2).trans rfl
           have hfz24_0 := blk_frozen BK207.out 0
           have hfz24_1 := blk_frozen BK207.out 1
           have hfz24_2 := blk_frozen BK207.out 2
           go_wp2
           go_meet
           case rel => exact ⟨_, (decide (((rd_T62 l0 x13_1).f1) > 1048576)), qF, H', ⟨by have := HK1.out; first | omega | exact Nat.le_refl _⟩, ⟨by (with_reducible repeat (first | refine blk_drewN ?_ _ | refine blk_drew ?_ | refine blk_alloc ?_ _)); refine blk_far ?_ NB205_207.out _; (with_reducible repeat (first | refine blk_drewN ?_ _ | refine blk_drew ?_ | refine blk_alloc ?_ _)); refine blk_far ?_ NB205_207.out _; (with_reducible repeat (first | refine blk_drewN ?_ _ | refine blk_drew ?_ | refine blk_alloc ?_ _)); refine blk_far ?_ NB205_207.out _; exact qK BK205⟩, ⟨by (with_reducible repeat (first | refine blk_drewN ?_ _ | refine blk_drew ?_ | refine blk_alloc ?_ _)); refine blk_put (cs := #[.int .i64 ((rd_T62 l0 x13_1).f0), .int .i64 ((rd_T62 l0 x13_1).f1), .int .i64 0]) ?_ 2 _ rfl; (with_reducible repeat (first | refine blk_drewN ?_ _ | refine blk_drew ?_ | refine blk_alloc ?_ _)); refine blk_put (cs := #[.int .i64 ((rd_T62 l0 x13_1).f0), .int .i64 0, .int .i64 0]) ?_ 1 _ rfl; (with_reducible repeat (first | refine blk_drewN ?_ _ | refine blk_drew ?_ | refine blk_alloc ?_ _)); refine blk_put (cs := #[.int .i64 0, .int .i64 0, .int .i64 0]) ?_ 0 _ rfl; exact qK BK207⟩, ⟨qB⟩⟩
       case rest =>
        clear HC10
        try clear c1
        try clear c2
        try clear p2
        try clear q2
        try clear hx2
        try clear c3
        try clear c3b0
        try clear c3b1
        try clear c7
        try clear c7b0
        try clear c8
        try clear c8b0
        try clear c9
        try clear c9b0
        try clear c12
        try clear c14
        try clear c14b0
        try clear c15
        try clear c17
        try clear c17b0
        try clear c18
        try clear c20
        try clear c20b0
        try clear p20
        try clear q20
        try clear hx20
        try clear c21
        try clear c23
        try clear hcz13_0
        try clear hcz13_1
        try clear hcz13_2
        try clear hcz16_0
        try clear hcz16_1
        try clear hcz16_2
        try clear hcz19_0
        try clear hcz19_1
        try clear hcz19_2
        try clear hcz22_0
        try clear hcz22_1
        try clear hcz22_2
        try clear hcz24_0
        try clear hcz24_1
        try clear hcz24_2
        try clear hcz5_0
        try clear hcz5_1
        try clear hfz13_0
        try clear hfz13_1
        try clear hfz13_2
        try clear hfz16_0
        try clear hfz16_1
        try clear hfz16_2
        try clear hfz19_0
        try clear hfz19_1
        try clear hfz19_2
        try clear hfz22_0
        try clear hfz22_1
        try clear hfz22_2
        try clear hfz24_0
        try clear hfz24_1
        try clear hfz24_2
        try clear hfz5_0
        try clear hfz5_1
        try clear hx206_0
        try clear hx206_1
        try clear hx206_2
        try clear p2
        try clear p206
        try clear q206
        obtain ⟨kq, x18_9, rfl, HA, HJ9, BK205, BK207, HB⟩ := hcut
        cases kq with
        | zero => exact absurd HA.out (by simp [place_Items.j1])
        | succ kj9 =>
         have H := HA.out
         clear HA
         simp only [place_Items.j1] at H
         by_cases c25 : x18_9 = true
         ·subst c25
          have H1 : (some (3, wrap64 ((-100) - x13_1))) = some (r1, r2) := by rw [if_pos rfl] at H; exact H
          clear H
          have H := H1
          clear H1
          simp only [Option.some.injEq, Prod.mk.injEq] at H
          obtain ⟨rfl, rfl⟩ := H
          have hnb26 := NB205_207.out
          have hnc26 := NB207_205.out
          have hcz27_0 : wc.cell? ⟨gb205, 0, none⟩ = some (.int .i64 x206000_1) := (blk_cell BK205.out 0).trans rfl
          have hcz27_1 : wc.cell? ⟨gb205, 1, none⟩ = some (.int .i64 x206001_1) := (blk_cell BK205.out 1).trans rfl
          have hfz27_0 := blk_frozen BK205.out 0
          have hfz27_1 := blk_frozen BK205.out 1
          go_wp2
          refine bodyPost_ret (results_cell_row rfl _ _ gb205 26 #[.int .i64 3, .int .i64 (wrap64 ((-100) - x13_1))] (0, 0) _ rfl (by (with_reducible repeat (first | refine blk_drewN ?_ _ | refine blk_drew ?_ | refine blk_alloc ?_ _)); refine blk_put (cs := #[.int .i64 3, .int .i64 x206001_1]) ?_ 1 _ rfl; (with_reducible repeat (first | refine blk_drewN ?_ _ | refine blk_drew ?_ | refine blk_alloc ?_ _)); refine blk_put (cs := #[.int .i64 x206000_1, .int .i64 x206001_1]) ?_ 0 _ rfl; exact qK BK205) Try.underlying26 rfl (by kernel_rfl)) rfl ?_
          exact ⟨qE, qB⟩
         ·replace c25 := Bool.eq_false_iff.mpr c25
          subst c25
          have H1 : (if ((rd_T62 l0 x13_1).f2) < 1 then (some (3, wrap64 ((-100) - x13_1))) else (if ((rd_T62 l0 x13_1).f2) > 256 then (some (3, wrap64 ((-100) - x13_1))) else (if (Go.bits .and .i64 ((rd_T62 l0 x13_1).f2) (wrap64 (((rd_T62 l0 x13_1).f2) - 1))) = 0 then (place_Items.l0 kj9 a1 l0 (l0.length : Int) (wrap64 (x13_1 + 1))) else (some (3, wrap64 ((-100) - x13_1)))))) = some (r1, r2) := by rw [if_neg (show ¬ (false = true) by decide)] at H; exact H
          clear H
          have H := H1
          clear H1
          by_cases c28 : ((rd_T62 l0 x13_1).f2) < 1
          ·rw [if_pos c28] at H
           have c28b0 : decide (((rd_T62 l0 x13_1).f2) < 1) = true := decide_eq_true c28
           clear c28
           simp only [Option.some.injEq, Prod.mk.injEq] at H
           obtain ⟨rfl, rfl⟩ := H
           have hnb29 := NB207_205.out
           have hnc29 := NB205_207.out
           have hcz30_0 : wc.cell? ⟨gb207, 0, none⟩ = some (.int .i64 ((rd_T62 l0 x13_1).f0)) := (blk_cell BK207.out 0).trans rfl
           have hcz30_1 : wc.cell? ⟨gb207, 1, none⟩ = some (.int .i64 ((rd_T62 l0 x13_1).f1)) := (blk_cell BK207.out 1).trans rfl
           have hcz30_2 : wc.cell? ⟨gb207, 2, none⟩ = some (.int .i64 ((rd_T62 l0 x13_1).f2)) := (blk_cell BK207.out 2).trans rfl
           have hfz30_0 := blk_frozen BK207.out 0
           have hfz30_1 := blk_frozen BK207.out 1
           have hfz30_2 := blk_frozen BK207.out 2
           have hcz31_0 : wc.cell? ⟨gb205, 0, none⟩ = some (.int .i64 x206000_1) := (blk_cell BK205.out 0).trans rfl
           have hcz31_1 : wc.cell? ⟨gb205, 1, none⟩ = some (.int .i64 x206001_1) := (blk_cell BK205.out 1).trans rfl
           have hfz31_0 := blk_frozen BK205.out 0
           have hfz31_1 := blk_frozen BK205.out 1
           go_wp2
           refine bodyPost_ret (results_cell_row rfl _ _ gb205 26 #[.int .i64 3, .int .i64 (wrap64 ((-100) - x13_1))] (0, 0) _ rfl (by (with_reducible repeat (first | refine blk_drewN ?_ _ | refine blk_drew ?_ | refine blk_alloc ?_ _)); refine blk_put (cs := #[.int .i64 3, .int .i64 x206001_1]) ?_ 1 _ rfl; (with_reducible repeat (first | refine blk_drewN ?_ _ | refine blk_drew ?_ | refine blk_alloc ?_ _)); refine blk_put (cs := #[.int .i64 x206000_1, .int .i64 x206001_1]) ?_ 0 _ rfl; exact qK BK205) Try.underlying26 rfl (by kernel_rfl)) rfl ?_
           exact ⟨qE, qB⟩
          ·rw [if_neg c28] at H
           have c28b0 : decide (((rd_T62 l0 x13_1).f2) < 1) = false := decide_eq_false c28
           clear c28
           by_cases c32 : ((rd_T62 l0 x13_1).f2) > 256
           ·rw [if_pos c32] at H
            have c32b0 : decide (256 < ((rd_T62 l0 x13_1).f2)) = true := decide_eq_true c32
            clear c32
            simp only [Option.some.injEq, Prod.mk.injEq] at H
            obtain ⟨rfl, rfl⟩ := H
            have hnb33 := NB207_205.out
            have hnc33 := NB205_207.out
            have hcz34_0 : wc.cell? ⟨gb207, 0, none⟩ = some (.int .i64 ((rd_T62 l0 x13_1).f0)) := (blk_cell BK207.out 0).trans rfl
            have hcz34_1 : wc.cell? ⟨gb207, 1, none⟩ = some (.int .i64 ((rd_T62 l0 x13_1).f1)) := (blk_cell BK207.out 1).trans rfl
            have hcz34_2 : wc.cell? ⟨gb207, 2, none⟩ = some (.int .i64 ((rd_T62 l0 x13_1).f2)) := (blk_cell BK207.out 2).trans rfl
            have hfz34_0 := blk_frozen BK207.out 0
            have hfz34_1 := blk_frozen BK207.out 1
            have hfz34_2 := blk_frozen BK207.out 2
            have hcz35_0 : wc.cell? ⟨gb205, 0, none⟩ = some (.int .i64 x206000_1) := (blk_cell BK205.out 0).trans rfl
            have hcz35_1 : wc.cell? ⟨gb205, 1, none⟩ = some (.int .i64 x206001_1) := (blk_cell BK205.out 1).trans rfl
            have hfz35_0 := blk_frozen BK205.out 0
            have hfz35_1 := blk_frozen BK205.out 1
            go_wp2
            refine bodyPost_ret (results_cell_row rfl _ _ gb205 26 #[.int .i64 3, .int .i64 (wrap64 ((-100) - x13_1))] (0, 0) _ rfl (by (with_reducible repeat (first | refine blk_drewN ?_ _ | refine blk_drew ?_ | refine blk_alloc ?_ _)); refine blk_put (cs := #[.int .i64 3, .int .i64 x206001_1]) ?_ 1 _ rfl; (with_reducible repeat (first | refine blk_drewN ?_ _ | refine blk_drew ?_ | refine blk_alloc ?_ _)); refine blk_put (cs := #[.int .i64 x206000_1, .int .i64 x206001_1]) ?_ 0 _ rfl; exact qK BK205) Try.underlying26 rfl (by kernel_rfl)) rfl ?_
            exact ⟨qE, qB⟩
           ·rw [if_neg c32] at H
            have c32b0 : decide (256 < ((rd_T62 l0 x13_1).f2)) = false := decide_eq_false c32
            clear c32
            by_cases c36 : (Go.bits .and .i64 ((rd_T62 l0 x13_1).f2) (wrap64 (((rd_T62 l0 x13_1).f2) - 1))) = 0
            ·rw [if_pos c36] at H
             have c36b0 : ((Go.bits .and .i64 ((rd_T62 l0 x13_1).f2) (wrap64 (((rd_T62 l0 x13_1).f2) - 1))) == 0) = true := beq_iff_eq.mpr c36
             have c36b1 : ((Go.bits .and .i64 ((rd_T62 l0 x13_1).f2) (wrap64 (((rd_T62 l0 x13_1).f2) - 1))) != 0) = false := bne_eq_false_iff_eq.mpr c36
             clear c36
             have H' := Aside0.mk H
             clear H
             have hnb37 := NB207_205.out
             have hnc37 := NB205_207.out
             have hcz38_0 : wc.cell? ⟨gb207, 0, none⟩ = some (.int .i64 ((rd_T62 l0 x13_1).f0)) := (blk_cell BK207.out 0).trans rfl
             have hcz38_1 : wc.cell? ⟨gb207, 1, none⟩ = some (.int .i64 ((rd_T62 l0 x13_1).f1)) := (blk_cell BK207.out 1).trans rfl
             have hcz38_2 : wc.cell? ⟨gb207, 2, none⟩ = some (.int .i64 ((rd_T62 l0 x13_1).f2)) := (blk_cell BK207.out 2).trans rfl
             have hfz38_0 := blk_frozen BK207.out 0
             have hfz38_1 := blk_frozen BK207.out 1
             have hfz38_2 := blk_frozen BK207.out 2
             go_wp2
             go_roundg kj9
             case measure => have := HK1.out; have := HJ9.out; omega
             case rel => exact ⟨(wrap64 (x13_1 + 1)), (x206000_1), (x206001_1), qF, H', ⟨by have := HK1.out; have := HJ9.out; omega⟩, ⟨qK BK205⟩, ⟨qB⟩⟩
            ·rw [if_neg c36] at H
             have c36b0 : ((Go.bits .and .i64 ((rd_T62 l0 x13_1).f2) (wrap64 (((rd_T62 l0 x13_1).f2) - 1))) == 0) = false := beq_eq_false_iff_ne.mpr c36
             have c36b1 : ((Go.bits .and .i64 ((rd_T62 l0 x13_1).f2) (wrap64 (((rd_T62 l0 x13_1).f2) - 1))) != 0) = true := bne_iff_ne.mpr c36
             simp only [Option.some.injEq, Prod.mk.injEq] at H
             obtain ⟨rfl, rfl⟩ := H
             have hnb39 := NB207_205.out
             have hnc39 := NB205_207.out
             have hcz40_0 : wc.cell? ⟨gb207, 0, none⟩ = some (.int .i64 ((rd_T62 l0 x13_1).f0)) := (blk_cell BK207.out 0).trans rfl
             have hcz40_1 : wc.cell? ⟨gb207, 1, none⟩ = some (.int .i64 ((rd_T62 l0 x13_1).f1)) := (blk_cell BK207.out 1).trans rfl
             have hcz40_2 : wc.cell? ⟨gb207, 2, none⟩ = some (.int .i64 ((rd_T62 l0 x13_1).f2)) := (blk_cell BK207.out 2).trans rfl
             have hfz40_0 := blk_frozen BK207.out 0
             have hfz40_1 := blk_frozen BK207.out 1
             have hfz40_2 := blk_frozen BK207.out 2
             have hcz41_0 : wc.cell? ⟨gb205, 0, none⟩ = some (.int .i64 x206000_1) := (blk_cell BK205.out 0).trans rfl
             have hcz41_1 : wc.cell? ⟨gb205, 1, none⟩ = some (.int .i64 x206001_1) := (blk_cell BK205.out 1).trans rfl
             have hfz41_0 := blk_frozen BK205.out 0
             have hfz41_1 := blk_frozen BK205.out 1
             go_wp2
             refine bodyPost_ret (results_cell_row rfl _ _ gb205 26 #[.int .i64 3, .int .i64 (wrap64 ((-100) - x13_1))] (0, 0) _ rfl (by (with_reducible repeat (first | refine blk_drewN ?_ _ | refine blk_drew ?_ | refine blk_alloc ?_ _)); refine blk_put (cs := #[.int .i64 3, .int .i64 x206001_1]) ?_ 1 _ rfl; (with_reducible repeat (first | refine blk_drewN ?_ _ | refine blk_drew ?_ | refine blk_alloc ?_ _)); refine blk_put (cs := #[.int .i64 x206000_1, .int .i64 x206001_1]) ?_ 0 _ rfl; exact qK BK205) Try.underlying26 rfl (by kernel_rfl)) rfl ?_
             exact ⟨qE, qB⟩
      ·rw [if_neg c9] at H
       exact absurd H (by simp)
     ·rw [if_neg c8] at H
      exact absurd H (by simp)
    ·rw [if_neg c7] at H
     have c7b0 : decide (x13_1 < (l0.length : Int)) = false := decide_eq_false c7
     clear c7
     simp only [Option.some.injEq, Prod.mk.injEq] at H
     obtain ⟨rfl, rfl⟩ := H
     have hcz42_0 : wr.cell? ⟨gb205, 0, none⟩ = some (.int .i64 x206000_1) := (blk_cell BK205.out 0).trans rfl
     have hcz42_1 : wr.cell? ⟨gb205, 1, none⟩ = some (.int .i64 x206001_1) := (blk_cell BK205.out 1).trans rfl
     have hfz42_0 := blk_frozen BK205.out 0
     have hfz42_1 := blk_frozen BK205.out 1
     go_wp2
     refine bodyPost_ret (results_cell_row rfl _ _ gb205 26 #[.int .i64 0, .int .i64 0] (0, 0) _ rfl (by (with_reducible repeat (first | refine blk_drewN ?_ _ | refine blk_drew ?_ | refine blk_alloc ?_ _)); refine blk_put (cs := #[.int .i64 0, .int .i64 x206001_1]) ?_ 1 _ rfl; (with_reducible repeat (first | refine blk_drewN ?_ _ | refine blk_drew ?_ | refine blk_alloc ?_ _)); refine blk_put (cs := #[.int .i64 x206000_1, .int .i64 x206001_1]) ?_ 0 _ rfl; exact qK BK205) Try.underlying26 rfl (by kernel_rfl)) rfl ?_
     exact ⟨qE, qB⟩

/-! ### thread_Up: function 45 -/
def thread_Up.f (a0 : Int) (a1 : Int) : Option (Int) := if a1 = 0 then (none) else (some (wrap64 ((wrap64 (Int.tdiv (wrap64 ((wrap64 (a0 + a1)) - 1)) a1)) * a1)))
set_option maxHeartbeats 8000000 in
set_option maxRecDepth 100000 in
theorem thread_Up.calls (a0 : Int) (a1 : Int) (r : Int) (w : World) (h : thread_Up.f a0 a1 = some r) :
  Calls Try.prog 45 #[.int .i64 a0, .int .i64 a1] w fun e w' => e = .returned (.int .i64 r) ∧ Drawn0 w w' := by
 have H : (if a1 = 0 then (none) else (some (wrap64 ((wrap64 (Int.tdiv (wrap64 ((wrap64 (a0 + a1)) - 1)) a1)) * a1)))) = some r := h
 clear h
 by_cases c3 : a1 = 0
 ·rw [if_pos c3] at H
  exact absurd H (by simp)
 ·rw [if_neg c3] at H
  have c3b0 : (a1 == 0) = false := beq_eq_false_iff_ne.mpr c3
  have c3b1 : (a1 != 0) = true := bne_iff_ne.mpr c3
  obtain rfl := Option.some.inj H
  go_enter Try.func45, Try.ntmps45
  go_wp2
  go_ret
  exact ⟨qF, by repeat (first | exact Drawn0.refl _ | apply Drawn0.step)⟩

end Go.Proofs.Ytnbeamaoblmbhaa.PPlace
