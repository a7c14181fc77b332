/- Written by a program of this session, for the law(s) Apply: contracts of the Go functions that the law reaches, each against a plain Lean function. No condition. -/
import Derived.Test.YtnbeamaoblmbhaaPApplyx0
import Derived.Test.YtnbeamaoblmbhaaPApplyx1
import Derived.Test.YtnbeamaoblmbhaaPApplyx2
import Derived.Test.YtnbeamaoblmbhaaPApplyx5
import Derived.Test.YtnbeamaoblmbhaaPApplyx6
namespace Go.Proofs.Ytnbeamaoblmbhaa.PApply
open Go.RowKit Go.Proofs.YtnbeamaoblmbhaaW.PrintWords Go.Proofs.YtnbeamaoblmbhaaW.PrintLast Go.Proofs.YtnbeamaoblmbhaaW.PrintMore
attribute [local go_sem] max2_int min2_int max_two min_two max_three min_three max_four min_four   -- for this text's walks alone
set_option linter.unusedVariables false
set_option linter.unusedSimpArgs false

attribute [local go_sem high] eqA26
/-! ### law_ApplyMoves: function 6 -/
def law_ApplyMoves.j0 : Nat → List Int → Int → Int → Int → Bool → Int → Int → Int → Int → Option (Bool)
  | 0, _, _, _, _, _, _, _, _, _ => none
  | k + 1, x0, x2, x3, x4, x46, x258000, x258001, x258002, x258003 => if x46 = true then (some true) else ((apply_Field.f k x0 x258000 x258001 x258002 x258003 x2 x3).bind fun bt267 => ((apply_Field.f k x0 x258000 x258001 x258002 x258003 (wrap64 (x2 + x4)) (wrap64 (x3 + x4))).bind fun bt273 => (if (bt267.2.1 == bt273.2.1 && (bt267.2.2 == bt273.2.2)) = true then ((ref_SameBytes.f bt267.1 bt273.1).bind fun t279 => (some t279)) else (none))))
def law_ApplyMoves.f (k : Nat) (l0 : List Int) (a1_0 : Int) (a1_1 : Int) (a1_2 : Int) (a1_3 : Int) (a2 : Int) (a3 : Int) (a4 : Int) : Option (Bool) := (law_fills.f k).bind fun t258 => (if t258 = true then (if a1_1 = 2 then ((ref_In.f a2 0 4000000).bind fun t259 => (if t259 = true then ((ref_In.f a4 0 100000).bind fun t260 => (if t260 = true then ((ref_In.f (wrap64 (a3 + a4)) 0 1048575).bind fun t261 => (if t261 = true then ((ref_In.f a3 0 1048575).bind fun t262 => (law_ApplyMoves.j0 k l0 a2 a3 a4 (!t262) a1_0 a1_1 a1_2 a1_3)) else (law_ApplyMoves.j0 k l0 a2 a3 a4 true a1_0 a1_1 a1_2 a1_3))) else (law_ApplyMoves.j0 k l0 a2 a3 a4 true a1_0 a1_1 a1_2 a1_3))) else (law_ApplyMoves.j0 k l0 a2 a3 a4 true a1_0 a1_1 a1_2 a1_3))) else (if a1_1 = 3 then ((ref_In.f a2 0 4000000).bind fun t263 => (if t263 = true then ((ref_In.f a4 0 100000).bind fun t264 => (if t264 = true then ((ref_In.f (wrap64 (a3 + a4)) 0 1048575).bind fun t265 => (if t265 = true then ((ref_In.f a3 0 1048575).bind fun t266 => (law_ApplyMoves.j0 k l0 a2 a3 a4 (!t266) a1_0 a1_1 a1_2 a1_3)) else (law_ApplyMoves.j0 k l0 a2 a3 a4 true a1_0 a1_1 a1_2 a1_3))) else (law_ApplyMoves.j0 k l0 a2 a3 a4 true a1_0 a1_1 a1_2 a1_3))) else (law_ApplyMoves.j0 k l0 a2 a3 a4 true a1_0 a1_1 a1_2 a1_3))) else (law_ApplyMoves.j0 k l0 a2 a3 a4 true a1_0 a1_1 a1_2 a1_3))) else (none))
theorem law_ApplyMoves.mono_l : ∀ k, (∀ y0 y1 y2 y3 y4 y5 y6 y7 y8, LeO (law_ApplyMoves.j0 k y0 y1 y2 y3 y4 y5 y6 y7 y8) (law_ApplyMoves.j0 (k + 1) y0 y1 y2 y3 y4 y5 y6 y7 y8))
  | 0 => fun _ _ _ _ _ _ _ _ _ r h => by simp [law_ApplyMoves.j0] at h
  | k + 1 => by
    have ih0 := law_ApplyMoves.mono_l k
    · intro y0 y1 y2 y3 y4 y5 y6 y7 y8
      unfold law_ApplyMoves.j0
      repeat' first
      | (with_reducible exact ih0 _ _ _ _ _ _ _ _ _)
      | (with_reducible exact apply_Field.mono _ _ _ _ _ _ _ _)
      | (with_reducible exact law_fills.mono _)
      | (with_reducible exact LeO.refl _)
      | (with_reducible exact LeO.none _)
      | (with_reducible refine LeO.ite ?_ ?_)
      | (with_reducible refine LeO.bind ?_ (fun _ => ?_))
      | exact ih0 _ _ _ _ _ _ _ _ _
      | exact apply_Field.mono _ _ _ _ _ _ _ _
      | exact law_fills.mono _
      | exact LeO.none _
      | refine LeO.ite ?_ ?_
      | refine LeO.bind ?_ (fun _ => ?_)
theorem law_ApplyMoves.mono : ∀ a0 a1 a2 a3 a4 a5 a6 a7 k, LeO (law_ApplyMoves.f k a0 a1 a2 a3 a4 a5 a6 a7) (law_ApplyMoves.f (k + 1) a0 a1 a2 a3 a4 a5 a6 a7) := by
  intro a0 a1 a2 a3 a4 a5 a6 a7 k
  have ih0 := law_ApplyMoves.mono_l k
  unfold law_ApplyMoves.f
  repeat' first
      | (with_reducible exact ih0 _ _ _ _ _ _ _ _ _)
      | (with_reducible exact apply_Field.mono _ _ _ _ _ _ _ _)
      | (with_reducible exact law_fills.mono _)
      | (with_reducible exact LeO.refl _)
      | (with_reducible exact LeO.none _)
      | (with_reducible refine LeO.ite ?_ ?_)
      | (with_reducible refine LeO.bind ?_ (fun _ => ?_))
      | exact ih0 _ _ _ _ _ _ _ _ _
      | exact apply_Field.mono _ _ _ _ _ _ _ _
      | exact law_fills.mono _
      | exact LeO.none _
      | refine LeO.ite ?_ ?_
      | refine LeO.bind ?_ (fun _ => ?_)
set_option maxHeartbeats 8000000 in
set_option maxRecDepth 100000 in
theorem law_ApplyMoves.calls (k : Nat) (A0 : Option Addr) (c0 : Nat) (l0 : List Int) (a1_0 : Int) (a1_1 : Int) (a1_2 : Int) (a1_3 : Int) (a2 : Int) (a3 : Int) (a4 : Int) (r : Bool) (w : World) (hr0 : Kd.C (Kd.int .u8) w A0 l0.length l0) (hc0 : l0.length ≤ c0) (h : law_ApplyMoves.f k l0 a1_0 a1_1 a1_2 a1_3 a2 a3 a4 = some r) :
    Calls Try.prog 6 #[.slice A0 l0.length c0, .agg #[.int .i64 a1_0, .int .i64 a1_1, .int .i64 a1_2, .int .i64 a1_3], .int .i64 a2, .int .i64 a3, .int .i64 a4] w fun e w' => e = .returned (.bool r) ∧ Below w.heap.size w w' := by
  have hu24 := Try.underlying24
  have hu26 := Try.underlying26
  have HR0 := Aside0.mk hr0
  have HC0 := Aside0.mk hc0
  clear hr0 hc0
  have HB := Aside0.mk (Below.refl w.heap.size w)
  have H : ((law_fills.f k).bind fun t258 => (if t258 = true then (if a1_1 = 2 then ((ref_In.f a2 0 4000000).bind fun t259 => (if t259 = true then ((ref_In.f a4 0 100000).bind fun t260 => (if t260 = true then ((ref_In.f (wrap64 (a3 + a4)) 0 1048575).bind fun t261 => (if t261 = true then ((ref_In.f a3 0 1048575).bind fun t262 => (law_ApplyMoves.j0 k l0 a2 a3 a4 (!t262) a1_0 a1_1 a1_2 a1_3)) else (law_ApplyMoves.j0 k l0 a2 a3 a4 true a1_0 a1_1 a1_2 a1_3))) else (law_ApplyMoves.j0 k l0 a2 a3 a4 true a1_0 a1_1 a1_2 a1_3))) else (law_ApplyMoves.j0 k l0 a2 a3 a4 true a1_0 a1_1 a1_2 a1_3))) else (if a1_1 = 3 then ((ref_In.f a2 0 4000000).bind fun t263 => (if t263 = true then ((ref_In.f a4 0 100000).bind fun t264 => (if t264 = true then ((ref_In.f (wrap64 (a3 + a4)) 0 1048575).bind fun t265 => (if t265 = true then ((ref_In.f a3 0 1048575).bind fun t266 => (law_ApplyMoves.j0 k l0 a2 a3 a4 (!t266) a1_0 a1_1 a1_2 a1_3)) else (law_ApplyMoves.j0 k l0 a2 a3 a4 true a1_0 a1_1 a1_2 a1_3))) else (law_ApplyMoves.j0 k l0 a2 a3 a4 true a1_0 a1_1 a1_2 a1_3))) else (law_ApplyMoves.j0 k l0 a2 a3 a4 true a1_0 a1_1 a1_2 a1_3))) else (law_ApplyMoves.j0 k l0 a2 a3 a4 true a1_0 a1_1 a1_2 a1_3))) else (none))) = some r := h
  clear h
  replace H := Option.bind_eq_some_iff.mp H
  obtain ⟨t258, A60, H⟩ := H
  replace H : (if t258 = true then (if a1_1 = 2 then ((ref_In.f a2 0 4000000).bind fun t259 => (if t259 = true then ((ref_In.f a4 0 100000).bind fun t260 => (if t260 = true then ((ref_In.f (wrap64 (a3 + a4)) 0 1048575).bind fun t261 => (if t261 = true then ((ref_In.f a3 0 1048575).bind fun t262 => (law_ApplyMoves.j0 k l0 a2 a3 a4 (!t262) a1_0 a1_1 a1_2 a1_3)) else (law_ApplyMoves.j0 k l0 a2 a3 a4 true a1_0 a1_1 a1_2 a1_3))) else (law_ApplyMoves.j0 k l0 a2 a3 a4 true a1_0 a1_1 a1_2 a1_3))) else (law_ApplyMoves.j0 k l0 a2 a3 a4 true a1_0 a1_1 a1_2 a1_3))) else (if a1_1 = 3 then ((ref_In.f a2 0 4000000).bind fun t263 => (if t263 = true then ((ref_In.f a4 0 100000).bind fun t264 => (if t264 = true then ((ref_In.f (wrap64 (a3 + a4)) 0 1048575).bind fun t265 => (if t265 = true then ((ref_In.f a3 0 1048575).bind fun t266 => (law_ApplyMoves.j0 k l0 a2 a3 a4 (!t266) a1_0 a1_1 a1_2 a1_3)) else (law_ApplyMoves.j0 k l0 a2 a3 a4 true a1_0 a1_1 a1_2 a1_3))) else (law_ApplyMoves.j0 k l0 a2 a3 a4 true a1_0 a1_1 a1_2 a1_3))) else (law_ApplyMoves.j0 k l0 a2 a3 a4 true a1_0 a1_1 a1_2 a1_3))) else (law_ApplyMoves.j0 k l0 a2 a3 a4 true a1_0 a1_1 a1_2 a1_3))) else (none)) = some r := H
  have A6 := Aside0.mk A60
  clear A60
  by_cases c7 : t258 = true
  · subst c7
    have H1 : (if a1_1 = 2 then ((ref_In.f a2 0 4000000).bind fun t259 => (if t259 = true then ((ref_In.f a4 0 100000).bind fun t260 => (if t260 = true then ((ref_In.f (wrap64 (a3 + a4)) 0 1048575).bind fun t261 => (if t261 = true then ((ref_In.f a3 0 1048575).bind fun t262 => (law_ApplyMoves.j0 k l0 a2 a3 a4 (!t262) a1_0 a1_1 a1_2 a1_3)) else (law_ApplyMoves.j0 k l0 a2 a3 a4 true a1_0 a1_1 a1_2 a1_3))) else (law_ApplyMoves.j0 k l0 a2 a3 a4 true a1_0 a1_1 a1_2 a1_3))) else (law_ApplyMoves.j0 k l0 a2 a3 a4 true a1_0 a1_1 a1_2 a1_3))) else (if a1_1 = 3 then ((ref_In.f a2 0 4000000).bind fun t263 => (if t263 = true then ((ref_In.f a4 0 100000).bind fun t264 => (if t264 = true then ((ref_In.f (wrap64 (a3 + a4)) 0 1048575).bind fun t265 => (if t265 = true then ((ref_In.f a3 0 1048575).bind fun t266 => (law_ApplyMoves.j0 k l0 a2 a3 a4 (!t266) a1_0 a1_1 a1_2 a1_3)) else (law_ApplyMoves.j0 k l0 a2 a3 a4 true a1_0 a1_1 a1_2 a1_3))) else (law_ApplyMoves.j0 k l0 a2 a3 a4 true a1_0 a1_1 a1_2 a1_3))) else (law_ApplyMoves.j0 k l0 a2 a3 a4 true a1_0 a1_1 a1_2 a1_3))) else (law_ApplyMoves.j0 k l0 a2 a3 a4 true a1_0 a1_1 a1_2 a1_3))) = some r := by rw [if_pos rfl] at H; exact H
    clear H
    have H := H1
    clear H1
    have HC8 := Aside0.mk H
    clear H
    go_enter Try.func6, Try.ntmps6
    go_upto_region 3 with (first | ((with_reducible refine gate_dst (N := 6) rfl ?_); refine box_event ?hg (N := 6) ?hd (cs := #[.int .i64 a1_0, .int .i64 a1_1, .int .i64 a1_2, .int .i64 a1_3]) (t := 24) ?hr ?_; (case hd => rfl); (case hg => rfl); (case hr => first | (go_simp; done) | (go_simp; rfl)); intro gb257 hg w9 hbox hb; have n0_ := Aside0.mk (below_step (by repeat (first | (with_reducible first | exact HB.out | apply below_alloc | apply pw_below_drewN | apply below_drew1) | exact HB.out)) hb); have n1_ := Aside0.mk (hbox); have n2_ := Aside0.mk ((by rw [hg]; exact (below_size (by repeat (first | (with_reducible first | exact HB.out | apply below_alloc | apply pw_below_drewN | apply below_drew1) | exact HB.out))) : w.heap.size ≤ gb257)); have n3_ := Aside0.mk ((by rw [hg]; exact (below_size (by repeat (first | (with_reducible first | exact HB.out | apply below_alloc | apply pw_below_drewN | apply below_drew1) | exact HB.out))) : w.heap.size ≤ gb257)); clear HB; have HB := n0_; have BK257 := n1_; have GW257 := n2_; have GE257 := n3_; clear n0_ n1_ n2_ n3_; clear hb hbox hg) | ((with_reducible refine gate_callee (f := 12) rfl ?_); refine goesL_ (some 15) rfl rfl Try.func12 (by kernel_rfl) rfl #[] rfl (by (try simp only [List.map_toArray, List.map_cons, List.map_nil]); first | done | rfl | (simp only [List.length_drop, List.length_take]; rfl)) ?_; (with_reducible refine (law_fills.calls k  true _ A6.out).mono ?_); rintro e w10 ⟨rfl, hb⟩; refine ⟨_, rfl, ?_⟩; have n0_ := Aside0.mk (blk_below (g := gb257) (o := .cells #[.int .i64 a1_0, .int .i64 a1_1, .int .i64 a1_2, .int .i64 a1_3] 24 (0, 0)) (by (with_reducible repeat (first | refine blk_drewN ?_ _ | refine blk_drew ?_ | refine blk_alloc ?_ _)); exact BK257.out) hb); have n1_ := Aside0.mk (below_step (by repeat (first | (with_reducible first | exact HB.out | apply below_alloc | apply pw_below_drewN | apply below_drew1 | refine below_set ?_ GE257.out) | exact HB.out)) hb); clear BK257; clear HB; have BK257 := n0_; have HB := n1_; clear n0_ n1_; (try clear hb); (try clear hb2); (try clear hk); (try clear hi)))
    (try simp only [Act.put, List.setIfInBounds_toArray, List.set_cons_zero, List.set_cons_succ])
    go_cut [46] (fun v46 wc => ∃ (kq : Nat) (x46_7 : Bool), v46 = .bool x46_7 ∧ Aside0 (law_ApplyMoves.j0 kq l0 a2 a3 a4 x46_7 a1_0 a1_1 a1_2 a1_3 = some r) ∧ Aside0 (kq ≤ k) ∧ Aside0 (wc.heap[gb257]? = some (.cells #[.int .i64 a1_0, .int .i64 a1_1, .int .i64 a1_2, .int .i64 a1_3] 24 (0, 0))) ∧ Aside0 (Below w.heap.size w wc))
    case first =>
      have H := HC8.out
      clear HC8
      by_cases c11 : a1_1 = 2
      · rw [if_pos c11] at H
        have c11b0 : (a1_1 == 2) = true := beq_iff_eq.mpr c11
        have c11b1 : (a1_1 != 2) = false := bne_eq_false_iff_eq.mpr c11
        clear c11
        (first | rw [c11b0] | (simp only [i64_w, i32_w]; rw [c11b0]) | skip)
        replace H := Option.bind_eq_some_iff.mp H
        obtain ⟨t259, A120, H⟩ := H
        replace H : (if t259 = true then ((ref_In.f a4 0 100000).bind fun t260 => (if t260 = true then ((ref_In.f (wrap64 (a3 + a4)) 0 1048575).bind fun t261 => (if t261 = true then ((ref_In.f a3 0 1048575).bind fun t262 => (law_ApplyMoves.j0 k l0 a2 a3 a4 (!t262) a1_0 a1_1 a1_2 a1_3)) else (law_ApplyMoves.j0 k l0 a2 a3 a4 true a1_0 a1_1 a1_2 a1_3))) else (law_ApplyMoves.j0 k l0 a2 a3 a4 true a1_0 a1_1 a1_2 a1_3))) else (law_ApplyMoves.j0 k l0 a2 a3 a4 true a1_0 a1_1 a1_2 a1_3)) = some r := H
        have A12 := Aside0.mk A120
        clear A120
        by_cases c13 : t259 = true
        · subst c13
          have H1 : ((ref_In.f a4 0 100000).bind fun t260 => (if t260 = true then ((ref_In.f (wrap64 (a3 + a4)) 0 1048575).bind fun t261 => (if t261 = true then ((ref_In.f a3 0 1048575).bind fun t262 => (law_ApplyMoves.j0 k l0 a2 a3 a4 (!t262) a1_0 a1_1 a1_2 a1_3)) else (law_ApplyMoves.j0 k l0 a2 a3 a4 true a1_0 a1_1 a1_2 a1_3))) else (law_ApplyMoves.j0 k l0 a2 a3 a4 true a1_0 a1_1 a1_2 a1_3))) = some r := by rw [if_pos rfl] at H; exact H
          clear H
          have H := H1
          clear H1
          replace H := Option.bind_eq_some_iff.mp H
          obtain ⟨t260, A140, H⟩ := H
          replace H : (if t260 = true then ((ref_In.f (wrap64 (a3 + a4)) 0 1048575).bind fun t261 => (if t261 = true then ((ref_In.f a3 0 1048575).bind fun t262 => (law_ApplyMoves.j0 k l0 a2 a3 a4 (!t262) a1_0 a1_1 a1_2 a1_3)) else (law_ApplyMoves.j0 k l0 a2 a3 a4 true a1_0 a1_1 a1_2 a1_3))) else (law_ApplyMoves.j0 k l0 a2 a3 a4 true a1_0 a1_1 a1_2 a1_3)) = some r := H
          have A14 := Aside0.mk A140
          clear A140
          by_cases c15 : t260 = true
          · subst c15
            have H1 : ((ref_In.f (wrap64 (a3 + a4)) 0 1048575).bind fun t261 => (if t261 = true then ((ref_In.f a3 0 1048575).bind fun t262 => (law_ApplyMoves.j0 k l0 a2 a3 a4 (!t262) a1_0 a1_1 a1_2 a1_3)) else (law_ApplyMoves.j0 k l0 a2 a3 a4 true a1_0 a1_1 a1_2 a1_3))) = some r := by rw [if_pos rfl] at H; exact H
            clear H
            have H := H1
            clear H1
            replace H := Option.bind_eq_some_iff.mp H
            obtain ⟨t261, A160, H⟩ := H
            replace H : (if t261 = true then ((ref_In.f a3 0 1048575).bind fun t262 => (law_ApplyMoves.j0 k l0 a2 a3 a4 (!t262) a1_0 a1_1 a1_2 a1_3)) else (law_ApplyMoves.j0 k l0 a2 a3 a4 true a1_0 a1_1 a1_2 a1_3)) = some r := H
            have A16 := Aside0.mk A160
            clear A160
            by_cases c17 : t261 = true
            · subst c17
              have H1 : ((ref_In.f a3 0 1048575).bind fun t262 => (law_ApplyMoves.j0 k l0 a2 a3 a4 (!t262) a1_0 a1_1 a1_2 a1_3)) = some r := by rw [if_pos rfl] at H; exact H
              clear H
              have H := H1
              clear H1
              replace H := Option.bind_eq_some_iff.mp H
              obtain ⟨t262, A180, H⟩ := H
              replace H : (law_ApplyMoves.j0 k l0 a2 a3 a4 (!t262) a1_0 a1_1 a1_2 a1_3) = some r := H
              have A18 := Aside0.mk A180
              clear A180
              have H' := Aside0.mk H
              clear H
              have hcz19_0 : w10.cell? ⟨gb257, 0, none⟩ = some (.int .i64 a1_0) := (blk_cell BK257.out 0).trans rfl
              have hcz19_1 : w10.cell? ⟨gb257, 1, none⟩ = some (.int .i64 a1_1) := (blk_cell BK257.out 1).trans rfl
              have hcz19_2 : w10.cell? ⟨gb257, 2, none⟩ = some (.int .i64 a1_2) := (blk_cell BK257.out 2).trans rfl
              have hcz19_3 : w10.cell? ⟨gb257, 3, none⟩ = some (.int .i64 a1_3) := (blk_cell BK257.out 3).trans rfl
              have hfz19_0 := blk_frozen BK257.out 0
              have hfz19_1 := blk_frozen BK257.out 1
              have hfz19_2 := blk_frozen BK257.out 2
              have hfz19_3 := blk_frozen BK257.out 3
              go_wp2_with (first | (go_at_call 13; (with_reducible refine (ref_In.calls a2 0 4000000 true _ A12.out).mono ?_); rintro e w' ⟨rfl, ⟨nd, rfl⟩⟩) | (go_at_call 13; (with_reducible refine (ref_In.calls a4 0 100000 true _ A14.out).mono ?_); rintro e w' ⟨rfl, ⟨nd, rfl⟩⟩) | (go_at_call 13; (with_reducible refine (ref_In.calls (wrap64 (a3 + a4)) 0 1048575 true _ A16.out).mono ?_); rintro e w' ⟨rfl, ⟨nd, rfl⟩⟩) | (go_at_call 13; (with_reducible refine (ref_In.calls a3 0 1048575 t262 _ A18.out).mono ?_); rintro e w' ⟨rfl, ⟨nd, rfl⟩⟩))
              go_meet
              case rel => exact ⟨_, (!t262), (by first | rfl | (simp; done) | (simp [*]; done)), H', ⟨by first | omega | exact Nat.le_refl _⟩, ⟨by (with_reducible repeat (first | refine blk_drewN ?_ _ | refine blk_drew ?_ | refine blk_alloc ?_ _)); exact BK257.out⟩, ⟨by repeat (first | (with_reducible first | exact HB.out | apply below_alloc | apply pw_below_drewN | apply below_drew1 | refine below_set ?_ GE257.out) | exact HB.out)⟩⟩
            · replace c17 := Bool.eq_false_iff.mpr c17
              subst c17
              have H1 : (law_ApplyMoves.j0 k l0 a2 a3 a4 true a1_0 a1_1 a1_2 a1_3) = some r := by rw [if_neg (show ¬ (false = true) by decide)] at H; exact H
              clear H
              have H := H1
              clear H1
              have H' := Aside0.mk H
              clear H
              have hcz20_0 : w10.cell? ⟨gb257, 0, none⟩ = some (.int .i64 a1_0) := (blk_cell BK257.out 0).trans rfl
              have hcz20_1 : w10.cell? ⟨gb257, 1, none⟩ = some (.int .i64 a1_1) := (blk_cell BK257.out 1).trans rfl
              have hcz20_2 : w10.cell? ⟨gb257, 2, none⟩ = some (.int .i64 a1_2) := (blk_cell BK257.out 2).trans rfl
              have hcz20_3 : w10.cell? ⟨gb257, 3, none⟩ = some (.int .i64 a1_3) := (blk_cell BK257.out 3).trans rfl
              have hfz20_0 := blk_frozen BK257.out 0
              have hfz20_1 := blk_frozen BK257.out 1
              have hfz20_2 := blk_frozen BK257.out 2
              have hfz20_3 := blk_frozen BK257.out 3
              go_wp2_with (first | (go_at_call 13; (with_reducible refine (ref_In.calls a2 0 4000000 true _ A12.out).mono ?_); rintro e w' ⟨rfl, ⟨nd, rfl⟩⟩) | (go_at_call 13; (with_reducible refine (ref_In.calls a4 0 100000 true _ A14.out).mono ?_); rintro e w' ⟨rfl, ⟨nd, rfl⟩⟩) | (go_at_call 13; (with_reducible refine (ref_In.calls (wrap64 (a3 + a4)) 0 1048575 false _ A16.out).mono ?_); rintro e w' ⟨rfl, ⟨nd, rfl⟩⟩))
              go_meet
              case rel => exact ⟨_, (true), (by first | rfl | (simp; done) | (simp [*]; done)), H', ⟨by first | omega | exact Nat.le_refl _⟩, ⟨by (with_reducible repeat (first | refine blk_drewN ?_ _ | refine blk_drew ?_ | refine blk_alloc ?_ _)); exact BK257.out⟩, ⟨by repeat (first | (with_reducible first | exact HB.out | apply below_alloc | apply pw_below_drewN | apply below_drew1 | refine below_set ?_ GE257.out) | exact HB.out)⟩⟩
          · replace c15 := Bool.eq_false_iff.mpr c15
            subst c15
            have H1 : (law_ApplyMoves.j0 k l0 a2 a3 a4 true a1_0 a1_1 a1_2 a1_3) = some r := by rw [if_neg (show ¬ (false = true) by decide)] at H; exact H
            clear H
            have H := H1
            clear H1
            have H' := Aside0.mk H
            clear H
            have hcz21_0 : w10.cell? ⟨gb257, 0, none⟩ = some (.int .i64 a1_0) := (blk_cell BK257.out 0).trans rfl
            have hcz21_1 : w10.cell? ⟨gb257, 1, none⟩ = some (.int .i64 a1_1) := (blk_cell BK257.out 1).trans rfl
            have hcz21_2 : w10.cell? ⟨gb257, 2, none⟩ = some (.int .i64 a1_2) := (blk_cell BK257.out 2).trans rfl
            have hcz21_3 : w10.cell? ⟨gb257, 3, none⟩ = some (.int .i64 a1_3) := (blk_cell BK257.out 3).trans rfl
            have hfz21_0 := blk_frozen BK257.out 0
            have hfz21_1 := blk_frozen BK257.out 1
            have hfz21_2 := blk_frozen BK257.out 2
            have hfz21_3 := blk_frozen BK257.out 3
            go_wp2_with (first | (go_at_call 13; (with_reducible refine (ref_In.calls a2 0 4000000 true _ A12.out).mono ?_); rintro e w' ⟨rfl, ⟨nd, rfl⟩⟩) | (go_at_call 13; (with_reducible refine (ref_In.calls a4 0 100000 false _ A14.out).mono ?_); rintro e w' ⟨rfl, ⟨nd, rfl⟩⟩))
            go_meet
            case rel => exact ⟨_, (true), (by first | rfl | (simp; done) | (simp [*]; done)), H', ⟨by first | omega | exact Nat.le_refl _⟩, ⟨by (with_reducible repeat (first | refine blk_drewN ?_ _ | refine blk_drew ?_ | refine blk_alloc ?_ _)); exact BK257.out⟩, ⟨by repeat (first | (with_reducible first | exact HB.out | apply below_alloc | apply pw_below_drewN | apply below_drew1 | refine below_set ?_ GE257.out) | exact HB.out)⟩⟩
        · replace c13 := Bool.eq_false_iff.mpr c13
          subst c13
          have H1 : (law_ApplyMoves.j0 k l0 a2 a3 a4 true a1_0 a1_1 a1_2 a1_3) = some r := by rw [if_neg (show ¬ (false = true) by decide)] at H; exact H
          clear H
          have H := H1
          clear H1
          have H' := Aside0.mk H
          clear H
          have hcz22_0 : w10.cell? ⟨gb257, 0, none⟩ = some (.int .i64 a1_0) := (blk_cell BK257.out 0).trans rfl
          have hcz22_1 : w10.cell? ⟨gb257, 1, none⟩ = some (.int .i64 a1_1) := (blk_cell BK257.out 1).trans rfl
          have hcz22_2 : w10.cell? ⟨gb257, 2, none⟩ = some (.int .i64 a1_2) := (blk_cell BK257.out 2).trans rfl
          have hcz22_3 : w10.cell? ⟨gb257, 3, none⟩ = some (.int .i64 a1_3) := (blk_cell BK257.out 3).trans rfl
          have hfz22_0 := blk_frozen BK257.out 0
          have hfz22_1 := blk_frozen BK257.out 1
          have hfz22_2 := blk_frozen BK257.out 2
          have hfz22_3 := blk_frozen BK257.out 3
          go_wp2_with (first | (go_at_call 13; (with_reducible refine (ref_In.calls a2 0 4000000 false _ A12.out).mono ?_); rintro e w' ⟨rfl, ⟨nd, rfl⟩⟩))
          go_meet
          case rel => exact ⟨_, (true), (by first | rfl | (simp; done) | (simp [*]; done)), H', ⟨by first | omega | exact Nat.le_refl _⟩, ⟨by (with_reducible repeat (first | refine blk_drewN ?_ _ | refine blk_drew ?_ | refine blk_alloc ?_ _)); exact BK257.out⟩, ⟨by repeat (first | (with_reducible first | exact HB.out | apply below_alloc | apply pw_below_drewN | apply below_drew1 | refine below_set ?_ GE257.out) | exact HB.out)⟩⟩
      · rw [if_neg c11] at H
        have c11b0 : (a1_1 == 2) = false := beq_eq_false_iff_ne.mpr c11
        have c11b1 : (a1_1 != 2) = true := bne_iff_ne.mpr c11
        (first | rw [c11b0] | (simp only [i64_w, i32_w]; rw [c11b0]) | skip)
        by_cases c23 : a1_1 = 3
        · rw [if_pos c23] at H
          have c23b0 : (a1_1 == 3) = true := beq_iff_eq.mpr c23
          have c23b1 : (a1_1 != 3) = false := bne_eq_false_iff_eq.mpr c23
          clear c23
          replace H := Option.bind_eq_some_iff.mp H
          obtain ⟨t263, A240, H⟩ := H
          replace H : (if t263 = true then ((ref_In.f a4 0 100000).bind fun t264 => (if t264 = true then ((ref_In.f (wrap64 (a3 + a4)) 0 1048575).bind fun t265 => (if t265 = true then ((ref_In.f a3 0 1048575).bind fun t266 => (law_ApplyMoves.j0 k l0 a2 a3 a4 (!t266) a1_0 a1_1 a1_2 a1_3)) else (law_ApplyMoves.j0 k l0 a2 a3 a4 true a1_0 a1_1 a1_2 a1_3))) else (law_ApplyMoves.j0 k l0 a2 a3 a4 true a1_0 a1_1 a1_2 a1_3))) else (law_ApplyMoves.j0 k l0 a2 a3 a4 true a1_0 a1_1 a1_2 a1_3)) = some r := H
          have A24 := Aside0.mk A240
          clear A240
          by_cases c25 : t263 = true
          · subst c25
            have H1 : ((ref_In.f a4 0 100000).bind fun t264 => (if t264 = true then ((ref_In.f (wrap64 (a3 + a4)) 0 1048575).bind fun t265 => (if t265 = true then ((ref_In.f a3 0 1048575).bind fun t266 => (law_ApplyMoves.j0 k l0 a2 a3 a4 (!t266) a1_0 a1_1 a1_2 a1_3)) else (law_ApplyMoves.j0 k l0 a2 a3 a4 true a1_0 a1_1 a1_2 a1_3))) else (law_ApplyMoves.j0 k l0 a2 a3 a4 true a1_0 a1_1 a1_2 a1_3))) = some r := by rw [if_pos rfl] at H; exact H
            clear H
            have H := H1
            clear H1
            replace H := Option.bind_eq_some_iff.mp H
            obtain ⟨t264, A260, H⟩ := H
            replace H : (if t264 = true then ((ref_In.f (wrap64 (a3 + a4)) 0 1048575).bind fun t265 => (if t265 = true then ((ref_In.f a3 0 1048575).bind fun t266 => (law_ApplyMoves.j0 k l0 a2 a3 a4 (!t266) a1_0 a1_1 a1_2 a1_3)) else (law_ApplyMoves.j0 k l0 a2 a3 a4 true a1_0 a1_1 a1_2 a1_3))) else (law_ApplyMoves.j0 k l0 a2 a3 a4 true a1_0 a1_1 a1_2 a1_3)) = some r := H
            have A26 := Aside0.mk A260
            clear A260
            by_cases c27 : t264 = true
            · subst c27
              have H1 : ((ref_In.f (wrap64 (a3 + a4)) 0 1048575).bind fun t265 => (if t265 = true then ((ref_In.f a3 0 1048575).bind fun t266 => (law_ApplyMoves.j0 k l0 a2 a3 a4 (!t266) a1_0 a1_1 a1_2 a1_3)) else (law_ApplyMoves.j0 k l0 a2 a3 a4 true a1_0 a1_1 a1_2 a1_3))) = some r := by rw [if_pos rfl] at H; exact H
              clear H
              have H := H1
              clear H1
              replace H := Option.bind_eq_some_iff.mp H
              obtain ⟨t265, A280, H⟩ := H
              replace H : (if t265 = true then ((ref_In.f a3 0 1048575).bind fun t266 => (law_ApplyMoves.j0 k l0 a2 a3 a4 (!t266) a1_0 a1_1 a1_2 a1_3)) else (law_ApplyMoves.j0 k l0 a2 a3 a4 true a1_0 a1_1 a1_2 a1_3)) = some r := H
              have A28 := Aside0.mk A280
              clear A280
              by_cases c29 : t265 = true
              · subst c29
                have H1 : ((ref_In.f a3 0 1048575).bind fun t266 => (law_ApplyMoves.j0 k l0 a2 a3 a4 (!t266) a1_0 a1_1 a1_2 a1_3)) = some r := by rw [if_pos rfl] at H; exact H
                clear H
                have H := H1
                clear H1
                replace H := Option.bind_eq_some_iff.mp H
                obtain ⟨t266, A300, H⟩ := H
                replace H : (law_ApplyMoves.j0 k l0 a2 a3 a4 (!t266) a1_0 a1_1 a1_2 a1_3) = some r := H
                have A30 := Aside0.mk A300
                clear A300
                have H' := Aside0.mk H
                clear H
                have hcz31_0 : w10.cell? ⟨gb257, 0, none⟩ = some (.int .i64 a1_0) := (blk_cell BK257.out 0).trans rfl
                have hcz31_1 : w10.cell? ⟨gb257, 1, none⟩ = some (.int .i64 a1_1) := (blk_cell BK257.out 1).trans rfl
                have hcz31_2 : w10.cell? ⟨gb257, 2, none⟩ = some (.int .i64 a1_2) := (blk_cell BK257.out 2).trans rfl
                have hcz31_3 : w10.cell? ⟨gb257, 3, none⟩ = some (.int .i64 a1_3) := (blk_cell BK257.out 3).trans rfl
                have hfz31_0 := blk_frozen BK257.out 0
                have hfz31_1 := blk_frozen BK257.out 1
                have hfz31_2 := blk_frozen BK257.out 2
                have hfz31_3 := blk_frozen BK257.out 3
                go_wp2_with (first | (go_at_call 13; (with_reducible refine (ref_In.calls a2 0 4000000 true _ A24.out).mono ?_); rintro e w' ⟨rfl, ⟨nd, rfl⟩⟩) | (go_at_call 13; (with_reducible refine (ref_In.calls a4 0 100000 true _ A26.out).mono ?_); rintro e w' ⟨rfl, ⟨nd, rfl⟩⟩) | (go_at_call 13; (with_reducible refine (ref_In.calls (wrap64 (a3 + a4)) 0 1048575 true _ A28.out).mono ?_); rintro e w' ⟨rfl, ⟨nd, rfl⟩⟩) | (go_at_call 13; (with_reducible refine (ref_In.calls a3 0 1048575 t266 _ A30.out).mono ?_); rintro e w' ⟨rfl, ⟨nd, rfl⟩⟩))
                go_meet
                case rel => exact ⟨_, (!t266), (by first | rfl | (simp; done) | (simp [*]; done)), H', ⟨by first | omega | exact Nat.le_refl _⟩, ⟨by (with_reducible repeat (first | refine blk_drewN ?_ _ | refine blk_drew ?_ | refine blk_alloc ?_ _)); exact BK257.out⟩, ⟨by repeat (first | (with_reducible first | exact HB.out | apply below_alloc | apply pw_below_drewN | apply below_drew1 | refine below_set ?_ GE257.out) | exact HB.out)⟩⟩
              · replace c29 := Bool.eq_false_iff.mpr c29
                subst c29
                have H1 : (law_ApplyMoves.j0 k l0 a2 a3 a4 true a1_0 a1_1 a1_2 a1_3) = some r := by rw [if_neg (show ¬ (false = true) by decide)] at H; exact H
                clear H
                have H := H1
                clear H1
                have H' := Aside0.mk H
                clear H
                have hcz32_0 : w10.cell? ⟨gb257, 0, none⟩ = some (.int .i64 a1_0) := (blk_cell BK257.out 0).trans rfl
                have hcz32_1 : w10.cell? ⟨gb257, 1, none⟩ = some (.int .i64 a1_1) := (blk_cell BK257.out 1).trans rfl
                have hcz32_2 : w10.cell? ⟨gb257, 2, none⟩ = some (.int .i64 a1_2) := (blk_cell BK257.out 2).trans rfl
                have hcz32_3 : w10.cell? ⟨gb257, 3, none⟩ = some (.int .i64 a1_3) := (blk_cell BK257.out 3).trans rfl
                have hfz32_0 := blk_frozen BK257.out 0
                have hfz32_1 := blk_frozen BK257.out 1
                have hfz32_2 := blk_frozen BK257.out 2
                have hfz32_3 := blk_frozen BK257.out 3
                go_wp2_with (first | (go_at_call 13; (with_reducible refine (ref_In.calls a2 0 4000000 true _ A24.out).mono ?_); rintro e w' ⟨rfl, ⟨nd, rfl⟩⟩) | (go_at_call 13; (with_reducible refine (ref_In.calls a4 0 100000 true _ A26.out).mono ?_); rintro e w' ⟨rfl, ⟨nd, rfl⟩⟩) | (go_at_call 13; (with_reducible refine (ref_In.calls (wrap64 (a3 + a4)) 0 1048575 false _ A28.out).mono ?_); rintro e w' ⟨rfl, ⟨nd, rfl⟩⟩))
                go_meet
                case rel => exact ⟨_, (true), (by first | rfl | (simp; done) | (simp [*]; done)), H', ⟨by first | omega | exact Nat.le_refl _⟩, ⟨by (with_reducible repeat (first | refine blk_drewN ?_ _ | refine blk_drew ?_ | refine blk_alloc ?_ _)); exact BK257.out⟩, ⟨by repeat (first | (with_reducible first | exact HB.out | apply below_alloc | apply pw_below_drewN | apply below_drew1 | refine below_set ?_ GE257.out) | exact HB.out)⟩⟩
            · replace c27 := Bool.eq_false_iff.mpr c27
              subst c27
              have H1 : (law_ApplyMoves.j0 k l0 a2 a3 a4 true a1_0 a1_1 a1_2 a1_3) = some r := by rw [if_neg (show ¬ (false = true) by decide)] at H; exact H
              clear H
              have H := H1
              clear H1
              have H' := Aside0.mk H
              clear H
              have hcz33_0 : w10.cell? ⟨gb257, 0, none⟩ = some (.int .i64 a1_0) := (blk_cell BK257.out 0).trans rfl
              have hcz33_1 : w10.cell? ⟨gb257, 1, none⟩ = some (.int .i64 a1_1) := (blk_cell BK257.out 1).trans rfl
              have hcz33_2 : w10.cell? ⟨gb257, 2, none⟩ = some (.int .i64 a1_2) := (blk_cell BK257.out 2).trans rfl
              have hcz33_3 : w10.cell? ⟨gb257, 3, none⟩ = some (.int .i64 a1_3) := (blk_cell BK257.out 3).trans rfl
              have hfz33_0 := blk_frozen BK257.out 0
              have hfz33_1 := blk_frozen BK257.out 1
              have hfz33_2 := blk_frozen BK257.out 2
              have hfz33_3 := blk_frozen BK257.out 3
              go_wp2_with (first | (go_at_call 13; (with_reducible refine (ref_In.calls a2 0 4000000 true _ A24.out).mono ?_); rintro e w' ⟨rfl, ⟨nd, rfl⟩⟩) | (go_at_call 13; (with_reducible refine (ref_In.calls a4 0 100000 false _ A26.out).mono ?_); rintro e w' ⟨rfl, ⟨nd, rfl⟩⟩))
              go_meet
              case rel => exact ⟨_, (true), (by first | rfl | (simp; done) | (simp [*]; done)), H', ⟨by first | omega | exact Nat.le_refl _⟩, ⟨by (with_reducible repeat (first | refine blk_drewN ?_ _ | refine blk_drew ?_ | refine blk_alloc ?_ _)); exact BK257.out⟩, ⟨by repeat (first | (with_reducible first | exact HB.out | apply below_alloc | apply pw_below_drewN | apply below_drew1 | refine below_set ?_ GE257.out) | exact HB.out)⟩⟩
          · replace c25 := Bool.eq_false_iff.mpr c25
            subst c25
            have H1 : (law_ApplyMoves.j0 k l0 a2 a3 a4 true a1_0 a1_1 a1_2 a1_3) = some r := by rw [if_neg (show ¬ (false = true) by decide)] at H; exact H
            clear H
            have H := H1
            clear H1
            have H' := Aside0.mk H
            clear H
            have hcz34_0 : w10.cell? ⟨gb257, 0, none⟩ = some (.int .i64 a1_0) := (blk_cell BK257.out 0).trans rfl
            have hcz34_1 : w10.cell? ⟨gb257, 1, none⟩ = some (.int .i64 a1_1) := (blk_cell BK257.out 1).trans rfl
            have hcz34_2 : w10.cell? ⟨gb257, 2, none⟩ = some (.int .i64 a1_2) := (blk_cell BK257.out 2).trans rfl
            have hcz34_3 : w10.cell? ⟨gb257, 3, none⟩ = some (.int .i64 a1_3) := (blk_cell BK257.out 3).trans rfl
            have hfz34_0 := blk_frozen BK257.out 0
            have hfz34_1 := blk_frozen BK257.out 1
            have hfz34_2 := blk_frozen BK257.out 2
            have hfz34_3 := blk_frozen BK257.out 3
            go_wp2_with (first | (go_at_call 13; (with_reducible refine (ref_In.calls a2 0 4000000 false _ A24.out).mono ?_); rintro e w' ⟨rfl, ⟨nd, rfl⟩⟩))
            go_meet
            case rel => exact ⟨_, (true), (by first | rfl | (simp; done) | (simp [*]; done)), H', ⟨by first | omega | exact Nat.le_refl _⟩, ⟨by (with_reducible repeat (first | refine blk_drewN ?_ _ | refine blk_drew ?_ | refine blk_alloc ?_ _)); exact BK257.out⟩, ⟨by repeat (first | (with_reducible first | exact HB.out | apply below_alloc | apply pw_below_drewN | apply below_drew1 | refine below_set ?_ GE257.out) | exact HB.out)⟩⟩
        · rw [if_neg c23] at H
          have c23b0 : (a1_1 == 3) = false := beq_eq_false_iff_ne.mpr c23
          have c23b1 : (a1_1 != 3) = true := bne_iff_ne.mpr c23
          have H' := Aside0.mk H
          clear H
          have hcz35_0 : w10.cell? ⟨gb257, 0, none⟩ = some (.int .i64 a1_0) := (blk_cell BK257.out 0).trans rfl
          have hcz35_1 : w10.cell? ⟨gb257, 1, none⟩ = some (.int .i64 a1_1) := (blk_cell BK257.out 1).trans rfl
          have hcz35_2 : w10.cell? ⟨gb257, 2, none⟩ = some (.int .i64 a1_2) := (blk_cell BK257.out 2).trans rfl
          have hcz35_3 : w10.cell? ⟨gb257, 3, none⟩ = some (.int .i64 a1_3) := (blk_cell BK257.out 3).trans rfl
          have hfz35_0 := blk_frozen BK257.out 0
          have hfz35_1 := blk_frozen BK257.out 1
          have hfz35_2 := blk_frozen BK257.out 2
          have hfz35_3 := blk_frozen BK257.out 3
          go_wp2
          go_meet
          case rel => exact ⟨_, (true), (by first | rfl | (simp; done) | (simp [*]; done)), H', ⟨by first | omega | exact Nat.le_refl _⟩, ⟨by (with_reducible repeat (first | refine blk_drewN ?_ _ | refine blk_drew ?_ | refine blk_alloc ?_ _)); exact BK257.out⟩, ⟨by repeat (first | (with_reducible first | exact HB.out | apply below_alloc | apply pw_below_drewN | apply below_drew1 | refine below_set ?_ GE257.out) | exact HB.out)⟩⟩
    case rest =>
      clear HC8
      try clear c1
      try clear c2
      try clear p2
      try clear c6
      try clear p6
      try clear c7
      try clear c11
      try clear c11b0
      try clear c11b1
      try clear c12
      try clear c13
      try clear c15
      try clear c17
      try clear c23
      try clear c23b0
      try clear c23b1
      try clear c25
      try clear c27
      try clear c29
      try clear hcz19_0
      try clear hcz19_1
      try clear hcz19_2
      try clear hcz19_3
      try clear hcz20_0
      try clear hcz20_1
      try clear hcz20_2
      try clear hcz20_3
      try clear hcz21_0
      try clear hcz21_1
      try clear hcz21_2
      try clear hcz21_3
      try clear hcz22_0
      try clear hcz22_1
      try clear hcz22_2
      try clear hcz22_3
      try clear hcz31_0
      try clear hcz31_1
      try clear hcz31_2
      try clear hcz31_3
      try clear hcz32_0
      try clear hcz32_1
      try clear hcz32_2
      try clear hcz32_3
      try clear hcz33_0
      try clear hcz33_1
      try clear hcz33_2
      try clear hcz33_3
      try clear hcz34_0
      try clear hcz34_1
      try clear hcz34_2
      try clear hcz34_3
      try clear hcz35_0
      try clear hcz35_1
      try clear hcz35_2
      try clear hcz35_3
      try clear hfz19_0
      try clear hfz19_1
      try clear hfz19_2
      try clear hfz19_3
      try clear hfz20_0
      try clear hfz20_1
      try clear hfz20_2
      try clear hfz20_3
      try clear hfz21_0
      try clear hfz21_1
      try clear hfz21_2
      try clear hfz21_3
      try clear hfz22_0
      try clear hfz22_1
      try clear hfz22_2
      try clear hfz22_3
      try clear hfz31_0
      try clear hfz31_1
      try clear hfz31_2
      try clear hfz31_3
      try clear hfz32_0
      try clear hfz32_1
      try clear hfz32_2
      try clear hfz32_3
      try clear hfz33_0
      try clear hfz33_1
      try clear hfz33_2
      try clear hfz33_3
      try clear hfz34_0
      try clear hfz34_1
      try clear hfz34_2
      try clear hfz34_3
      try clear hfz35_0
      try clear hfz35_1
      try clear hfz35_2
      try clear hfz35_3
      obtain ⟨kq, x46_7, rfl, HA, HJ7, BK257, HB⟩ := hcut
      cases kq with
      | zero => exact absurd HA.out (by simp [law_ApplyMoves.j0])
      | succ kj7 =>
        have H := HA.out
        clear HA
        simp only [law_ApplyMoves.j0] at H
        by_cases c36 : x46_7 = true
        · subst c36
          have H1 : (some true) = some r := by rw [if_pos rfl] at H; exact H
          clear H
          have H := H1
          clear H1
          obtain rfl := Option.some.inj H
          go_wp2
          go_ret
          exact ⟨by first | rfl | (simp [errW_none, errW_some] <;> rfl) | (simp [*, errW_none, errW_some] <;> rfl), by repeat (first | (with_reducible first | exact HB.out | apply below_alloc | apply pw_below_drewN | apply below_drew1 | refine below_set ?_ GE257.out) | exact HB.out)⟩
        · replace c36 := Bool.eq_false_iff.mpr c36
          subst c36
          have H1 : ((apply_Field.f kj7 l0 a1_0 a1_1 a1_2 a1_3 a2 a3).bind fun bt267 => ((apply_Field.f kj7 l0 a1_0 a1_1 a1_2 a1_3 (wrap64 (a2 + a4)) (wrap64 (a3 + a4))).bind fun bt273 => (if (bt267.2.1 == bt273.2.1 && (bt267.2.2 == bt273.2.2)) = true then ((ref_SameBytes.f bt267.1 bt273.1).bind fun t279 => (some t279)) else (none)))) = some r := by rw [if_neg (show ¬ (false = true) by decide)] at H; exact H
          clear H
          have H := H1
          clear H1
          replace H := Option.bind_eq_some_iff.mp H
          obtain ⟨⟨t267, t270, t271⟩, A370, H⟩ := H
          replace H : ((apply_Field.f kj7 l0 a1_0 a1_1 a1_2 a1_3 (wrap64 (a2 + a4)) (wrap64 (a3 + a4))).bind fun bt273 => (if (t270 == bt273.2.1 && (t271 == bt273.2.2)) = true then ((ref_SameBytes.f t267 bt273.1).bind fun t279 => (some t279)) else (none))) = some r := H
          have A37 := Aside0.mk A370
          clear A370
          replace H := Option.bind_eq_some_iff.mp H
          obtain ⟨⟨t273, t276, t277⟩, A380, H⟩ := H
          replace H : (if (t270 == t276 && (t271 == t277)) = true then ((ref_SameBytes.f t267 t273).bind fun t279 => (some t279)) else (none)) = some r := H
          have A38 := Aside0.mk A380
          clear A380
          by_cases c39 : (t270 == t276 && (t271 == t277)) = true
          · rw [if_pos c39] at H
            have c39b0 : (t270 == t276 && (t271 == t277)) = true := c39
            (try (have c39b1 : decide (t270 = t276 && (t271 == t277)) = true := by simpa using c39))
            (try (have c39b2 : (t270 == t276 && (t271 == t277)) = true := by simpa using c39))
            clear c39
            replace H := Option.bind_eq_some_iff.mp H
            obtain ⟨t279, A400, H⟩ := H
            replace H : (some t279) = some r := H
            have A40 := Aside0.mk A400
            clear A400
            obtain rfl := Option.some.inj H
            have hcz41_0 : wc.cell? ⟨gb257, 0, none⟩ = some (.int .i64 a1_0) := (blk_cell BK257.out 0).trans rfl
            have hcz41_1 : wc.cell? ⟨gb257, 1, none⟩ = some (.int .i64 a1_1) := (blk_cell BK257.out 1).trans rfl
            have hcz41_2 : wc.cell? ⟨gb257, 2, none⟩ = some (.int .i64 a1_2) := (blk_cell BK257.out 2).trans rfl
            have hcz41_3 : wc.cell? ⟨gb257, 3, none⟩ = some (.int .i64 a1_3) := (blk_cell BK257.out 3).trans rfl
            have hfz41_0 := blk_frozen BK257.out 0
            have hfz41_1 := blk_frozen BK257.out 1
            have hfz41_2 := blk_frozen BK257.out 2
            have hfz41_3 := blk_frozen BK257.out 3
            go_wp2_with (first | ((with_reducible refine gate_callee (f := 16) rfl ?_); refine goesL_ (some 52) rfl rfl Try.func16 (by kernel_rfl) rfl #[.slice A0 l0.length c0, .agg #[.int .i64 a1_0, .int .i64 a1_1, .int .i64 a1_2, .int .i64 a1_3], .int .i64 a2, .int .i64 a3] rfl (by (try simp only [List.map_toArray, List.map_cons, List.map_nil]); first | done | rfl | (simp only [List.length_drop, List.length_take]; rfl)) ?_; (with_reducible refine (apply_Field.calls kj7 _ _ l0 a1_0 a1_1 a1_2 a1_3 a2 a3 t267 t270 t271 _ ?side1 ?side2 A37.out).mono ?_); (case side1 => repeat (first | exact (Kd.C_below HR0.out HB.out) | (with_reducible refine Kd.C_alloc ?_ _) | (with_reducible refine Kd.C_drewN ?_ _) | (with_reducible refine Kd.C_drew ?_))); (case side2 => exact HC0.out); rintro e w42 ⟨v268, rfl, ho0, hb⟩; refine ⟨_, rfl, ?_⟩; have n0_ := Aside0.mk (Kd.R_lower ho0 (below_size (by repeat (first | (with_reducible first | exact HB.out | apply below_alloc | apply pw_below_drewN | apply below_drew1 | refine below_set ?_ GE257.out) | exact HB.out)))); have n1_ := Aside0.mk (blk_below (g := gb257) (o := .cells #[.int .i64 a1_0, .int .i64 a1_1, .int .i64 a1_2, .int .i64 a1_3] 24 (0, 0)) (by (with_reducible repeat (first | refine blk_drewN ?_ _ | refine blk_drew ?_ | refine blk_alloc ?_ _)); exact BK257.out) hb); have n2_ := Aside0.mk (below_step (by repeat (first | (with_reducible first | exact HB.out | apply below_alloc | apply pw_below_drewN | apply below_drew1 | refine below_set ?_ GE257.out) | exact HB.out)) hb); clear BK257; clear HB; have HO269 := n0_; have BK257 := n1_; have HB := n2_; clear n0_ n1_ n2_; (try clear hb); (try clear hb2); (try clear hk); (try clear hi); (try clear ho0)) | ((with_reducible refine gate_dst (N := 12) rfl ?_); refine box_event ?hg (N := 12) ?hd (cs := #[.int .i64 0, .int .i64 0]) (t := 26) ?hr ?_; (case hd => rfl); (case hg => rfl); (case hr => first | (go_simp; done) | (go_simp; rfl)); intro gb272 hg w43 hbox hb; have n0_ := Aside0.mk (Kd.R_below (by (with_reducible repeat (first | apply Kd.R_alloc | apply Kd.R_drewN | apply Kd.R_drew)); exact HO269.out) hb); have n1_ := Aside0.mk (blk_below (g := gb257) (o := .cells #[.int .i64 a1_0, .int .i64 a1_1, .int .i64 a1_2, .int .i64 a1_3] 24 (0, 0)) (by (with_reducible repeat (first | refine blk_drewN ?_ _ | refine blk_drew ?_ | refine blk_alloc ?_ _)); exact BK257.out) hb); have n2_ := Aside0.mk (below_step (by repeat (first | (with_reducible first | exact HB.out | apply below_alloc | apply pw_below_drewN | apply below_drew1 | refine below_set ?_ GE257.out) | exact HB.out)) hb); have n3_ := Aside0.mk (hbox); have n4_ := Aside0.mk ((by rw [hg]; exact (below_size (by repeat (first | (with_reducible first | exact HB.out | apply below_alloc | apply pw_below_drewN | apply below_drew1 | refine below_set ?_ GE257.out) | exact HB.out))) : w.heap.size ≤ gb272)); have n5_ := Aside0.mk ((by rw [hg]; exact (below_size (by repeat (first | (with_reducible first | exact HB.out | apply below_alloc | apply pw_below_drewN | apply below_drew1 | refine below_set ?_ GE257.out) | exact HB.out))) : w.heap.size ≤ gb272)); have n6_ := Aside0.mk ((by rw [hg]; exact Nat.ne_of_lt (blk_lt (g := gb257) (o := .cells #[.int .i64 a1_0, .int .i64 a1_1, .int .i64 a1_2, .int .i64 a1_3] 24 (0, 0)) (by (with_reducible repeat (first | refine blk_drewN ?_ _ | refine blk_drew ?_ | refine blk_alloc ?_ _)); exact BK257.out)) : gb257 ≠ gb272)); have n7_ := Aside0.mk ((by rw [hg]; exact Nat.ne_of_gt (blk_lt (g := gb257) (o := .cells #[.int .i64 a1_0, .int .i64 a1_1, .int .i64 a1_2, .int .i64 a1_3] 24 (0, 0)) (by (with_reducible repeat (first | refine blk_drewN ?_ _ | refine blk_drew ?_ | refine blk_alloc ?_ _)); exact BK257.out)) : gb272 ≠ gb257)); clear HO269; clear BK257; clear HB; have HO269 := n0_; have BK257 := n1_; have HB := n2_; have BK272 := n3_; have GW272 := n4_; have GE272 := n5_; have NB257_272 := n6_; have NB272_257 := n7_; clear n0_ n1_ n2_ n3_ n4_ n5_ n6_ n7_; clear hb hbox hg; have hnb44 := NB272_257.out; have hnc44 := NB257_272.out; have hcz45_0 : w43.cell? ⟨gb272, 0, none⟩ = some (.int .i64 0) := (blk_cell BK272.out 0).trans rfl; have hcz45_1 : w43.cell? ⟨gb272, 1, none⟩ = some (.int .i64 0) := (blk_cell BK272.out 1).trans rfl; have hfz45_0 := blk_frozen BK272.out 0; have hfz45_1 := blk_frozen BK272.out 1; have hcz46_0 : w43.cell? ⟨gb257, 0, none⟩ = some (.int .i64 a1_0) := (blk_cell BK257.out 0).trans rfl; have hcz46_1 : w43.cell? ⟨gb257, 1, none⟩ = some (.int .i64 a1_1) := (blk_cell BK257.out 1).trans rfl; have hcz46_2 : w43.cell? ⟨gb257, 2, none⟩ = some (.int .i64 a1_2) := (blk_cell BK257.out 2).trans rfl; have hcz46_3 : w43.cell? ⟨gb257, 3, none⟩ = some (.int .i64 a1_3) := (blk_cell BK257.out 3).trans rfl; have hfz46_0 := blk_frozen BK257.out 0; have hfz46_1 := blk_frozen BK257.out 1; have hfz46_2 := blk_frozen BK257.out 2; have hfz46_3 := blk_frozen BK257.out 3) | ((with_reducible refine gate_callee (f := 16) rfl ?_); refine goesL_ (some 64) rfl rfl Try.func16 (by kernel_rfl) rfl #[.slice A0 l0.length c0, .agg #[.int .i64 a1_0, .int .i64 a1_1, .int .i64 a1_2, .int .i64 a1_3], .int .i64 (wrap64 (a2 + a4)), .int .i64 (wrap64 (a3 + a4))] rfl (by (try simp only [List.map_toArray, List.map_cons, List.map_nil]); first | done | rfl | (simp only [List.length_drop, List.length_take]; rfl)) ?_; (with_reducible refine (apply_Field.calls kj7 _ _ l0 a1_0 a1_1 a1_2 a1_3 (wrap64 (a2 + a4)) (wrap64 (a3 + a4)) t273 t276 t277 _ ?side1 ?side2 A38.out).mono ?_); (case side1 => exact Kd.C_below HR0.out (by repeat (first | (with_reducible first | exact HB.out | apply below_alloc | apply pw_below_drewN | apply below_drew1 | refine below_set ?_ GE257.out | refine below_set ?_ GE272.out) | exact HB.out))); (case side2 => exact HC0.out); rintro e w47 ⟨v274, rfl, ho0, hb⟩; refine ⟨_, rfl, ?_⟩; have n0_ := Aside0.mk (Kd.R_elder' (by (with_reducible repeat (first | apply Kd.R_alloc | apply Kd.R_drewN | apply Kd.R_drew)); exact (Kd.R_mono (Kd.R_far (p := ⟨gb272, 1, none⟩) (Kd.R_far (p := ⟨gb272, 0, none⟩) (Kd.R_types HO269.out BK272.out (by decide)) (fun _ hk => hk.2) (.int .i64 t270)) (fun _ hk => hk.2) (.int .i64 t271)) (fun _ h_ => h_.1))) (Kd.R_base ho0) hb); have n1_ := Aside0.mk (Kd.R_lower (Kd.R_new' ho0 (Kd.R_lt (by (with_reducible repeat (first | apply Kd.R_alloc | apply Kd.R_drewN | apply Kd.R_drew)); exact (Kd.R_mono (Kd.R_far (p := ⟨gb272, 1, none⟩) (Kd.R_far (p := ⟨gb272, 0, none⟩) (Kd.R_types HO269.out BK272.out (by decide)) (fun _ hk => hk.2) (.int .i64 t270)) (fun _ hk => hk.2) (.int .i64 t271)) (fun _ h_ => h_.1))))) (below_size (by repeat (first | (with_reducible first | exact HB.out | apply below_alloc | apply pw_below_drewN | apply below_drew1 | refine below_set ?_ GE257.out | refine below_set ?_ GE272.out) | exact HB.out)))); have n2_ := Aside0.mk (blk_below (g := gb257) (o := .cells #[.int .i64 a1_0, .int .i64 a1_1, .int .i64 a1_2, .int .i64 a1_3] 24 (0, 0)) (by (with_reducible repeat (first | refine blk_drewN ?_ _ | refine blk_drew ?_ | refine blk_alloc ?_ _)); refine blk_far ?_ NB257_272.out _; (with_reducible repeat (first | refine blk_drewN ?_ _ | refine blk_drew ?_ | refine blk_alloc ?_ _)); refine blk_far ?_ NB257_272.out _; (with_reducible repeat (first | refine blk_drewN ?_ _ | refine blk_drew ?_ | refine blk_alloc ?_ _)); exact BK257.out) hb); have n3_ := Aside0.mk (blk_below (g := gb272) (o := .cells #[.int .i64 t270, .int .i64 t271] 26 (0, 0)) (by (with_reducible repeat (first | refine blk_drewN ?_ _ | refine blk_drew ?_ | refine blk_alloc ?_ _)); refine blk_put (cs := #[.int .i64 t270, .int .i64 0]) ?_ 1 _ rfl; (with_reducible repeat (first | refine blk_drewN ?_ _ | refine blk_drew ?_ | refine blk_alloc ?_ _)); refine blk_put (cs := #[.int .i64 0, .int .i64 0]) ?_ 0 _ rfl; (with_reducible repeat (first | refine blk_drewN ?_ _ | refine blk_drew ?_ | refine blk_alloc ?_ _)); exact BK272.out) hb); have n4_ := Aside0.mk (below_step (by repeat (first | (with_reducible first | exact HB.out | apply below_alloc | apply pw_below_drewN | apply below_drew1 | refine below_set ?_ GE257.out | refine below_set ?_ GE272.out) | exact HB.out)) hb); clear HO269; clear BK257; clear BK272; clear HB; have HO269 := n0_; have HO275 := n1_; have BK257 := n2_; have BK272 := n3_; have HB := n4_; clear n0_ n1_ n2_ n3_ n4_; (try clear hb); (try clear hb2); (try clear hk); (try clear hi); (try clear ho0)) | ((with_reducible refine gate_dst (N := 14) rfl ?_); refine box_event ?hg (N := 14) ?hd (cs := #[.int .i64 0, .int .i64 0]) (t := 26) ?hr ?_; (case hd => rfl); (case hg => rfl); (case hr => first | (go_simp; done) | (go_simp; rfl)); intro gb278 hg w48 hbox hb; have n0_ := Aside0.mk (Kd.R_below (by (with_reducible repeat (first | apply Kd.R_alloc | apply Kd.R_drewN | apply Kd.R_drew)); exact HO269.out) hb); have n1_ := Aside0.mk (Kd.R_below (by (with_reducible repeat (first | apply Kd.R_alloc | apply Kd.R_drewN | apply Kd.R_drew)); exact HO275.out) hb); have n2_ := Aside0.mk (blk_below (g := gb257) (o := .cells #[.int .i64 a1_0, .int .i64 a1_1, .int .i64 a1_2, .int .i64 a1_3] 24 (0, 0)) (by (with_reducible repeat (first | refine blk_drewN ?_ _ | refine blk_drew ?_ | refine blk_alloc ?_ _)); exact BK257.out) hb); have n3_ := Aside0.mk (blk_below (g := gb272) (o := .cells #[.int .i64 t270, .int .i64 t271] 26 (0, 0)) (by (with_reducible repeat (first | refine blk_drewN ?_ _ | refine blk_drew ?_ | refine blk_alloc ?_ _)); exact BK272.out) hb); have n4_ := Aside0.mk (below_step (by repeat (first | (with_reducible first | exact HB.out | apply below_alloc | apply pw_below_drewN | apply below_drew1 | refine below_set ?_ GE257.out | refine below_set ?_ GE272.out) | exact HB.out)) hb); have n5_ := Aside0.mk (hbox); have n6_ := Aside0.mk ((by rw [hg]; exact (below_size (by repeat (first | (with_reducible first | exact HB.out | apply below_alloc | apply pw_below_drewN | apply below_drew1 | refine below_set ?_ GE257.out | refine below_set ?_ GE272.out) | exact HB.out))) : w.heap.size ≤ gb278)); have n7_ := Aside0.mk ((by rw [hg]; exact (below_size (by repeat (first | (with_reducible first | exact HB.out | apply below_alloc | apply pw_below_drewN | apply below_drew1 | refine below_set ?_ GE257.out | refine below_set ?_ GE272.out) | exact HB.out))) : w.heap.size ≤ gb278)); have n8_ := Aside0.mk ((by rw [hg]; exact Nat.ne_of_lt (blk_lt (g := gb257) (o := .cells #[.int .i64 a1_0, .int .i64 a1_1, .int .i64 a1_2, .int .i64 a1_3] 24 (0, 0)) (by (with_reducible repeat (first | refine blk_drewN ?_ _ | refine blk_drew ?_ | refine blk_alloc ?_ _)); exact BK257.out)) : gb257 ≠ gb278)); have n9_ := Aside0.mk ((by rw [hg]; exact Nat.ne_of_gt (blk_lt (g := gb257) (o := .cells #[.int .i64 a1_0, .int .i64 a1_1, .int .i64 a1_2, .int .i64 a1_3] 24 (0, 0)) (by (with_reducible repeat (first | refine blk_drewN ?_ _ | refine blk_drew ?_ | refine blk_alloc ?_ _)); exact BK257.out)) : gb278 ≠ gb257)); have n10_ := Aside0.mk ((by rw [hg]; exact Nat.ne_of_lt (blk_lt (g := gb272) (o := .cells #[.int .i64 t270, .int .i64 t271] 26 (0, 0)) (by (with_reducible repeat (first | refine blk_drewN ?_ _ | refine blk_drew ?_ | refine blk_alloc ?_ _)); exact BK272.out)) : gb272 ≠ gb278)); have n11_ := Aside0.mk ((by rw [hg]; exact Nat.ne_of_gt (blk_lt (g := gb272) (o := .cells #[.int .i64 t270, .int .i64 t271] 26 (0, 0)) (by (with_reducible repeat (first | refine blk_drewN ?_ _ | refine blk_drew ?_ | refine blk_alloc ?_ _)); exact BK272.out)) : gb278 ≠ gb272)); clear HO269; clear HO275; clear BK257; clear BK272; clear HB; have HO269 := n0_; have HO275 := n1_; have BK257 := n2_; have BK272 := n3_; have HB := n4_; have BK278 := n5_; have GW278 := n6_; have GE278 := n7_; have NB257_278 := n8_; have NB278_257 := n9_; have NB272_278 := n10_; have NB278_272 := n11_; clear n0_ n1_ n2_ n3_ n4_ n5_ n6_ n7_ n8_ n9_ n10_ n11_; clear hb hbox hg; have hnb49 := NB278_257.out; have hnc49 := NB257_278.out; have hnb50 := NB278_272.out; have hnc50 := NB272_278.out; have hcz51_0 : w48.cell? ⟨gb278, 0, none⟩ = some (.int .i64 0) := (blk_cell BK278.out 0).trans rfl; have hcz51_1 : w48.cell? ⟨gb278, 1, none⟩ = some (.int .i64 0) := (blk_cell BK278.out 1).trans rfl; have hfz51_0 := blk_frozen BK278.out 0; have hfz51_1 := blk_frozen BK278.out 1; have hcz52_0 : w48.cell? ⟨gb272, 0, none⟩ = some (.int .i64 t270) := (blk_cell BK272.out 0).trans rfl; have hcz52_1 : w48.cell? ⟨gb272, 1, none⟩ = some (.int .i64 t271) := (blk_cell BK272.out 1).trans rfl; have hfz52_0 := blk_frozen BK272.out 0; have hfz52_1 := blk_frozen BK272.out 1; obtain ⟨Ao53, co53, eo53⟩ := Kd.R_slice HO269.out; subst eo53; obtain ⟨Ao54, co54, eo54⟩ := Kd.R_slice HO275.out; subst eo54) | (go_at_call 17; (with_reducible refine (ref_SameBytes.calls _ _ t267 _ _ t273 t279 _ ?side1 ?side2 ?side3 ?side4 A40.out).mono ?_); (case side1 => refine (Kd.R_reads' (e := 5) (base := w.heap.size) (ok := fun k_ => (True ∧ some k_ ≠ (.slice Ao54 t273.length co54 : Value).ownBlock)) (n := t267.length) (c := co53) ?_).2.2; exact (by (with_reducible repeat (first | apply Kd.R_alloc | apply Kd.R_drewN | apply Kd.R_drew)); exact (Kd.R_mono (Kd.R_far (p := ⟨gb278, 1, none⟩) (Kd.R_far (p := ⟨gb278, 0, none⟩) (Kd.R_types HO269.out BK278.out (by decide)) (fun _ hk => hk.2) (.int .i64 t276)) (fun _ hk => hk.2) (.int .i64 t277)) (fun _ h_ => h_.1)))); (case side2 => exact (Kd.R_reads' HO269.out).2.1); (case side3 => refine (Kd.R_reads' (e := 5) (base := w.heap.size) (ok := fun k_ => (True ∧ some k_ ≠ (.slice Ao53 t267.length co53 : Value).ownBlock)) (n := t273.length) (c := co54) ?_).2.2; exact (by (with_reducible repeat (first | apply Kd.R_alloc | apply Kd.R_drewN | apply Kd.R_drew)); exact (Kd.R_mono (Kd.R_far (p := ⟨gb278, 1, none⟩) (Kd.R_far (p := ⟨gb278, 0, none⟩) (Kd.R_types HO275.out BK278.out (by decide)) (fun _ hk => hk.2) (.int .i64 t276)) (fun _ hk => hk.2) (.int .i64 t277)) (fun _ h_ => h_.1)))); (case side4 => exact (Kd.R_reads' HO275.out).2.1); rintro e w' ⟨rfl, ⟨nd, rfl⟩⟩))
            go_ret
            exact ⟨by first | rfl | (simp [errW_none, errW_some] <;> rfl) | (simp [*, errW_none, errW_some] <;> rfl), by repeat (first | (with_reducible first | exact HB.out | apply below_alloc | apply pw_below_drewN | apply below_drew1 | refine below_set ?_ GE257.out | refine below_set ?_ GE272.out | refine below_set ?_ GE278.out) | exact HB.out)⟩
          · rw [if_neg c39] at H
            exact absurd H (by simp)
  · replace c7 := Bool.eq_false_iff.mpr c7
    subst c7
    have H1 : (none) = some r := by rw [if_neg (show ¬ (false = true) by decide)] at H; exact H
    clear H
    have H := H1
    clear H1
    exact absurd H (by simp)

/-- What is left to prove of law_ApplyMoves. -/
def law_ApplyMoves.Pure : Prop := ∀ (l0 : List Int) (a1_0 : Int) (a1_1 : Int) (a1_2 : Int) (a1_3 : Int) (a2 : Int) (a3 : Int) (a4 : Int), l0.length ≤ 9223372036854775807 → l0.length * 1 ≤ 140737488351232 → (∀ y ∈ l0, (Lit.int .u8 y).wf = true) → G24 (⟨a1_0, a1_1, a1_2, a1_3⟩ : S24) → (Lit.int .i64 a2).wf = true → (Lit.int .i64 a3).wf = true → (Lit.int .i64 a4).wf = true → ∃ k, law_ApplyMoves.f k l0 a1_0 a1_1 a1_2 a1_3 a2 a3 a4 = some true

end Go.Proofs.Ytnbeamaoblmbhaa.PApply
