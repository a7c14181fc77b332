/- Written by a program of this session, for the law(s) Place: contracts of the Go functions that the law reaches, each against a plain Lean function. No condition. -/
import Derived.Test.YtnbeamaoblmbhaaPPlacex0
import Derived.Test.YtnbeamaoblmbhaaPPlacex3
namespace Go.Proofs.Ytnbeamaoblmbhaa.PPlace
open Go.RowKit Go.Proofs.YtnbeamaoblmbhaaW.PrintWords Go.Proofs.YtnbeamaoblmbhaaW.PrintLast Go.Proofs.YtnbeamaoblmbhaaW.PrintMore
attribute [local go_sem] max2_int min2_int max_two min_two max_three min_three max_four min_four   -- for this text's walks alone
set_option linter.unusedVariables false
set_option linter.unusedSimpArgs false

/-! ### ref_ScriptFault: function 20 -/
mutual
def ref_ScriptFault.l0 : Nat → Int → List (S60) → List (S72) → Option (Int × Int)
 | 0, _, _, _ => none
 | k + 1, x3, x109000, x109001 => if x3 < (x109000.length : Int) then (if 0 ≤ x3 then ((ref_NameOk.f k ((rd_T60 x109000 x3).f0)).bind fun t114 => (if t114 = true then (ref_ScriptFault.l1 k x3 0 x109000 x109001 ((rd_T60 x109000 x3).f0) ((rd_T60 x109000 x3).f1) ((rd_T60 x109000 x3).f2) ((rd_T60 x109000 x3).f3)) else ((ref_At.f 12 x3).bind fun bt115 => (some (bt115.1, bt115.2))))) else (none)) else (if (x109001.length : Int) > 12 then ((ref_At.f 2 (-2)).bind fun bt137 => (some (bt137.1, bt137.2))) else (ref_ScriptFault.l2 k 0 x109000 x109001))
def ref_ScriptFault.l1 : Nat → Int → Int → List (S60) → List (S72) → ByteArray → Int → Int → Int → Option (Int × Int)
 | 0, _, _, _, _, _, _, _, _ => none
 | k + 1, x3, x5, x109000, x109001, x114000, x114001, x114002, x114003 => if x5 < x3 then (if 0 ≤ x5 then (if x5 < (x109000.length : Int) then (if ((rd_T60 x109000 x5).f0).toList = x114000.toList then ((ref_At.f 7 x3).bind fun bt118 => (some (bt118.1, bt118.2))) else (ref_ScriptFault.l1 k x3 (wrap64 (x5 + 1)) x109000 x109001 x114000 x114001 x114002 x114003)) else (none)) else (none)) else (if x114001 = (-1) then ((ref_Power.f k x114002 4096).bind fun t120 => (if t120 = true then ((ref_In.f x114003 1 7).bind fun t121 => (if t121 = true then (ref_ScriptFault.l0 k (wrap64 (x3 + 1)) x109000 x109001) else ((ref_At.f 3 x3).bind fun bt122 => (some (bt122.1, bt122.2))))) else ((ref_At.f 3 x3).bind fun bt124 => (some (bt124.1, bt124.2))))) else ((ref_In.f x114001 0 1048575).bind fun t126 => (if t126 = true then (if (Int.tmod x114001 256) = 0 then ((ref_Power.f k x114002 4096).bind fun t127 => (if t127 = true then ((ref_In.f x114003 1 7).bind fun t128 => (if t128 = true then (ref_ScriptFault.l0 k (wrap64 (x3 + 1)) x109000 x109001) else ((ref_At.f 3 x3).bind fun bt129 => (some (bt129.1, bt129.2))))) else ((ref_At.f 3 x3).bind fun bt131 => (some (bt131.1, bt131.2))))) else ((ref_At.f 3 x3).bind fun bt133 => (some (bt133.1, bt133.2)))) else ((ref_At.f 3 x3).bind fun bt135 => (some (bt135.1, bt135.2))))))
def ref_ScriptFault.l2 : Nat → Int → List (S60) → List (S72) → Option (Int × Int)
 | 0, _, _, _ => none
 | k + 1, x6, x109000, x109001 => if x6 < (x109001.length : Int) then (if 0 ≤ x6 then ((ref_PatternOk.f k ((rd_T72 x109001 x6).f0)).bind fun t141 => (if t141 = true then ((ref_In.f ((rd_T72 x109001 x6).f1) 0 4).bind fun t144 => (if t144 = true then ((ref_In.f ((rd_T72 x109001 x6).f2) 0 (wrap64 ((x109000.length : Int) - 1))).bind fun t147 => (if t147 = true then (ref_ScriptFault.l2 k (wrap64 (x6 + 1)) x109000 x109001) else ((ref_At.f 3 (wrap64 ((-10) - x6))).bind fun bt148 => (some (bt148.1, bt148.2))))) else ((ref_At.f 4 (wrap64 ((-10) - x6))).bind fun bt145 => (some (bt145.1, bt145.2))))) else ((ref_At.f 12 (wrap64 ((-10) - x6))).bind fun bt142 => (some (bt142.1, bt142.2))))) else (none)) else (some (0, 0))
end
def ref_ScriptFault.f (k : Nat) (l0_0 : List (S60)) (l0_1 : List (S72)) : Option (Int × Int) := if (l0_0.length : Int) > 8 then ((ref_At.f 2 (-1)).bind fun bt110 => (some (bt110.1, bt110.2))) else (ref_ScriptFault.l0 k 0 l0_0 l0_1)
theorem ref_ScriptFault.mono_l : ∀ k, (∀ y0 y1 y2, LeO (ref_ScriptFault.l0 k y0 y1 y2) (ref_ScriptFault.l0 (k + 1) y0 y1 y2)) ∧ (∀ y0 y1 y2 y3 y4 y5 y6 y7, LeO (ref_ScriptFault.l1 k y0 y1 y2 y3 y4 y5 y6 y7) (ref_ScriptFault.l1 (k + 1) y0 y1 y2 y3 y4 y5 y6 y7)) ∧ (∀ y0 y1 y2, LeO (ref_ScriptFault.l2 k y0 y1 y2) (ref_ScriptFault.l2 (k + 1) y0 y1 y2))
 | 0 => ⟨fun _ _ _ r h => by simp [ref_ScriptFault.l0] at h, fun _ _ _ _ _ _ _ _ r h => by simp [ref_ScriptFault.l1] at h, fun _ _ _ r h => by simp [ref_ScriptFault.l2] at h⟩
 | k + 1 => by
  obtain ⟨ih0, ih1, ih2⟩ := ref_ScriptFault.mono_l k
  refine ⟨?_, ?_, ?_⟩
  ·intro y0 y1 y2
   unfold ref_ScriptFault.l0
   repeat' first
   | (with_reducible exact ih0 _ _ _)
   | (with_reducible exact ih1 _ _ _ _ _ _ _ _)
   | (with_reducible exact ih2 _ _ _)
   | (with_reducible exact ref_NameOk.mono _ _)
   | (with_reducible exact ref_PatternOk.mono _ _)
   | (with_reducible exact ref_Power.mono _ _ _)
   | (with_reducible exact LeO.refl _)
   | (with_reducible exact LeO.none _)
   | (with_reducible refine LeO.ite ?_ ?_)
   | (with_reducible refine LeO.bind ?_ (fun _ => ?_))
   | exact ih0 _ _ _
   | exact ih1 _ _ _ _ _ _ _ _
   | exact ih2 _ _ _
   | exact ref_NameOk.mono _ _
   | exact ref_PatternOk.mono _ _
   | exact ref_Power.mono _ _ _
   | exact LeO.none _
   | refine LeO.ite ?_ ?_
   | refine LeO.bind ?_ (fun _ => ?_)
  ·intro y0 y1 y2 y3 y4 y5 y6 y7
   unfold ref_ScriptFault.l1
   repeat' first
   | (with_reducible exact ih0 _ _ _)
   | (with_reducible exact ih1 _ _ _ _ _ _ _ _)
   | (with_reducible exact ih2 _ _ _)
   | (with_reducible exact ref_NameOk.mono _ _)
   | (with_reducible exact ref_PatternOk.mono _ _)
   | (with_reducible exact ref_Power.mono _ _ _)
   | (with_reducible exact LeO.refl _)
   | (with_reducible exact LeO.none _)
   | (with_reducible refine LeO.ite ?_ ?_)
   | (with_reducible refine LeO.bind ?_ (fun _ => ?_))
   | exact ih0 _ _ _
   | exact ih1 _ _ _ _ _ _ _ _
   | exact ih2 _ _ _
   | exact ref_NameOk.mono _ _
   | exact ref_PatternOk.mono _ _
   | exact ref_Power.mono _ _ _
   | exact LeO.none _
   | refine LeO.ite ?_ ?_
   | refine LeO.bind ?_ (fun _ => ?_)
  ·intro y0 y1 y2
   unfold ref_ScriptFault.l2
   repeat' first
   | (with_reducible exact ih0 _ _ _)
   | (with_reducible exact ih1 _ _ _ _ _ _ _ _)
   | (with_reducible exact ih2 _ _ _)
   | (with_reducible exact ref_NameOk.mono _ _)
   | (with_reducible exact ref_PatternOk.mono _ _)
   | (with_reducible exact ref_Power.mono _ _ _)
   | (with_reducible exact LeO.refl _)
   | (with_reducible exact LeO.none _)
   | (with_reducible refine LeO.ite ?_ ?_)
   | (with_reducible refine LeO.bind ?_ (fun _ => ?_))
   | exact ih0 _ _ _
   | exact ih1 _ _ _ _ _ _ _ _
   | exact ih2 _ _ _
   | exact ref_NameOk.mono _ _
   | exact ref_PatternOk.mono _ _
   | exact ref_Power.mono _ _ _
   | exact LeO.none _
   | refine LeO.ite ?_ ?_
   | refine LeO.bind ?_ (fun _ => ?_)
theorem ref_ScriptFault.mono : ∀ a0 a1 k, LeO (ref_ScriptFault.f k a0 a1) (ref_ScriptFault.f (k + 1) a0 a1) := by
 intro a0 a1 k
 obtain ⟨ih0, ih1, ih2⟩ := ref_ScriptFault.mono_l k
 unfold ref_ScriptFault.f
 repeat' first
   | (with_reducible exact ih0 _ _ _)
   | (with_reducible exact ih1 _ _ _ _ _ _ _ _)
   | (with_reducible exact ih2 _ _ _)
   | (with_reducible exact ref_NameOk.mono _ _)
   | (with_reducible exact ref_PatternOk.mono _ _)
   | (with_reducible exact ref_Power.mono _ _ _)
   | (with_reducible exact LeO.refl _)
   | (with_reducible exact LeO.none _)
   | (with_reducible refine LeO.ite ?_ ?_)
   | (with_reducible refine LeO.bind ?_ (fun _ => ?_))
   | exact ih0 _ _ _
   | exact ih1 _ _ _ _ _ _ _ _
   | exact ih2 _ _ _
   | exact ref_NameOk.mono _ _
   | exact ref_PatternOk.mono _ _
   | exact ref_Power.mono _ _ _
   | exact LeO.none _
   | refine LeO.ite ?_ ?_
   | refine LeO.bind ?_ (fun _ => ?_)
set_option maxHeartbeats 8000000 in
set_option maxRecDepth 100000 in
theorem ref_ScriptFault.calls (k : Nat) (A0_0 : Option Addr) (c0_0 : Nat) (l0_0 : List (S60)) (A0_1 : Option Addr) (c0_1 : Nat) (l0_1 : List (S72)) (r1 : Int) (r2 : Int) (w : World) (hr0_0 : Kd.C k60 w A0_0 l0_0.length l0_0) (hc0_0 : l0_0.length ≤ c0_0) (hr0_1 : Kd.C k72 w A0_1 l0_1.length l0_1) (hc0_1 : l0_1.length ≤ c0_1) (h : ref_ScriptFault.f k l0_0 l0_1 = some (r1, r2)) :
  Calls Try.prog 20 #[.agg #[.slice A0_0 l0_0.length c0_0, .slice A0_1 l0_1.length c0_1]] w fun e w' => e = .returned (.agg #[.int .i64 r1, .int .i64 r2]) ∧ Below w.heap.size w w' := by
 have hu46 := Try.underlying46
 have hu26 := Try.underlying26
 have hu60 := Try.underlying60
 have hu72 := Try.underlying72
 have HR0_0 := Aside0.mk hr0_0
 have HC0_0 := Aside0.mk hc0_0
 clear hr0_0 hc0_0
 have HR0_1 := Aside0.mk hr0_1
 have HC0_1 := Aside0.mk hc0_1
 clear hr0_1 hc0_1
 have HB := Aside0.mk (Below.refl w.heap.size w)
 have H : (if (l0_0.length : Int) > 8 then ((ref_At.f 2 (-1)).bind fun bt110 => (some (bt110.1, bt110.2))) else (ref_ScriptFault.l0 k 0 l0_0 l0_1)) = some (r1, r2) := h
 clear h
 by_cases c2 : (l0_0.length : Int) > 8
 ·rw [if_pos c2] at H
  have c2b0 : decide (8 < (l0_0.length : Int)) = true := decide_eq_true c2
  have c2b1 : decide (8 < l0_0.length) = true := decide_eq_true (by omega)
  clear c2
  replace H := Option.bind_eq_some_iff.mp H
  obtain ⟨⟨t110, t111⟩, A30, H⟩ := H
  replace H : (some (t110, t111)) = some (r1, r2) := H
  have A3 := Aside0.mk A30
  clear A30
  simp only [Option.some.injEq, Prod.mk.injEq] at H
  obtain ⟨rfl, rfl⟩ := H
  go_enter Try.func20, Try.ntmps20
  go_wp2_with (first | ((with_reducible refine gate_dst (N := 1) rfl ?_); refine qX (N := 1) (cs := #[.slice A0_0 l0_0.length c0_0, .slice A0_1 l0_1.length c0_1]) (t := 46) ?_; intro gb108 hg w4 hbox hb; have n0_ := Aside0.mk (below_step qB hb); have n1_ := Aside0.mk (hbox); have n2_ := Aside0.mk ((qG hg : w.heap.size ≤ gb108)); have n3_ := Aside0.mk ((qG hg : w.heap.size ≤ gb108)); clear HB; have HB := n0_; have BK108 := n1_; have GW108 := n2_; have GE108 := n3_; clear n0_ n1_ n2_ n3_; clear hb hbox hg) | ((with_reducible refine gate_dst (N := 2) rfl ?_); refine qX (N := 2) (cs := #[.int .i64 0, .int .i64 0]) (t := 26) ?_; intro gb109 hg w5 hbox hb; have n0_ := Aside0.mk (blk_below (g := gb108) (o := .cells #[.slice A0_0 l0_0.length c0_0, .slice A0_1 l0_1.length c0_1] 46 (0, 0)) (qK BK108) hb); have n1_ := Aside0.mk (below_step qB hb); have n2_ := Aside0.mk (hbox); have n3_ := Aside0.mk ((qG hg : w.heap.size ≤ gb109)); have n4_ := Aside0.mk ((qG hg : w.heap.size ≤ gb109)); have n5_ := Aside0.mk ((by rw [hg]; exact Nat.ne_of_lt (blk_lt (g := gb108) (o := .cells #[.slice A0_0 l0_0.length c0_0, .slice A0_1 l0_1.length c0_1] 46 (0, 0)) (qK BK108)) : gb108 ≠ gb109)); have n6_ := Aside0.mk ((by rw [hg]; exact Nat.ne_of_gt (blk_lt (g := gb108) (o := .cells #[.slice A0_0 l0_0.length c0_0, .slice A0_1 l0_1.length c0_1] 46 (0, 0)) (qK BK108)) : gb109 ≠ gb108)); clear BK108; clear HB; have BK108 := n0_; have HB := n1_; have BK109 := n2_; have GW109 := n3_; have GE109 := n4_; have NB108_109 := n5_; have NB109_108 := n6_; clear n0_ n1_ n2_ n3_ n4_ n5_ n6_; clear hb hbox hg; have hnb6 := NB108_109.out; have hnc6 := NB109_108.out; have hcz7_0 : w5.cell? ⟨gb108, 0, none⟩ = some (.slice A0_0 l0_0.length c0_0) := (blk_cell BK108.out 0).trans rfl; have hcz7_1 : w5.cell? ⟨gb108, 1, none⟩ = some (.slice A0_1 l0_1.length c0_1) := (blk_cell BK108.out 1).trans rfl; have hfz7_0 := blk_frozen BK108.out 0; have hfz7_1 := blk_frozen BK108.out 1) | (go_at_call 14; (with_reducible refine (ref_At.calls 2 (-1) t110 t111 _ A3.out).mono ?_); rintro e w8 ⟨rfl, hb⟩; have n0_ := Aside0.mk (blk_below (g := gb108) (o := .cells #[.slice A0_0 l0_0.length c0_0, .slice A0_1 l0_1.length c0_1] 46 (0, 0)) (qK BK108) hb); have n1_ := Aside0.mk (blk_below (g := gb109) (o := .cells #[.int .i64 0, .int .i64 0] 26 (0, 0)) (qK BK109) hb); have n2_ := Aside0.mk (below_step qB hb); clear BK108; clear BK109; clear HB; have BK108 := n0_; have BK109 := n1_; have HB := n2_; clear n0_ n1_ n2_; (try clear hb); (try clear hb2); (try clear hk); (try clear hi); have hcz9_0 : w8.cell? ⟨gb109, 0, none⟩ = some (.int .i64 0) := (blk_cell BK109.out 0).trans rfl; have hcz9_1 : w8.cell? ⟨gb109, 1, none⟩ = some (.int .i64 0) := (blk_cell BK109.out 1).trans rfl; have hfz9_0 := blk_frozen BK109.out 0; have hfz9_1 := blk_frozen BK109.out 1))
  repeat (go_quiet (first | ((with_reducible refine gate_dst (N := 1) rfl ?_); refine qX (N := 1) (cs := #[.slice A0_0 l0_0.length c0_0, .slice A0_1 l0_1.length c0_1]) (t := 46) ?_; intro gb108 hg w4 hbox hb; have n0_ := Aside0.mk (below_step qB hb); have n1_ := Aside0.mk (hbox); have n2_ := Aside0.mk ((qG hg : w.heap.size ≤ gb108)); have n3_ := Aside0.mk ((qG hg : w.heap.size ≤ gb108)); clear HB; have HB := n0_; have BK108 := n1_; have GW108 := n2_; have GE108 := n3_; clear n0_ n1_ n2_ n3_; clear hb hbox hg) | ((with_reducible refine gate_dst (N := 2) rfl ?_); refine qX (N := 2) (cs := #[.int .i64 0, .int .i64 0]) (t := 26) ?_; intro gb109 hg w5 hbox hb; have n0_ := Aside0.mk (blk_below (g := gb108) (o := .cells #[.slice A0_0 l0_0.length c0_0, .slice A0_1 l0_1.length c0_1] 46 (0, 0)) (qK BK108) hb); have n1_ := Aside0.mk (below_step qB hb); have n2_ := Aside0.mk (hbox); have n3_ := Aside0.mk ((qG hg : w.heap.size ≤ gb109)); have n4_ := Aside0.mk ((qG hg : w.heap.size ≤ gb109)); have n5_ := Aside0.mk ((by rw [hg]; exact Nat.ne_of_lt (blk_lt (g := gb108) (o := .cells #[.slice A0_0 l0_0.length c0_0, .slice A0_1 l0_1.length c0_1] 46 (0, 0)) (qK BK108)) : gb108 ≠ gb109)); have n6_ := Aside0.mk ((by rw [hg]; exact Nat.ne_of_gt (blk_lt (g := gb108) (o := .cells #[.slice A0_0 l0_0.length c0_0, .slice A0_1 l0_1.length c0_1] 46 (0, 0)) (qK BK108)) : gb109 ≠ gb108)); clear BK108; clear HB; have BK108 := n0_; have HB := n1_; have BK109 := n2_; have GW109 := n3_; have GE109 := n4_; have NB108_109 := n5_; have NB109_108 := n6_; clear n0_ n1_ n2_ n3_ n4_ n5_ n6_; clear hb hbox hg; have hnb6 := NB108_109.out; have hnc6 := NB109_108.out; have hcz7_0 : w5.cell? ⟨gb108, 0, none⟩ = some (.slice A0_0 l0_0.length c0_0) := (blk_cell BK108.out 0).trans rfl; have hcz7_1 : w5.cell? ⟨gb108, 1, none⟩ = some (.slice A0_1 l0_1.length c0_1) := (blk_cell BK108.out 1).trans rfl; have hfz7_0 := blk_frozen BK108.out 0; have hfz7_1 := blk_frozen BK108.out 1) | (go_at_call 14; (with_reducible refine (ref_At.calls 2 (-1) t110 t111 _ A3.out).mono ?_); rintro e w8 ⟨rfl, hb⟩; have n0_ := Aside0.mk (blk_below (g := gb108) (o := .cells #[.slice A0_0 l0_0.length c0_0, .slice A0_1 l0_1.length c0_1] 46 (0, 0)) (qK BK108) hb); have n1_ := Aside0.mk (blk_below (g := gb109) (o := .cells #[.int .i64 0, .int .i64 0] 26 (0, 0)) (qK BK109) hb); have n2_ := Aside0.mk (below_step qB hb); clear BK108; clear BK109; clear HB; have BK108 := n0_; have BK109 := n1_; have HB := n2_; clear n0_ n1_ n2_; (try clear hb); (try clear hb2); (try clear hk); (try clear hi); have hcz9_0 : w8.cell? ⟨gb109, 0, none⟩ = some (.int .i64 0) := (blk_cell BK109.out 0).trans rfl; have hcz9_1 : w8.cell? ⟨gb109, 1, none⟩ = some (.int .i64 0) := (blk_cell BK109.out 1).trans rfl; have hfz9_0 := blk_frozen BK109.out 0; have hfz9_1 := blk_frozen BK109.out 1)); try go_wp2_with (first | ((with_reducible refine gate_dst (N := 1) rfl ?_); refine qX (N := 1) (cs := #[.slice A0_0 l0_0.length c0_0, .slice A0_1 l0_1.length c0_1]) (t := 46) ?_; intro gb108 hg w4 hbox hb; have n0_ := Aside0.mk (below_step qB hb); have n1_ := Aside0.mk (hbox); have n2_ := Aside0.mk ((qG hg : w.heap.size ≤ gb108)); have n3_ := Aside0.mk ((qG hg : w.heap.size ≤ gb108)); clear HB; have HB := n0_; have BK108 := n1_; have GW108 := n2_; have GE108 := n3_; clear n0_ n1_ n2_ n3_; clear hb hbox hg) | ((with_reducible refine gate_dst (N := 2) rfl ?_); refine qX (N := 2) (cs := #[.int .i64 0, .int .i64 0]) (t := 26) ?_; intro gb109 hg w5 hbox hb; have n0_ := Aside0.mk (blk_below (g := gb108) (o := .cells #[.slice A0_0 l0_0.length c0_0, .slice A0_1 l0_1.length c0_1] 46 (0, 0)) (qK BK108) hb); have n1_ := Aside0.mk (below_step qB hb); have n2_ := Aside0.mk (hbox); have n3_ := Aside0.mk ((qG hg : w.heap.size ≤ gb109)); have n4_ := Aside0.mk ((qG hg : w.heap.size ≤ gb109)); have n5_ := Aside0.mk ((by rw [hg]; exact Nat.ne_of_lt (blk_lt (g := gb108) (o := .cells #[.slice A0_0 l0_0.length c0_0, .slice A0_1 l0_1.length c0_1] 46 (0, 0)) (qK BK108)) : gb108 ≠ gb109)); have n6_ := Aside0.mk ((by rw [hg]; exact Nat.ne_of_gt (blk_lt (g := gb108) (o := .cells #[.slice A0_0 l0_0.length c0_0, .slice A0_1 l0_1.length c0_1] 46 (0, 0)) (qK BK108)) : gb109 ≠ gb108)); clear BK108; clear HB; have BK108 := n0_; have HB := n1_; have BK109 := n2_; have GW109 := n3_; have GE109 := n4_; have NB108_109 := n5_; have NB109_108 := n6_; clear n0_ n1_ n2_ n3_ n4_ n5_ n6_; clear hb hbox hg; have hnb6 := NB108_109.out; have hnc6 := NB109_108.out; have hcz7_0 : w5.cell? ⟨gb108, 0, none⟩ = some (.slice A0_0 l0_0.length c0_0) := (blk_cell BK108.out 0).trans rfl; have hcz7_1 : w5.cell? ⟨gb108, 1, none⟩ = some (.slice A0_1 l0_1.length c0_1) := (blk_cell BK108.out 1).trans rfl; have hfz7_0 := blk_frozen BK108.out 0; have hfz7_1 := blk_frozen BK108.out 1) | (go_at_call 14; (with_reducible refine (ref_At.calls 2 (-1) t110 t111 _ A3.out).mono ?_); rintro e w8 ⟨rfl, hb⟩; have n0_ := Aside0.mk (blk_below (g := gb108) (o := .cells #[.slice A0_0 l0_0.length c0_0, .slice A0_1 l0_1.length c0_1] 46 (0, 0)) (qK BK108) hb); have n1_ := Aside0.mk (blk_below (g := gb109) (o := .cells #[.int .i64 0, .int .i64 0] 26 (0, 0)) (qK BK109) hb); have n2_ := Aside0.mk (below_step qB hb); clear BK108; clear BK109; clear HB; have BK108 := n0_; have BK109 := n1_; have HB := n2_; clear n0_ n1_ n2_; (try clear hb); (try clear hb2); (try clear hk); (try clear hi); have hcz9_0 : w8.cell? ⟨gb109, 0, none⟩ = some (.int .i64 0) := (blk_cell BK109.out 0).trans rfl; have hcz9_1 : w8.cell? ⟨gb109, 1, none⟩ = some (.int .i64 0) := (blk_cell BK109.out 1).trans rfl; have hfz9_0 := blk_frozen BK109.out 0; have hfz9_1 := blk_frozen BK109.out 1)))
  refine bodyPost_ret (results_cell_row rfl _ _ gb109 26 #[.int .i64 t110, .int .i64 t111] (0, 0) _ rfl (by (with_reducible repeat (first | refine blk_drewN ?_ _ | refine blk_drew ?_ | refine blk_alloc ?_ _)); refine blk_put (cs := #[.int .i64 t110, .int .i64 0]) ?_ 1 _ rfl; (with_reducible repeat (first | refine blk_drewN ?_ _ | refine blk_drew ?_ | refine blk_alloc ?_ _)); refine blk_put (cs := #[.int .i64 0, .int .i64 0]) ?_ 0 _ rfl; exact qK BK109) Try.underlying26 rfl (by kernel_rfl)) rfl ?_
  exact ⟨qE, qB⟩
 ·rw [if_neg c2] at H
  have c2b0 : decide (8 < (l0_0.length : Int)) = false := decide_eq_false c2
  have c2b1 : decide (8 < l0_0.length) = false := decide_eq_false (by omega)
  clear c2
  have H' := Aside0.mk H
  clear H
  go_enter Try.func20, Try.ntmps20
  go_wp2_with (first | ((with_reducible refine gate_dst (N := 1) rfl ?_); refine qX (N := 1) (cs := #[.slice A0_0 l0_0.length c0_0, .slice A0_1 l0_1.length c0_1]) (t := 46) ?_; intro gb108 hg w10 hbox hb; have n0_ := Aside0.mk (below_step qB hb); have n1_ := Aside0.mk (hbox); have n2_ := Aside0.mk ((qG hg : w.heap.size ≤ gb108)); have n3_ := Aside0.mk ((qG hg : w.heap.size ≤ gb108)); clear HB; have HB := n0_; have BK108 := n1_; have GW108 := n2_; have GE108 := n3_; clear n0_ n1_ n2_ n3_; clear hb hbox hg) | ((with_reducible refine gate_dst (N := 2) rfl ?_); refine qX (N := 2) (cs := #[.int .i64 0, .int .i64 0]) (t := 26) ?_; intro gb109 hg w11 hbox hb; have n0_ := Aside0.mk (blk_below (g := gb108) (o := .cells #[.slice A0_0 l0_0.length c0_0, .slice A0_1 l0_1.length c0_1] 46 (0, 0)) (qK BK108) hb); have n1_ := Aside0.mk (below_step qB hb); have n2_ := Aside0.mk (hbox); have n3_ := Aside0.mk ((qG hg : w.heap.size ≤ gb109)); have n4_ := Aside0.mk ((qG hg : w.heap.size ≤ gb109)); have n5_ := Aside0.mk ((by rw [hg]; exact Nat.ne_of_lt (blk_lt (g := gb108) (o := .cells #[.slice A0_0 l0_0.length c0_0, .slice A0_1 l0_1.length c0_1] 46 (0, 0)) (qK BK108)) : gb108 ≠ gb109)); have n6_ := Aside0.mk ((by rw [hg]; exact Nat.ne_of_gt (blk_lt (g := gb108) (o := .cells #[.slice A0_0 l0_0.length c0_0, .slice A0_1 l0_1.length c0_1] 46 (0, 0)) (qK BK108)) : gb109 ≠ gb108)); clear BK108; clear HB; have BK108 := n0_; have HB := n1_; have BK109 := n2_; have GW109 := n3_; have GE109 := n4_; have NB108_109 := n5_; have NB109_108 := n6_; clear n0_ n1_ n2_ n3_ n4_ n5_ n6_; clear hb hbox hg; have hnb12 := NB108_109.out; have hnc12 := NB109_108.out; have hcz13_0 : w11.cell? ⟨gb108, 0, none⟩ = some (.slice A0_0 l0_0.length c0_0) := (blk_cell BK108.out 0).trans rfl; have hcz13_1 : w11.cell? ⟨gb108, 1, none⟩ = some (.slice A0_1 l0_1.length c0_1) := (blk_cell BK108.out 1).trans rfl; have hfz13_0 := blk_frozen BK108.out 0; have hfz13_1 := blk_frozen BK108.out 1))
  repeat (go_quiet (first | ((with_reducible refine gate_dst (N := 1) rfl ?_); refine qX (N := 1) (cs := #[.slice A0_0 l0_0.length c0_0, .slice A0_1 l0_1.length c0_1]) (t := 46) ?_; intro gb108 hg w10 hbox hb; have n0_ := Aside0.mk (below_step qB hb); have n1_ := Aside0.mk (hbox); have n2_ := Aside0.mk ((qG hg : w.heap.size ≤ gb108)); have n3_ := Aside0.mk ((qG hg : w.heap.size ≤ gb108)); clear HB; have HB := n0_; have BK108 := n1_; have GW108 := n2_; have GE108 := n3_; clear n0_ n1_ n2_ n3_; clear hb hbox hg) | ((with_reducible refine gate_dst (N := 2) rfl ?_); refine qX (N := 2) (cs := #[.int .i64 0, .int .i64 0]) (t := 26) ?_; intro gb109 hg w11 hbox hb; have n0_ := Aside0.mk (blk_below (g := gb108) (o := .cells #[.slice A0_0 l0_0.length c0_0, .slice A0_1 l0_1.length c0_1] 46 (0, 0)) (qK BK108) hb); have n1_ := Aside0.mk (below_step qB hb); have n2_ := Aside0.mk (hbox); have n3_ := Aside0.mk ((qG hg : w.heap.size ≤ gb109)); have n4_ := Aside0.mk ((qG hg : w.heap.size ≤ gb109)); have n5_ := Aside0.mk ((by rw [hg]; exact Nat.ne_of_lt (blk_lt (g := gb108) (o := .cells #[.slice A0_0 l0_0.length c0_0, .slice A0_1 l0_1.length c0_1] 46 (0, 0)) (qK BK108)) : gb108 ≠ gb109)); have n6_ := Aside0.mk ((by rw [hg]; exact Nat.ne_of_gt (blk_lt (g := gb108) (o := .cells #[.slice A0_0 l0_0.length c0_0, .slice A0_1 l0_1.length c0_1] 46 (0, 0)) (qK BK108)) : gb109 ≠ gb108)); clear BK108; clear HB; have BK108 := n0_; have HB := n1_; have BK109 := n2_; have GW109 := n3_; have GE109 := n4_; have NB108_109 := n5_; have NB109_108 := n6_; clear n0_ n1_ n2_ n3_ n4_ n5_ n6_; clear hb hbox hg; have hnb12 := NB108_109.out; have hnc12 := NB109_108.out; have hcz13_0 : w11.cell? ⟨gb108, 0, none⟩ = some (.slice A0_0 l0_0.length c0_0) := (blk_cell BK108.out 0).trans rfl; have hcz13_1 : w11.cell? ⟨gb108, 1, none⟩ = some (.slice A0_1 l0_1.length c0_1) := (blk_cell BK108.out 1).trans rfl; have hfz13_0 := blk_frozen BK108.out 0; have hfz13_1 := blk_frozen BK108.out 1)); try go_wp2_with (first | ((with_reducible refine gate_dst (N := 1) rfl ?_); refine qX (N := 1) (cs := #[.slice A0_0 l0_0.length c0_0, .slice A0_1 l0_1.length c0_1]) (t := 46) ?_; intro gb108 hg w10 hbox hb; have n0_ := Aside0.mk (below_step qB hb); have n1_ := Aside0.mk (hbox); have n2_ := Aside0.mk ((qG hg : w.heap.size ≤ gb108)); have n3_ := Aside0.mk ((qG hg : w.heap.size ≤ gb108)); clear HB; have HB := n0_; have BK108 := n1_; have GW108 := n2_; have GE108 := n3_; clear n0_ n1_ n2_ n3_; clear hb hbox hg) | ((with_reducible refine gate_dst (N := 2) rfl ?_); refine qX (N := 2) (cs := #[.int .i64 0, .int .i64 0]) (t := 26) ?_; intro gb109 hg w11 hbox hb; have n0_ := Aside0.mk (blk_below (g := gb108) (o := .cells #[.slice A0_0 l0_0.length c0_0, .slice A0_1 l0_1.length c0_1] 46 (0, 0)) (qK BK108) hb); have n1_ := Aside0.mk (below_step qB hb); have n2_ := Aside0.mk (hbox); have n3_ := Aside0.mk ((qG hg : w.heap.size ≤ gb109)); have n4_ := Aside0.mk ((qG hg : w.heap.size ≤ gb109)); have n5_ := Aside0.mk ((by rw [hg]; exact Nat.ne_of_lt (blk_lt (g := gb108) (o := .cells #[.slice A0_0 l0_0.length c0_0, .slice A0_1 l0_1.length c0_1] 46 (0, 0)) (qK BK108)) : gb108 ≠ gb109)); have n6_ := Aside0.mk ((by rw [hg]; exact Nat.ne_of_gt (blk_lt (g := gb108) (o := .cells #[.slice A0_0 l0_0.length c0_0, .slice A0_1 l0_1.length c0_1] 46 (0, 0)) (qK BK108)) : gb109 ≠ gb108)); clear BK108; clear HB; have BK108 := n0_; have HB := n1_; have BK109 := n2_; have GW109 := n3_; have GE109 := n4_; have NB108_109 := n5_; have NB109_108 := n6_; clear n0_ n1_ n2_ n3_ n4_ n5_ n6_; clear hb hbox hg; have hnb12 := NB108_109.out; have hnc12 := NB109_108.out; have hcz13_0 : w11.cell? ⟨gb108, 0, none⟩ = some (.slice A0_0 l0_0.length c0_0) := (blk_cell BK108.out 0).trans rfl; have hcz13_1 : w11.cell? ⟨gb108, 1, none⟩ = some (.slice A0_1 l0_1.length c0_1) := (blk_cell BK108.out 1).trans rfl; have hfz13_0 := blk_frozen BK108.out 0; have hfz13_1 := blk_frozen BK108.out 1)))
  go_loopg [3] k (fun kq v3 w' => ∃ (x3_1 : Int) (x110000_1 : Int) (x110001_1 : Int), v3 = .int .i64 x3_1 ∧ Aside0 (ref_ScriptFault.l0 kq x3_1 l0_0 l0_1 = some (r1, r2)) ∧ Aside0 (kq ≤ k) ∧ Aside0 (w'.heap[gb108]? = some (.cells #[(.slice A0_0 l0_0.length c0_0), (.slice A0_1 l0_1.length c0_1)] 46 (0, 0))) ∧ Aside0 (w'.heap[gb109]? = some (.cells #[.int .i64 x110000_1, .int .i64 x110001_1] 26 (0, 0))) ∧ Aside0 (Below w.heap.size w w'))
  case atStart => exact ⟨(0), (0), (0), qF, H', ⟨Nat.le_refl _⟩, ⟨qK BK108⟩, ⟨qK BK109⟩, ⟨qB⟩⟩
  case round =>
   clear H'
   try clear c1
   try clear c2
   try clear c2b0
   try clear c2b1
   try clear p2
   try clear c6
   try clear c12
   try clear hcz13_0
   try clear hcz13_1
   try clear hcz7_0
   try clear hcz7_1
   try clear hcz9_0
   try clear hcz9_1
   try clear hfz13_0
   try clear hfz13_1
   try clear hfz7_0
   try clear hfz7_1
   try clear hfz9_0
   try clear hfz9_1
   obtain ⟨x3_1, x110000_1, x110001_1, rfl, HA, HK1, BK108, BK109, HB⟩ := hrel
   cases gk with
   | zero => exact absurd HA.out (by simp [ref_ScriptFault.l0])
   | succ k1 =>
    have H := HA.out
    clear HA
    simp only [ref_ScriptFault.l0] at H
    by_cases c14 : x3_1 < (l0_0.length : Int)
    ·rw [if_pos c14] at H
     have c14b0 : decide (x3_1 < (l0_0.length : Int)) = true := decide_eq_true c14
     clear c14
     by_cases c15 : 0 ≤ x3_1
     ·rw [if_pos c15] at H
      have c15b0 : decide (0 ≤ x3_1) = true := decide_eq_true c15
      clear c15
      replace H := Option.bind_eq_some_iff.mp H
      obtain ⟨t114, A160, H⟩ := H
      replace H : (if t114 = true then (ref_ScriptFault.l1 k1 x3_1 0 l0_0 l0_1 ((rd_T60 l0_0 x3_1).f0) ((rd_T60 l0_0 x3_1).f1) ((rd_T60 l0_0 x3_1).f2) ((rd_T60 l0_0 x3_1).f3)) else ((ref_At.f 12 x3_1).bind fun bt115 => (some (bt115.1, bt115.2)))) = some (r1, r2) := H
      have A16 := Aside0.mk A160
      clear A160
      by_cases c17 : t114 = true
      ·subst c17
       have H1 : (ref_ScriptFault.l1 k1 x3_1 0 l0_0 l0_1 ((rd_T60 l0_0 x3_1).f0) ((rd_T60 l0_0 x3_1).f1) ((rd_T60 l0_0 x3_1).f2) ((rd_T60 l0_0 x3_1).f3)) = some (r1, r2) := by rw [if_pos rfl] at H; exact H
       clear H
       have H := H1
       clear H1
       have H' := Aside0.mk H
       clear H
       have hnb18 := NB108_109.out
       have hnc18 := NB109_108.out
       have hcz19_0 : wr.cell? ⟨gb108, 0, none⟩ = some (.slice A0_0 l0_0.length c0_0) := (blk_cell BK108.out 0).trans rfl
       have hcz19_1 : wr.cell? ⟨gb108, 1, none⟩ = some (.slice A0_1 l0_1.length c0_1) := (blk_cell BK108.out 1).trans rfl
       have hfz19_0 := blk_frozen BK108.out 0
       have hfz19_1 := blk_frozen BK108.out 1
       have p112 : 0 ≤ (x3_1 : Int) := of_decide_eq_true qO
       have q112 : x3_1 < (l0_0.length : Int) := of_decide_eq_true qO
       obtain ⟨ad112, e112, hx112_0, hx112_1, hx112_2, hx112_3⟩ := at_T60 HR0_0.out x3_1 p112 q112
       cases e112
       replace hx112_0 := (HB.out.cell (World.block_lt_of_cell? w _ hx112_0)).trans hx112_0
       replace hx112_1 := (HB.out.cell (World.block_lt_of_cell? w _ hx112_1)).trans hx112_1
       replace hx112_2 := (HB.out.cell (World.block_lt_of_cell? w _ hx112_2)).trans hx112_2
       replace hx112_3 := (HB.out.cell (World.block_lt_of_cell? w _ hx112_3)).trans hx112_3
       replace p112 := eq_true p112
       replace q112 := eq_true q112
       go_wp2_with (first | ((with_reducible refine gate_dst (N := 4) rfl ?_); refine qX (N := 4) (cs := #[.string (⟨#[]⟩ : ByteArray), .int .i64 0, .int .i64 0, .int .i64 0]) (t := 60) ?_; intro gb113 hg w20 hbox hb; have n0_ := Aside0.mk (blk_below (g := gb108) (o := .cells #[.slice (some ad112) l0_0.length c0_0, .slice A0_1 l0_1.length c0_1] 46 (0, 0)) (qK BK108) hb); have n1_ := Aside0.mk (blk_below (g := gb109) (o := .cells #[.int .i64 x110000_1, .int .i64 x110001_1] 26 (0, 0)) (qK BK109) hb); have n2_ := Aside0.mk (below_step qB hb); have n3_ := Aside0.mk (hbox); have n4_ := Aside0.mk ((qG hg : w.heap.size ≤ gb113)); have n5_ := Aside0.mk ((qG hg : w.heap.size ≤ gb113)); have n6_ := Aside0.mk ((by rw [hg]; exact Nat.ne_of_lt (blk_lt (g := gb108) (o := .cells #[.slice (some ad112) l0_0.length c0_0, .slice A0_1 l0_1.length c0_1] 46 (0, 0)) (qK BK108)) : gb108 ≠ gb113)); have n7_ := Aside0.mk ((by rw [hg]; exact Nat.ne_of_gt (blk_lt (g := gb108) (o := .cells #[.slice (some ad112) l0_0.length c0_0, .slice A0_1 l0_1.length c0_1] 46 (0, 0)) (qK BK108)) : gb113 ≠ gb108)); have n8_ := Aside0.mk ((by rw [hg]; exact Nat.ne_of_lt (blk_lt (g := gb109) (o := .cells #[.int .i64 x110000_1, .int .i64 x110001_1] 26 (0, 0)) (qK BK109)) : gb109 ≠ gb113)); have n9_ := Aside0.mk ((by rw [hg]; exact Nat.ne_of_gt (blk_lt (g := gb109) (o := .cells #[.int .i64 x110000_1, .int .i64 x110001_1] 26 (0, 0)) (qK BK109)) : gb113 ≠ gb109)); clear BK108; clear BK109; clear HB; have BK108 := n0_; have BK109 := n1_; have HB := n2_; have BK113 := n3_; have GW113 := n4_; have GE113 := n5_; have NB108_113 := n6_; have NB113_108 := n7_; have NB109_113 := n8_; have NB113_109 := n9_; clear n0_ n1_ n2_ n3_ n4_ n5_ n6_ n7_ n8_ n9_; clear hb hbox hg; have hnb21 := NB113_108.out; have hnc21 := NB108_113.out; have hnb22 := NB113_109.out; have hnc22 := NB109_113.out; have hcz23_0 : w20.cell? ⟨gb113, 0, none⟩ = some (.string (⟨#[]⟩ : ByteArray)) := (blk_cell BK113.out 0).trans rfl; have hcz23_1 : w20.cell? ⟨gb113, 1, none⟩ = some (.int .i64 0) := (blk_cell BK113.out 1).trans rfl; have hcz23_2 : w20.cell? ⟨gb113, 2, none⟩ = some (.int .i64 0) := (blk_cell BK113.out 2).trans rfl; have hcz23_3 : w20.cell? ⟨gb113, 3, none⟩ = some (.int .i64 0) := (blk_cell BK113.out 3).trans rfl; have hfz23_0 := blk_frozen BK113.out 0; have hfz23_1 := blk_frozen BK113.out 1; have hfz23_2 := blk_frozen BK113.out 2; have hfz23_3 := blk_frozen BK113.out 3) | (go_at_call 34; (with_reducible refine (ref_NameOk.calls k1 ((rd_T60 l0_0 x3_1).f0) true _ A16.out).mono ?_); rintro e w' ⟨rfl, ⟨nd, rfl⟩⟩; (try exact qD)))
       repeat (go_quiet (first | ((with_reducible refine gate_dst (N := 4) rfl ?_); refine qX (N := 4) (cs := #[.string (⟨#[]⟩ : ByteArray), .int .i64 0, .int .i64 0, .int .i64 0]) (t := 60) ?_; intro gb113 hg w20 hbox hb; have n0_ := Aside0.mk (blk_below (g := gb108) (o := .cells #[.slice (some ad112) l0_0.length c0_0, .slice A0_1 l0_1.length c0_1] 46 (0, 0)) (qK BK108) hb); have n1_ := Aside0.mk (blk_below (g := gb109) (o := .cells #[.int .i64 x110000_1, .int .i64 x110001_1] 26 (0, 0)) (qK BK109) hb); have n2_ := Aside0.mk (below_step qB hb); have n3_ := Aside0.mk (hbox); have n4_ := Aside0.mk ((qG hg : w.heap.size ≤ gb113)); have n5_ := Aside0.mk ((qG hg : w.heap.size ≤ gb113)); have n6_ := Aside0.mk ((by rw [hg]; exact Nat.ne_of_lt (blk_lt (g := gb108) (o := .cells #[.slice (some ad112) l0_0.length c0_0, .slice A0_1 l0_1.length c0_1] 46 (0, 0)) (qK BK108)) : gb108 ≠ gb113)); have n7_ := Aside0.mk ((by rw [hg]; exact Nat.ne_of_gt (blk_lt (g := gb108) (o := .cells #[.slice (some ad112) l0_0.length c0_0, .slice A0_1 l0_1.length c0_1] 46 (0, 0)) (qK BK108)) : gb113 ≠ gb108)); have n8_ := Aside0.mk ((by rw [hg]; exact Nat.ne_of_lt (blk_lt (g := gb109) (o := .cells #[.int .i64 x110000_1, .int .i64 x110001_1] 26 (0, 0)) (qK BK109)) : gb109 ≠ gb113)); have n9_ := Aside0.mk ((by rw [hg]; exact Nat.ne_of_gt (blk_lt (g := gb109) (o := .cells #[.int .i64 x110000_1, .int .i64 x110001_1] 26 (0, 0)) (qK BK109)) : gb113 ≠ gb109)); clear BK108; clear BK109; clear HB; have BK108 := n0_; have BK109 := n1_; have HB := n2_; have BK113 := n3_; have GW113 := n4_; have GE113 := n5_; have NB108_113 := n6_; have NB113_108 := n7_; have NB109_113 := n8_; have NB113_109 := n9_; clear n0_ n1_ n2_ n3_ n4_ n5_ n6_ n7_ n8_ n9_; clear hb hbox hg; have hnb21 := NB113_108.out; have hnc21 := NB108_113.out; have hnb22 := NB113_109.out; have hnc22 := NB109_113.out; have hcz23_0 : w20.cell? ⟨gb113, 0, none⟩ = some (.string (⟨#[]⟩ : ByteArray)) := (blk_cell BK113.out 0).trans rfl; have hcz23_1 : w20.cell? ⟨gb113, 1, none⟩ = some (.int .i64 0) := (blk_cell BK113.out 1).trans rfl; have hcz23_2 : w20.cell? ⟨gb113, 2, none⟩ = some (.int .i64 0) := (blk_cell BK113.out 2).trans rfl; have hcz23_3 : w20.cell? ⟨gb113, 3, none⟩ = some (.int .i64 0) := (blk_cell BK113.out 3).trans rfl; have hfz23_0 := blk_frozen BK113.out 0; have hfz23_1 := blk_frozen BK113.out 1; have hfz23_2 := blk_frozen BK113.out 2; have hfz23_3 := blk_frozen BK113.out 3) | (go_at_call 34; (with_reducible refine (ref_NameOk.calls k1 ((rd_T60 l0_0 x3_1).f0) true _ A16.out).mono ?_); rintro e w' ⟨rfl, ⟨nd, rfl⟩⟩; (try exact qD))); try go_wp2_with (first | ((with_reducible refine gate_dst (N := 4) rfl ?_); refine qX (N := 4) (cs := #[.string (⟨#[]⟩ : ByteArray), .int .i64 0, .int .i64 0, .int .i64 0]) (t := 60) ?_; intro gb113 hg w20 hbox hb; have n0_ := Aside0.mk (blk_below (g := gb108) (o := .cells #[.slice (some ad112) l0_0.length c0_0, .slice A0_1 l0_1.length c0_1] 46 (0, 0)) (qK BK108) hb); have n1_ := Aside0.mk (blk_below (g := gb109) (o := .cells #[.int .i64 x110000_1, .int .i64 x110001_1] 26 (0, 0)) (qK BK109) hb); have n2_ := Aside0.mk (below_step qB hb); have n3_ := Aside0.mk (hbox); have n4_ := Aside0.mk ((qG hg : w.heap.size ≤ gb113)); have n5_ := Aside0.mk ((qG hg : w.heap.size ≤ gb113)); have n6_ := Aside0.mk ((by rw [hg]; exact Nat.ne_of_lt (blk_lt (g := gb108) (o := .cells #[.slice (some ad112) l0_0.length c0_0, .slice A0_1 l0_1.length c0_1] 46 (0, 0)) (qK BK108)) : gb108 ≠ gb113)); have n7_ := Aside0.mk ((by rw [hg]; exact Nat.ne_of_gt (blk_lt (g := gb108) (o := .cells #[.slice (some ad112) l0_0.length c0_0, .slice A0_1 l0_1.length c0_1] 46 (0, 0)) (qK BK108)) : gb113 ≠ gb108)); have n8_ := Aside0.mk ((by rw [hg]; exact Nat.ne_of_lt (blk_lt (g := gb109) (o := .cells #[.int .i64 x110000_1, .int .i64 x110001_1] 26 (0, 0)) (qK BK109)) : gb109 ≠ gb113)); have n9_ := Aside0.mk ((by rw [hg]; exact Nat.ne_of_gt (blk_lt (g := gb109) (o := .cells #[.int .i64 x110000_1, .int .i64 x110001_1] 26 (0, 0)) (qK BK109)) : gb113 ≠ gb109)); clear BK108; clear BK109; clear HB; have BK108 := n0_; have BK109 := n1_; have HB := n2_; have BK113 := n3_; have GW113 := n4_; have GE113 := n5_; have NB108_113 := n6_; have NB113_108 := n7_; have NB109_113 := n8_; have NB113_109 := n9_; clear n0_ n1_ n2_ n3_ n4_ n5_ n6_ n7_ n8_ n9_; clear hb hbox hg; have hnb21 := NB113_108.out; have hnc21 := NB108_113.out; have hnb22 := NB113_109.out; have hnc22 := NB109_113.out; have hcz23_0 : w20.cell? ⟨gb113, 0, none⟩ = some (.string (⟨#[]⟩ : ByteArray)) := (blk_cell BK113.out 0).trans rfl; have hcz23_1 : w20.cell? ⟨gb113, 1, none⟩ = some (.int .i64 0) := (blk_cell BK113.out 1).trans rfl; have hcz23_2 : w20.cell? ⟨gb113, 2, none⟩ = some (.int .i64 0) := (blk_cell BK113.out 2).trans rfl; have hcz23_3 : w20.cell? ⟨gb113, 3, none⟩ = some (.int .i64 0) := (blk_cell BK113.out 3).trans rfl; have hfz23_0 := blk_frozen BK113.out 0; have hfz23_1 := blk_frozen BK113.out 1; have hfz23_2 := blk_frozen BK113.out 2; have hfz23_3 := blk_frozen BK113.out 3) | (go_at_call 34; (with_reducible refine (ref_NameOk.calls k1 ((rd_T60 l0_0 x3_1).f0) true _ A16.out).mono ?_); rintro e w' ⟨rfl, ⟨nd, rfl⟩⟩; (try exact qD))))
       go_loopg [5] k1 (fun kq v5 w' => ∃ (x5_2 : Int) (x110000_2 : Int) (x110001_2 : Int), v5 = .int .i64 x5_2 ∧ Aside0 (ref_ScriptFault.l1 kq x3_1 x5_2 l0_0 l0_1 ((rd_T60 l0_0 x3_1).f0) ((rd_T60 l0_0 x3_1).f1) ((rd_T60 l0_0 x3_1).f2) ((rd_T60 l0_0 x3_1).f3) = some (r1, r2)) ∧ Aside0 (kq ≤ k1) ∧ Aside0 (w'.heap[gb108]? = some (.cells #[(.slice (some ad112) l0_0.length c0_0), (.slice A0_1 l0_1.length c0_1)] 46 (0, 0))) ∧ Aside0 (w'.heap[gb109]? = some (.cells #[.int .i64 x110000_2, .int .i64 x110001_2] 26 (0, 0))) ∧ Aside0 (w'.heap[gb113]? = some (.cells #[.string ((rd_T60 l0_0 x3_1).f0), .int .i64 ((rd_T60 l0_0 x3_1).f1), .int .i64 ((rd_T60 l0_0 x3_1).f2), .int .i64 ((rd_T60 l0_0 x3_1).f3)] 60 (0, 0))) ∧ Aside0 (Below w.heap.size w w'))
       case atStart => exact ⟨(0), (x110000_1), (x110001_1), qF, H', ⟨Nat.le_refl _⟩, ⟨by (with_reducible repeat (first | refine blk_drewN ?_ _ | refine blk_drew ?_ | refine blk_alloc ?_ _)); refine blk_far ?_ NB108_113.out _; (with_reducible repeat (first | refine blk_drewN ?_ _ | refine blk_drew ?_ | refine blk_alloc ?_ _)); refine blk_far ?_ NB108_113.out _; (with_reducible repeat (first | refine blk_drewN ?_ _ | refine blk_drew ?_ | refine blk_alloc ?_ _)); refine blk_far ?_ NB108_113.out _; (with_reducible repeat (first | refine blk_drewN ?_ _ | refine blk_drew ?_ | refine blk_alloc ?_ _)); refine blk_far ?_ NB108_113.out _; exact qK BK108⟩, ⟨by (with_reducible repeat (first | refine blk_drewN ?_ _ | refine blk_drew ?_ | refine blk_alloc ?_ _)); refine blk_far ?_ NB109_113.out _; (with_reducible repeat (first | refine blk_drewN ?_ _ | refine blk_drew ?_ | refine blk_alloc ?_ _)); refine blk_far ?_ NB109_113.out _; (with_reducible repeat (first | refine blk_drewN ?_ _ | refine blk_drew ?_ | refine blk_alloc ?_ _)); refine blk_far ?_ NB109_113.out _; (with_reducible repeat (first | refine blk_drewN ?_ _ | refine blk_drew ?_ | refine blk_alloc ?_ _)); refine blk_far ?_ NB109_113.out _; exact qK BK109⟩, ⟨by (with_reducible repeat (first | refine blk_drewN ?_ _ | refine blk_drew ?_ | refine blk_alloc ?_ _)); refine blk_put (cs := #[.string ((rd_T60 l0_0 x3_1).f0), .int .i64 ((rd_T60 l0_0 x3_1).f1), .int .i64 ((rd_T60 l0_0 x3_1).f2), .int .i64 0]) ?_ 3 _ rfl; (with_reducible repeat (first | refine blk_drewN ?_ _ | refine blk_drew ?_ | refine blk_alloc ?_ _)); refine blk_put (cs := #[.string ((rd_T60 l0_0 x3_1).f0), .int .i64 ((rd_T60 l0_0 x3_1).f1), .int .i64 0, .int .i64 0]) ?_ 2 _ rfl; (with_reducible repeat (first | refine blk_drewN ?_ _ | refine blk_drew ?_ | refine blk_alloc ?_ _)); refine blk_put (cs := #[.string ((rd_T60 l0_0 x3_1).f0), .int .i64 0, .int .i64 0, .int .i64 0]) ?_ 1 _ rfl; (with_reducible repeat (first | refine blk_drewN ?_ _ | refine blk_drew ?_ | refine blk_alloc ?_ _)); refine blk_put (cs := #[.string (⟨#[]⟩ : ByteArray), .int .i64 0, .int .i64 0, .int .i64 0]) ?_ 0 _ rfl; exact qK BK113⟩, ⟨qB⟩⟩
       case round =>
        clear H'
        try clear c1
        try clear p1
        try clear q1
        try clear hx1
        try clear c2
        try clear c2b0
        try clear c2b1
        try clear p2
        try clear c6
        try clear p11
        try clear q11
        try clear hx11
        try clear c12
        try clear c14
        try clear c14b0
        try clear c15
        try clear c15b0
        try clear c17
        try clear c18
        try clear c20
        try clear c21
        try clear c22
        try clear hcz13_0
        try clear hcz13_1
        try clear hcz19_0
        try clear hcz19_1
        try clear hcz23_0
        try clear hcz23_1
        try clear hcz23_2
        try clear hcz23_3
        try clear hcz7_0
        try clear hcz7_1
        try clear hcz9_0
        try clear hcz9_1
        try clear hfz13_0
        try clear hfz13_1
        try clear hfz19_0
        try clear hfz19_1
        try clear hfz23_0
        try clear hfz23_1
        try clear hfz23_2
        try clear hfz23_3
        try clear hfz7_0
        try clear hfz7_1
        try clear hfz9_0
        try clear hfz9_1
        try clear hx112_0
        try clear hx112_1
        try clear hx112_2
        try clear hx112_3
        try clear p112
        try clear p2
        try clear q112
        obtain ⟨x5_2, x110000_2, x110001_2, rfl, HA, HK2, BK108, BK109, BK113, HB⟩ := hrel
        cases gk with
        | zero => exact absurd HA.out (by simp [ref_ScriptFault.l1])
        | succ k2 =>
         have H := HA.out
         clear HA
         simp only [ref_ScriptFault.l1] at H
         by_cases c24 : x5_2 < x3_1
         ·rw [if_pos c24] at H
          have c24b0 : decide (x5_2 < x3_1) = true := decide_eq_true c24
          clear c24
          by_cases c25 : 0 ≤ x5_2
          ·rw [if_pos c25] at H
           have c25b0 : decide (0 ≤ x5_2) = true := decide_eq_true c25
           clear c25
           by_cases c26 : x5_2 < (l0_0.length : Int)
           ·rw [if_pos c26] at H
            have c26b0 : decide (x5_2 < (l0_0.length : Int)) = true := decide_eq_true c26
            clear c26
            by_cases c27 : ((rd_T60 l0_0 x5_2).f0).toList = ((rd_T60 l0_0 x3_1).f0).toList
            ·rw [if_pos c27] at H
             have c27b0 : (((rd_T60 l0_0 x5_2).f0).toList == ((rd_T60 l0_0 x3_1).f0).toList) = true := beq_iff_eq.mpr c27
             have c27b1 : (((rd_T60 l0_0 x5_2).f0).toList != ((rd_T60 l0_0 x3_1).f0).toList) = false := bne_eq_false_iff_eq.mpr c27
             clear c27
             replace H := Option.bind_eq_some_iff.mp H
             obtain ⟨⟨t118, t119⟩, A280, H⟩ := H
             replace H : (some (t118, t119)) = some (r1, r2) := H
             have A28 := Aside0.mk A280
             clear A280
             simp only [Option.some.injEq, Prod.mk.injEq] at H
             obtain ⟨rfl, rfl⟩ := H
             have hnb29 := NB108_109.out
             have hnc29 := NB109_108.out
             have hnb30 := NB108_113.out
             have hnc30 := NB113_108.out
             have hcz31_0 : wr.cell? ⟨gb108, 0, none⟩ = some (.slice (some ad112) l0_0.length c0_0) := (blk_cell BK108.out 0).trans rfl
             have hcz31_1 : wr.cell? ⟨gb108, 1, none⟩ = some (.slice A0_1 l0_1.length c0_1) := (blk_cell BK108.out 1).trans rfl
             have hfz31_0 := blk_frozen BK108.out 0
             have hfz31_1 := blk_frozen BK108.out 1
             have p117 : 0 ≤ (x5_2 : Int) := of_decide_eq_true qO
             have q117 : x5_2 < (l0_0.length : Int) := of_decide_eq_true qO
             obtain ⟨ad117, e117, hx117_0, hx117_1, hx117_2, hx117_3⟩ := at_T60 HR0_0.out x5_2 p117 q117
             obtain rfl : ad112 = ad117 := (by injection e117)
             replace hx117_0 := (HB.out.cell (World.block_lt_of_cell? w _ hx117_0)).trans hx117_0
             replace hx117_1 := (HB.out.cell (World.block_lt_of_cell? w _ hx117_1)).trans hx117_1
             replace hx117_2 := (HB.out.cell (World.block_lt_of_cell? w _ hx117_2)).trans hx117_2
             replace hx117_3 := (HB.out.cell (World.block_lt_of_cell? w _ hx117_3)).trans hx117_3
             replace p117 := eq_true p117
             replace q117 := eq_true q117
             have hnb32 := NB113_109.out
             have hnc32 := NB109_113.out
             have hcz33_0 : wr.cell? ⟨gb113, 0, none⟩ = some (.string ((rd_T60 l0_0 x3_1).f0)) := (blk_cell BK113.out 0).trans rfl
             have hcz33_1 : wr.cell? ⟨gb113, 1, none⟩ = some (.int .i64 ((rd_T60 l0_0 x3_1).f1)) := (blk_cell BK113.out 1).trans rfl
             have hcz33_2 : wr.cell? ⟨gb113, 2, none⟩ = some (.int .i64 ((rd_T60 l0_0 x3_1).f2)) := (blk_cell BK113.out 2).trans rfl
             have hcz33_3 : wr.cell? ⟨gb113, 3, none⟩ = some (.int .i64 ((rd_T60 l0_0 x3_1).f3)) := (blk_cell BK113.out 3).trans rfl
             have hfz33_0 := blk_frozen BK113.out 0
             have hfz33_1 := blk_frozen BK113.out 1
             have hfz33_2 := blk_frozen BK113.out 2
             have hfz33_3 := blk_frozen BK113.out 3
             go_wp2_with (first | (go_at_call 14; (with_reducible refine (ref_At.calls 7 x3_1 t118 t119 _ A28.out).mono ?_); rintro e w34 ⟨rfl, hb⟩; have n0_ := Aside0.mk (blk_below (g := gb108) (o := .cells #[.slice (some ad112) l0_0.length c0_0, .slice A0_1 l0_1.length c0_1] 46 (0, 0)) (qK BK108) hb); have n1_ := Aside0.mk (blk_below (g := gb109) (o := .cells #[.int .i64 x110000_2, .int .i64 x110001_2] 26 (0, 0)) (qK BK109) hb); have n2_ := Aside0.mk (blk_below (g := gb113) (o := .cells #[.string ((rd_T60 l0_0 x3_1).f0), .int .i64 ((rd_T60 l0_0 x3_1).f1), .int .i64 ((rd_T60 l0_0 x3_1).f2), .int .i64 ((rd_T60 l0_0 x3_1).f3)] 60 (0, 0)) (qK BK113) hb); have n3_ := Aside0.mk (below_step qB hb); clear BK108; clear BK109; clear BK113; clear HB; have BK108 := n0_; have BK109 := n1_; have BK113 := n2_; have HB := n3_; clear n0_ n1_ n2_ n3_; (try clear hb); (try clear hb2); (try clear hk); (try clear hi); have hcz35_0 : w34.cell? ⟨gb109, 0, none⟩ = some (.int .i64 x110000_2) := (blk_cell BK109.out 0).trans rfl; have hcz35_1 : w34.cell? ⟨gb109, 1, none⟩ = some (.int .i64 x110001_2) := (blk_cell BK109.out 1).trans rfl; have hfz35_0 := blk_frozen BK109.out 0; have hfz35_1 := blk_frozen BK109.out 1))
             repeat (go_quiet (first | (go_at_call 14; (with_reducible refine (ref_At.calls 7 x3_1 t118 t119 _ A28.out).mono ?_); rintro e w34 ⟨rfl, hb⟩; have n0_ := Aside0.mk (blk_below (g := gb108) (o := .cells #[.slice (some ad112) l0_0.length c0_0, .slice A0_1 l0_1.length c0_1] 46 (0, 0)) (qK BK108) hb); have n1_ := Aside0.mk (blk_below (g := gb109) (o := .cells #[.int .i64 x110000_2, .int .i64 x110001_2] 26 (0, 0)) (qK BK109) hb); have n2_ := Aside0.mk (blk_below (g := gb113) (o := .cells #[.string ((rd_T60 l0_0 x3_1).f0), .int .i64 ((rd_T60 l0_0 x3_1).f1), .int .i64 ((rd_T60 l0_0 x3_1).f2), .int .i64 ((rd_T60 l0_0 x3_1).f3)] 60 (0, 0)) (qK BK113) hb); have n3_ := Aside0.mk (below_step qB hb); clear BK108; clear BK109; clear BK113; clear HB; have BK108 := n0_; have BK109 := n1_; have BK113 := n2_; have HB := n3_; clear n0_ n1_ n2_ n3_; (try clear hb); (try clear hb2); (try clear hk); (try clear hi); have hcz35_0 : w34.cell? ⟨gb109, 0, none⟩ = some (.int .i64 x110000_2) := (blk_cell BK109.out 0).trans rfl; have hcz35_1 : w34.cell? ⟨gb109, 1, none⟩ = some (.int .i64 x110001_2) := (blk_cell BK109.out 1).trans rfl; have hfz35_0 := blk_frozen BK109.out 0; have hfz35_1 := blk_frozen BK109.out 1)); try go_wp2_with (first | (go_at_call 14; (with_reducible refine (ref_At.calls 7 x3_1 t118 t119 _ A28.out).mono ?_); rintro e w34 ⟨rfl, hb⟩; have n0_ := Aside0.mk (blk_below (g := gb108) (o := .cells #[.slice (some ad112) l0_0.length c0_0, .slice A0_1 l0_1.length c0_1] 46 (0, 0)) (qK BK108) hb); have n1_ := Aside0.mk (blk_below (g := gb109) (o := .cells #[.int .i64 x110000_2, .int .i64 x110001_2] 26 (0, 0)) (qK BK109) hb); have n2_ := Aside0.mk (blk_below (g := gb113) (o := .cells #[.string ((rd_T60 l0_0 x3_1).f0), .int .i64 ((rd_T60 l0_0 x3_1).f1), .int .i64 ((rd_T60 l0_0 x3_1).f2), .int .i64 ((rd_T60 l0_0 x3_1).f3)] 60 (0, 0)) (qK BK113) hb); have n3_ := Aside0.mk (below_step qB hb); clear BK108; clear BK109; clear BK113; clear HB; have BK108 := n0_; have BK109 := n1_; have BK113 := n2_; have HB := n3_; clear n0_ n1_ n2_ n3_; (try clear hb); (try clear hb2); (try clear hk); (try clear hi); have hcz35_0 : w34.cell? ⟨gb109, 0, none⟩ = some (.int .i64 x110000_2) := (blk_cell BK109.out 0).trans rfl; have hcz35_1 : w34.cell? ⟨gb109, 1, none⟩ = some (.int .i64 x110001_2) := (blk_cell BK109.out 1).trans rfl; have hfz35_0 := blk_frozen BK109.out 0; have hfz35_1 := blk_frozen BK109.out 1)))
             refine bodyPost_ret (results_cell_row rfl _ _ gb109 26 #[.int .i64 t118, .int .i64 t119] (0, 0) _ rfl (by (with_reducible repeat (first | refine blk_drewN ?_ _ | refine blk_drew ?_ | refine blk_alloc ?_ _)); refine blk_put (cs := #[.int .i64 t118, .int .i64 x110001_2]) ?_ 1 _ rfl; (with_reducible repeat (first | refine blk_drewN ?_ _ | refine blk_drew ?_ | refine blk_alloc ?_ _)); refine blk_put (cs := #[.int .i64 x110000_2, .int .i64 x110001_2]) ?_ 0 _ rfl; exact qK BK109) Try.underlying26 rfl (by kernel_rfl)) rfl ?_
             exact ⟨qE, qB⟩
            ·rw [if_neg c27] at H
             have c27b0 : (((rd_T60 l0_0 x5_2).f0).toList == ((rd_T60 l0_0 x3_1).f0).toList) = false := beq_eq_false_iff_ne.mpr c27
             have c27b1 : (((rd_T60 l0_0 x5_2).f0).toList != ((rd_T60 l0_0 x3_1).f0).toList) = true := bne_iff_ne.mpr c27
             have H' := Aside0.mk H
             clear H
             have hnb36 := NB108_109.out
             have hnc36 := NB109_108.out
             have hnb37 := NB108_113.out
             have hnc37 := NB113_108.out
             have hcz38_0 : wr.cell? ⟨gb108, 0, none⟩ = some (.slice (some ad112) l0_0.length c0_0) := (blk_cell BK108.out 0).trans rfl
             have hcz38_1 : wr.cell? ⟨gb108, 1, none⟩ = some (.slice A0_1 l0_1.length c0_1) := (blk_cell BK108.out 1).trans rfl
             have hfz38_0 := blk_frozen BK108.out 0
             have hfz38_1 := blk_frozen BK108.out 1
             have p117 : 0 ≤ (x5_2 : Int) := of_decide_eq_true qO
             have q117 : x5_2 < (l0_0.length : Int) := of_decide_eq_true qO
             obtain ⟨ad117, e117, hx117_0, hx117_1, hx117_2, hx117_3⟩ := at_T60 HR0_0.out x5_2 p117 q117
             obtain rfl : ad112 = ad117 := (by injection e117)
             replace hx117_0 := (HB.out.cell (World.block_lt_of_cell? w _ hx117_0)).trans hx117_0
             replace hx117_1 := (HB.out.cell (World.block_lt_of_cell? w _ hx117_1)).trans hx117_1
             replace hx117_2 := (HB.out.cell (World.block_lt_of_cell? w _ hx117_2)).trans hx117_2
             replace hx117_3 := (HB.out.cell (World.block_lt_of_cell? w _ hx117_3)).trans hx117_3
             replace p117 := eq_true p117
             replace q117 := eq_true q117
             have hnb39 := NB113_109.out
             have hnc39 := NB109_113.out
             have hcz40_0 : wr.cell? ⟨gb113, 0, none⟩ = some (.string ((rd_T60 l0_0 x3_1).f0)) := (blk_cell BK113.out 0).trans rfl
             have hcz40_1 : wr.cell? ⟨gb113, 1, none⟩ = some (.int .i64 ((rd_T60 l0_0 x3_1).f1)) := (blk_cell BK113.out 1).trans rfl
             have hcz40_2 : wr.cell? ⟨gb113, 2, none⟩ = some (.int .i64 ((rd_T60 l0_0 x3_1).f2)) := (blk_cell BK113.out 2).trans rfl
             have hcz40_3 : wr.cell? ⟨gb113, 3, none⟩ = some (.int .i64 ((rd_T60 l0_0 x3_1).f3)) := (blk_cell BK113.out 3).trans rfl
             have hfz40_0 := blk_frozen BK113.out 0
             have hfz40_1 := blk_frozen BK113.out 1
             have hfz40_2 := blk_frozen BK113.out 2
             have hfz40_3 := blk_frozen BK113.out 3
             go_wp2
             repeat (go_quiet (fail); try go_wp2)
             go_roundg k2
             case measure => have := HK1.out; have := HK2.out; omega
             case rel => exact ⟨(wrap64 (x5_2 + 1)), (x110000_2), (x110001_2), qF, H', ⟨by have := HK1.out; have := HK2.out; omega⟩, ⟨qK BK108⟩, ⟨qK BK109⟩, ⟨qK BK113⟩, ⟨qB⟩⟩
           ·rw [if_neg c26] at H
            exact absurd H (by simp)
          ·rw [if_neg c25] at H
           exact absurd H (by simp)
         ·rw [if_neg c24] at H
          have c24b0 : decide (x5_2 < x3_1) = false := decide_eq_false c24
          clear c24
          by_cases c41 : ((rd_T60 l0_0 x3_1).f1) = (-1)
          ·rw [if_pos c41] at H
           have c41b0 : (((rd_T60 l0_0 x3_1).f1) == (-1)) = true := beq_iff_eq.mpr c41
           have c41b1 : (((rd_T60 l0_0 x3_1).f1) != (-1)) = false := bne_eq_false_iff_eq.mpr c41
           clear c41
           replace H := Option.bind_eq_some_iff.mp H
           obtain ⟨t120, A420, H⟩ := H
           replace H : (if t120 = true then ((ref_In.f ((rd_T60 l0_0 x3_1).f3) 1 7).bind fun t121 => (if t121 = true then (ref_ScriptFault.l0 k2 (wrap64 (x3_1 + 1)) l0_0 l0_1) else ((ref_At.f 3 x3_1).bind fun bt122 => (some (bt122.1, bt122.2))))) else ((ref_At.f 3 x3_1).bind fun bt124 => (some (bt124.1, bt124.2)))) = some (r1, r2) := H
           have A42 := Aside0.mk A420
           clear A420
           by_cases c43 : t120 = true
           ·subst c43
            have H1 : ((ref_In.f ((rd_T60 l0_0 x3_1).f3) 1 7).bind fun t121 => (if t121 = true then (ref_ScriptFault.l0 k2 (wrap64 (x3_1 + 1)) l0_0 l0_1) else ((ref_At.f 3 x3_1).bind fun bt122 => (some (bt122.1, bt122.2))))) = some (r1, r2) := by rw [if_pos rfl] at H; exact H
            clear H
            have H := H1
            clear H1
            replace H := Option.bind_eq_some_iff.mp H
            obtain ⟨t121, A440, H⟩ := H
            replace H : (if t121 = true then (ref_ScriptFault.l0 k2 (wrap64 (x3_1 + 1)) l0_0 l0_1) else ((ref_At.f 3 x3_1).bind fun bt122 => (some (bt122.1, bt122.2)))) = some (r1, r2) := H
            have A44 := Aside0.mk A440
            clear A440
            by_cases c45 : t121 = true
            ·subst c45
             have H1 : (ref_ScriptFault.l0 k2 (wrap64 (x3_1 + 1)) l0_0 l0_1) = some (r1, r2) := by rw [if_pos rfl] at H; exact H
             clear H
             have H := H1
             clear H1
             have H' := Aside0.mk H
             clear H
             have hnb46 := NB113_108.out
             have hnc46 := NB108_113.out
             have hnb47 := NB113_109.out
             have hnc47 := NB109_113.out
             have hcz48_0 : wr.cell? ⟨gb113, 0, none⟩ = some (.string ((rd_T60 l0_0 x3_1).f0)) := (blk_cell BK113.out 0).trans rfl
             have hcz48_1 : wr.cell? ⟨gb113, 1, none⟩ = some (.int .i64 ((rd_T60 l0_0 x3_1).f1)) := (blk_cell BK113.out 1).trans rfl
             have hcz48_2 : wr.cell? ⟨gb113, 2, none⟩ = some (.int .i64 ((rd_T60 l0_0 x3_1).f2)) := (blk_cell BK113.out 2).trans rfl
             have hcz48_3 : wr.cell? ⟨gb113, 3, none⟩ = some (.int .i64 ((rd_T60 l0_0 x3_1).f3)) := (blk_cell BK113.out 3).trans rfl
             have hfz48_0 := blk_frozen BK113.out 0
             have hfz48_1 := blk_frozen BK113.out 1
             have hfz48_2 := blk_frozen BK113.out 2
             have hfz48_3 := blk_frozen BK113.out 3
             go_wp2_with (first | (go_at_call 35; (with_reducible refine (ref_Power.calls k2 ((rd_T60 l0_0 x3_1).f2) 4096 true _ A42.out).mono ?_); rintro e w' ⟨rfl, ⟨nd, rfl⟩⟩; (try exact qD)) | (go_at_call 13; (with_reducible refine (ref_In.calls ((rd_T60 l0_0 x3_1).f3) 1 7 true _ A44.out).mono ?_); rintro e w' ⟨rfl, ⟨nd, rfl⟩⟩; (try exact qD)))
             repeat (go_quiet (first | (go_at_call 35; (with_reducible refine (ref_Power.calls k2 ((rd_T60 l0_0 x3_1).f2) 4096 true _ A42.out).mono ?_); rintro e w' ⟨rfl, ⟨nd, rfl⟩⟩; (try exact qD)) | (go_at_call 13; (with_reducible refine (ref_In.calls ((rd_T60 l0_0 x3_1).f3) 1 7 true _ A44.out).mono ?_); rintro e w' ⟨rfl, ⟨nd, rfl⟩⟩; (try exact qD))); try go_wp2_with (first | (go_at_call 35; (with_reducible refine (ref_Power.calls k2 ((rd_T60 l0_0 x3_1).f2) 4096 true _ A42.out).mono ?_); rintro e w' ⟨rfl, ⟨nd, rfl⟩⟩; (try exact qD)) | (go_at_call 13; (with_reducible refine (ref_In.calls ((rd_T60 l0_0 x3_1).f3) 1 7 true _ A44.out).mono ?_); rintro e w' ⟨rfl, ⟨nd, rfl⟩⟩; (try exact qD))))
             go_roundg k2
             case measure => have := HK1.out; have := HK2.out; omega
             case rel => exact ⟨(wrap64 (x3_1 + 1)), (x110000_2), (x110001_2), qF, H', ⟨by have := HK1.out; have := HK2.out; omega⟩, ⟨qK BK108⟩, ⟨qK BK109⟩, ⟨qB⟩⟩
            ·replace c45 := Bool.eq_false_iff.mpr c45
             subst c45
             have H1 : ((ref_At.f 3 x3_1).bind fun bt122 => (some (bt122.1, bt122.2))) = some (r1, r2) := by rw [if_neg (show ¬ (false = true) by decide)] at H; exact H
             clear H
             have H := H1
             clear H1
             replace H := Option.bind_eq_some_iff.mp H
             obtain ⟨⟨t122, t123⟩, A490, H⟩ := H
             replace H : (some (t122, t123)) = some (r1, r2) := H
             have A49 := Aside0.mk A490
             clear A490
             simp only [Option.some.injEq, Prod.mk.injEq] at H
             obtain ⟨rfl, rfl⟩ := H
             have hnb50 := NB113_108.out
             have hnc50 := NB108_113.out
             have hnb51 := NB113_109.out
             have hnc51 := NB109_113.out
             have hcz52_0 : wr.cell? ⟨gb113, 0, none⟩ = some (.string ((rd_T60 l0_0 x3_1).f0)) := (blk_cell BK113.out 0).trans rfl
             have hcz52_1 : wr.cell? ⟨gb113, 1, none⟩ = some (.int .i64 ((rd_T60 l0_0 x3_1).f1)) := (blk_cell BK113.out 1).trans rfl
             have hcz52_2 : wr.cell? ⟨gb113, 2, none⟩ = some (.int .i64 ((rd_T60 l0_0 x3_1).f2)) := (blk_cell BK113.out 2).trans rfl
             have hcz52_3 : wr.cell? ⟨gb113, 3, none⟩ = some (.int .i64 ((rd_T60 l0_0 x3_1).f3)) := (blk_cell BK113.out 3).trans rfl
             have hfz52_0 := blk_frozen BK113.out 0
             have hfz52_1 := blk_frozen BK113.out 1
             have hfz52_2 := blk_frozen BK113.out 2
             have hfz52_3 := blk_frozen BK113.out 3
             go_wp2_with (first | (go_at_call 35; (with_reducible refine (ref_Power.calls k2 ((rd_T60 l0_0 x3_1).f2) 4096 true _ A42.out).mono ?_); rintro e w' ⟨rfl, ⟨nd, rfl⟩⟩; (try exact qD)) | (go_at_call 13; (with_reducible refine (ref_In.calls ((rd_T60 l0_0 x3_1).f3) 1 7 false _ A44.out).mono ?_); rintro e w' ⟨rfl, ⟨nd, rfl⟩⟩; (try exact qD)) | (go_at_call 14; (with_reducible refine (ref_At.calls 3 x3_1 t122 t123 _ A49.out).mono ?_); rintro e w53 ⟨rfl, hb⟩; have n0_ := Aside0.mk (blk_below (g := gb108) (o := .cells #[.slice (some ad112) l0_0.length c0_0, .slice A0_1 l0_1.length c0_1] 46 (0, 0)) (qK BK108) hb); have n1_ := Aside0.mk (blk_below (g := gb109) (o := .cells #[.int .i64 x110000_2, .int .i64 x110001_2] 26 (0, 0)) (qK BK109) hb); have n2_ := Aside0.mk (blk_below (g := gb113) (o := .cells #[.string ((rd_T60 l0_0 x3_1).f0), .int .i64 ((rd_T60 l0_0 x3_1).f1), .int .i64 ((rd_T60 l0_0 x3_1).f2), .int .i64 ((rd_T60 l0_0 x3_1).f3)] 60 (0, 0)) (qK BK113) hb); have n3_ := Aside0.mk (below_step qB hb); clear BK108; clear BK109; clear BK113; clear HB; have BK108 := n0_; have BK109 := n1_; have BK113 := n2_; have HB := n3_; clear n0_ n1_ n2_ n3_; (try clear hb); (try clear hb2); (try clear hk); (try clear hi); have hnb54 := NB109_108.out; have hnc54 := NB108_109.out; have hcz55_0 : w53.cell? ⟨gb109, 0, none⟩ = some (.int .i64 x110000_2) := (blk_cell BK109.out 0).trans rfl; have hcz55_1 : w53.cell? ⟨gb109, 1, none⟩ = some (.int .i64 x110001_2) := (blk_cell BK109.out 1).trans rfl; have hfz55_0 := blk_frozen BK109.out 0; have hfz55_1 := blk_frozen BK109.out 1))
             repeat (go_quiet (first | (go_at_call 35; (with_reducible refine (ref_Power.calls k2 ((rd_T60 l0_0 x3_1).f2) 4096 true _ A42.out).mono ?_); rintro e w' ⟨rfl, ⟨nd, rfl⟩⟩; (try exact qD)) | (go_at_call 13; (with_reducible refine (ref_In.calls ((rd_T60 l0_0 x3_1).f3) 1 7 false _ A44.out).mono ?_); rintro e w' ⟨rfl, ⟨nd, rfl⟩⟩; (try exact qD)) | (go_at_call 14; (with_reducible refine (ref_At.calls 3 x3_1 t122 t123 _ A49.out).mono ?_); rintro e w53 ⟨rfl, hb⟩; have n0_ := Aside0.mk (blk_below (g := gb108) (o := .cells #[.slice (some ad112) l0_0.length c0_0, .slice A0_1 l0_1.length c0_1] 46 (0, 0)) (qK BK108) hb); have n1_ := Aside0.mk (blk_below (g := gb109) (o := .cells #[.int .i64 x110000_2, .int .i64 x110001_2] 26 (0, 0)) (qK BK109) hb); have n2_ := Aside0.mk (blk_below (g := gb113) (o := .cells #[.string ((rd_T60 l0_0 x3_1).f0), .int .i64 ((rd_T60 l0_0 x3_1).f1), .int .i64 ((rd_T60 l0_0 x3_1).f2), .int .i64 ((rd_T60 l0_0 x3_1).f3)] 60 (0, 0)) (qK BK113) hb); have n3_ := Aside0.mk (below_step qB hb); clear BK108; clear BK109; clear BK113; clear HB; have BK108 := n0_; have BK109 := n1_; have BK113 := n2_; have HB := n3_; clear n0_ n1_ n2_ n3_; (try clear hb); (try clear hb2); (try clear hk); (try clear hi); have hnb54 := NB109_108.out; have hnc54 := NB108_109.out; have hcz55_0 : w53.cell? ⟨gb109, 0, none⟩ = some (.int .i64 x110000_2) := (blk_cell BK109.out 0).trans rfl; have hcz55_1 : w53.cell? ⟨gb109, 1, none⟩ = some (.int .i64 x110001_2) := (blk_cell BK109.out 1).trans rfl; have hfz55_0 := blk_frozen BK109.out 0; have hfz55_1 := blk_frozen BK109.out 1)); try go_wp2_with (first | (go_at_call 35; (with_reducible refine (ref_Power.calls k2 ((rd_T60 l0_0 x3_1).f2) 4096 true _ A42.out).mono ?_); rintro e w' ⟨rfl, ⟨nd, rfl⟩⟩; (try exact qD)) | (go_at_call 13; (with_reducible refine (ref_In.calls ((rd_T60 l0_0 x3_1).f3) 1 7 false _ A44.out).mono ?_); rintro e w' ⟨rfl, ⟨nd, rfl⟩⟩; (try exact qD)) | (go_at_call 14; (with_reducible refine (ref_At.calls 3 x3_1 t122 t123 _ A49.out).mono ?_); rintro e w53 ⟨rfl, hb⟩; have n0_ := Aside0.mk (blk_below (g := gb108) (o := .cells #[.slice (some ad112) l0_0.length c0_0, .slice A0_1 l0_1.length c0_1] 46 (0, 0)) (qK BK108) hb); have n1_ := Aside0.mk (blk_below (g := gb109) (o := .cells #[.int .i64 x110000_2, .int .i64 x110001_2] 26 (0, 0)) (qK BK109) hb); have n2_ := Aside0.mk (blk_below (g := gb113) (o := .cells #[.string ((rd_T60 l0_0 x3_1).f0), .int .i64 ((rd_T60 l0_0 x3_1).f1), .int .i64 ((rd_T60 l0_0 x3_1).f2), .int .i64 ((rd_T60 l0_0 x3_1).f3)] 60 (0, 0)) (qK BK113) hb); have n3_ := Aside0.mk (below_step qB hb); clear BK108; clear BK109; clear BK113; clear HB; have BK108 := n0_; have BK109 := n1_; have BK113 := n2_; have HB := n3_; clear n0_ n1_ n2_ n3_; (try clear hb); (try clear hb2); (try clear hk); (try clear hi); have hnb54 := NB109_108.out; have hnc54 := NB108_109.out; have hcz55_0 : w53.cell? ⟨gb109, 0, none⟩ = some (.int .i64 x110000_2) := (blk_cell BK109.out 0).trans rfl; have hcz55_1 : w53.cell? ⟨gb109, 1, none⟩ = some (.int .i64 x110001_2) := (blk_cell BK109.out 1).trans rfl; have hfz55_0 := blk_frozen BK109.out 0; have hfz55_1 := blk_frozen BK109.out 1)))
             refine bodyPost_ret (results_cell_row rfl _ _ gb109 26 #[.int .i64 t122, .int .i64 t123] (0, 0) _ rfl (by (with_reducible repeat (first | refine blk_drewN ?_ _ | refine blk_drew ?_ | refine blk_alloc ?_ _)); refine blk_put (cs := #[.int .i64 t122, .int .i64 x110001_2]) ?_ 1 _ rfl; (with_reducible repeat (first | refine blk_drewN ?_ _ | refine blk_drew ?_ | refine blk_alloc ?_ _)); refine blk_put (cs := #[.int .i64 x110000_2, .int .i64 x110001_2]) ?_ 0 _ rfl; exact qK BK109) Try.underlying26 rfl (by kernel_rfl)) rfl ?_
             exact ⟨qE, qB⟩
           ·replace c43 := Bool.eq_false_iff.mpr c43
            subst c43
            have H1 : ((ref_At.f 3 x3_1).bind fun bt124 => (some (bt124.1, bt124.2))) = some (r1, r2) := by rw [if_neg (show ¬ (false = true) by decide)] at H; exact H
            clear H
            have H := H1
            clear H1
            replace H := Option.bind_eq_some_iff.mp H
            obtain ⟨⟨t124, t125⟩, A560, H⟩ := H
            replace H : (some (t124, t125)) = some (r1, r2) := H
            have A56 := Aside0.mk A560
            clear A560
            simp only [Option.some.injEq, Prod.mk.injEq] at H
            obtain ⟨rfl, rfl⟩ := H
            have hnb57 := NB113_108.out
            have hnc57 := NB108_113.out
            have hnb58 := NB113_109.out
            have hnc58 := NB109_113.out
            have hcz59_0 : wr.cell? ⟨gb113, 0, none⟩ = some (.string ((rd_T60 l0_0 x3_1).f0)) := (blk_cell BK113.out 0).trans rfl
            have hcz59_1 : wr.cell? ⟨gb113, 1, none⟩ = some (.int .i64 ((rd_T60 l0_0 x3_1).f1)) := (blk_cell BK113.out 1).trans rfl
            have hcz59_2 : wr.cell? ⟨gb113, 2, none⟩ = some (.int .i64 ((rd_T60 l0_0 x3_1).f2)) := (blk_cell BK113.out 2).trans rfl
            have hcz59_3 : wr.cell? ⟨gb113, 3, none⟩ = some (.int .i64 ((rd_T60 l0_0 x3_1).f3)) := (blk_cell BK113.out 3).trans rfl
            have hfz59_0 := blk_frozen BK113.out 0
            have hfz59_1 := blk_frozen BK113.out 1
            have hfz59_2 := blk_frozen BK113.out 2
            have hfz59_3 := blk_frozen BK113.out 3
            go_wp2_with (first | (go_at_call 35; (with_reducible refine (ref_Power.calls k2 ((rd_T60 l0_0 x3_1).f2) 4096 false _ A42.out).mono ?_); rintro e w' ⟨rfl, ⟨nd, rfl⟩⟩; (try exact qD)) | (go_at_call 14; (with_reducible refine (ref_At.calls 3 x3_1 t124 t125 _ A56.out).mono ?_); rintro e w60 ⟨rfl, hb⟩; have n0_ := Aside0.mk (blk_below (g := gb108) (o := .cells #[.slice (some ad112) l0_0.length c0_0, .slice A0_1 l0_1.length c0_1] 46 (0, 0)) (qK BK108) hb); have n1_ := Aside0.mk (blk_below (g := gb109) (o := .cells #[.int .i64 x110000_2, .int .i64 x110001_2] 26 (0, 0)) (qK BK109) hb); have n2_ := Aside0.mk (blk_below (g := gb113) (o := .cells #[.string ((rd_T60 l0_0 x3_1).f0), .int .i64 ((rd_T60 l0_0 x3_1).f1), .int .i64 ((rd_T60 l0_0 x3_1).f2), .int .i64 ((rd_T60 l0_0 x3_1).f3)] 60 (0, 0)) (qK BK113) hb); have n3_ := Aside0.mk (below_step qB hb); clear BK108; clear BK109; clear BK113; clear HB; have BK108 := n0_; have BK109 := n1_; have BK113 := n2_; have HB := n3_; clear n0_ n1_ n2_ n3_; (try clear hb); (try clear hb2); (try clear hk); (try clear hi); have hnb61 := NB109_108.out; have hnc61 := NB108_109.out; have hcz62_0 : w60.cell? ⟨gb109, 0, none⟩ = some (.int .i64 x110000_2) := (blk_cell BK109.out 0).trans rfl; have hcz62_1 : w60.cell? ⟨gb109, 1, none⟩ = some (.int .i64 x110001_2) := (blk_cell BK109.out 1).trans rfl; have hfz62_0 := blk_frozen BK109.out 0; have hfz62_1 := blk_frozen BK109.out 1))
            repeat (go_quiet (first | (go_at_call 35; (with_reducible refine (ref_Power.calls k2 ((rd_T60 l0_0 x3_1).f2) 4096 false _ A42.out).mono ?_); rintro e w' ⟨rfl, ⟨nd, rfl⟩⟩; (try exact qD)) | (go_at_call 14; (with_reducible refine (ref_At.calls 3 x3_1 t124 t125 _ A56.out).mono ?_); rintro e w60 ⟨rfl, hb⟩; have n0_ := Aside0.mk (blk_below (g := gb108) (o := .cells #[.slice (some ad112) l0_0.length c0_0, .slice A0_1 l0_1.length c0_1] 46 (0, 0)) (qK BK108) hb); have n1_ := Aside0.mk (blk_below (g := gb109) (o := .cells #[.int .i64 x110000_2, .int .i64 x110001_2] 26 (0, 0)) (qK BK109) hb); have n2_ := Aside0.mk (blk_below (g := gb113) (o := .cells #[.string ((rd_T60 l0_0 x3_1).f0), .int .i64 ((rd_T60 l0_0 x3_1).f1), .int .i64 ((rd_T60 l0_0 x3_1).f2), .int .i64 ((rd_T60 l0_0 x3_1).f3)] 60 (0, 0)) (qK BK113) hb); have n3_ := Aside0.mk (below_step qB hb); clear BK108; clear BK109; clear BK113; clear HB; have BK108 := n0_; have BK109 := n1_; have BK113 := n2_; have HB := n3_; clear n0_ n1_ n2_ n3_; (try clear hb); (try clear hb2); (try clear hk); (try clear hi); have hnb61 := NB109_108.out; have hnc61 := NB108_109.out; have hcz62_0 : w60.cell? ⟨gb109, 0, none⟩ = some (.int .i64 x110000_2) := (blk_cell BK109.out 0).trans rfl; have hcz62_1 : w60.cell? ⟨gb109, 1, none⟩ = some (.int .i64 x110001_2) := (blk_cell BK109.out 1).trans rfl; have hfz62_0 := blk_frozen BK109.out 0; have hfz62_1 := blk_frozen BK109.out 1)); try go_wp2_with (first | (go_at_call 35; (with_reducible refine (ref_Power.calls k2 ((rd_T60 l0_0 x3_1).f2) 4096 false _ A42.out).mono ?_); rintro e w' ⟨rfl, ⟨nd, rfl⟩⟩; (try exact qD)) | (go_at_call 14; (with_reducible refine (ref_At.calls 3 x3_1 t124 t125 _ A56.out).mono ?_); rintro e w60 ⟨rfl, hb⟩; have n0_ := Aside0.mk (blk_below (g := gb108) (o := .cells #[.slice (some ad112) l0_0.length c0_0, .slice A0_1 l0_1.length c0_1] 46 (0, 0)) (qK BK108) hb); have n1_ := Aside0.mk (blk_below (g := gb109) (o := .cells #[.int .i64 x110000_2, .int .i64 x110001_2] 26 (0, 0)) (qK BK109) hb); have n2_ := Aside0.mk (blk_below (g := gb113) (o := .cells #[.string ((rd_T60 l0_0 x3_1).f0), .int .i64 ((rd_T60 l0_0 x3_1).f1), .int .i64 ((rd_T60 l0_0 x3_1).f2), .int .i64 ((rd_T60 l0_0 x3_1).f3)] 60 (0, 0)) (qK BK113) hb); have n3_ := Aside0.mk (below_step qB hb); clear BK108; clear BK109; clear BK113; clear HB; have BK108 := n0_; have BK109 := n1_; have BK113 := n2_; have HB := n3_; clear n0_ n1_ n2_ n3_; (try clear hb); (try clear hb2); (try clear hk); (try clear hi); have hnb61 := NB109_108.out; have hnc61 := NB108_109.out; have hcz62_0 : w60.cell? ⟨gb109, 0, none⟩ = some (.int .i64 x110000_2) := (blk_cell BK109.out 0).trans rfl; have hcz62_1 : w60.cell? ⟨gb109, 1, none⟩ = some (.int .i64 x110001_2) := (blk_cell BK109.out 1).trans rfl; have hfz62_0 := blk_frozen BK109.out 0; have hfz62_1 := blk_frozen BK109.out 1)))
            refine bodyPost_ret (results_cell_row rfl _ _ gb109 26 #[.int .i64 t124, .int .i64 t125] (0, 0) _ rfl (by (with_reducible repeat (first | refine blk_drewN ?_ _ | refine blk_drew ?_ | refine blk_alloc ?_ _)); refine blk_put (cs := #[.int .i64 t124, .int .i64 x110001_2]) ?_ 1 _ rfl; (with_reducible repeat (first | refine blk_drewN ?_ _ | refine blk_drew ?_ | refine blk_alloc ?_ _)); refine blk_put (cs := #[.int .i64 x110000_2, .int .i64 x110001_2]) ?_ 0 _ rfl; exact qK BK109) Try.underlying26 rfl (by kernel_rfl)) rfl ?_
            exact ⟨qE, qB⟩
          ·rw [if_neg c41] at H
           have c41b0 : (((rd_T60 l0_0 x3_1).f1) == (-1)) = false := beq_eq_false_iff_ne.mpr c41
           have c41b1 : (((rd_T60 l0_0 x3_1).f1) != (-1)) = true := bne_iff_ne.mpr c41
           replace H := Option.bind_eq_some_iff.mp H
           obtain ⟨t126, A630, H⟩ := H
           replace H : (if t126 = true then (if (Int.tmod ((rd_T60 l0_0 x3_1).f1) 256) = 0 then ((ref_Power.f k2 ((rd_T60 l0_0 x3_1).f2) 4096).bind fun t127 => (if t127 = true then ((ref_In.f ((rd_T60 l0_0 x3_1).f3) 1 7).bind fun t128 => (if t128 = true then (ref_ScriptFault.l0 k2 (wrap64 (x3_1 + 1)) l0_0 l0_1) else ((ref_At.f 3 x3_1).bind fun bt129 => (some (bt129.1, bt129.2))))) else ((ref_At.f 3 x3_1).bind fun bt131 => (some (bt131.1, bt131.2))))) else ((ref_At.f 3 x3_1).bind fun bt133 => (some (bt133.1, bt133.2)))) else ((ref_At.f 3 x3_1).bind fun bt135 => (some (bt135.1, bt135.2)))) = some (r1, r2) := H
           have A63 := Aside0.mk A630
           clear A630
           by_cases c64 : t126 = true
           ·subst c64
            have H1 : (if (Int.tmod ((rd_T60 l0_0 x3_1).f1) 256) = 0 then ((ref_Power.f k2 ((rd_T60 l0_0 x3_1).f2) 4096).bind fun t127 => (if t127 = true then ((ref_In.f ((rd_T60 l0_0 x3_1).f3) 1 7).bind fun t128 => (if t128 = true then (ref_ScriptFault.l0 k2 (wrap64 (x3_1 + 1)) l0_0 l0_1) else ((ref_At.f 3 x3_1).bind fun bt129 => (some (bt129.1, bt129.2))))) else ((ref_At.f 3 x3_1).bind fun bt131 => (some (bt131.1, bt131.2))))) else ((ref_At.f 3 x3_1).bind fun bt133 => (some (bt133.1, bt133.2)))) = some (r1, r2) := by rw [if_pos rfl] at H; exact H
            clear H
            have H := H1
            clear H1
            by_cases c65 : (Int.tmod ((rd_T60 l0_0 x3_1).f1) 256) = 0
            ·rw [if_pos c65] at H
             have c65b0 : ((Int.tmod ((rd_T60 l0_0 x3_1).f1) 256) == 0) = true := beq_iff_eq.mpr c65
             have c65b1 : ((Int.tmod ((rd_T60 l0_0 x3_1).f1) 256) != 0) = false := bne_eq_false_iff_eq.mpr c65
             clear c65
             replace H := Option.bind_eq_some_iff.mp H
             obtain ⟨t127, A660, H⟩ := H
             replace H : (if t127 = true then ((ref_In.f ((rd_T60 l0_0 x3_1).f3) 1 7).bind fun t128 => (if t128 = true then (ref_ScriptFault.l0 k2 (wrap64 (x3_1 + 1)) l0_0 l0_1) else ((ref_At.f 3 x3_1).bind fun bt129 => (some (bt129.1, bt129.2))))) else ((ref_At.f 3 x3_1).bind fun bt131 => (some (bt131.1, bt131.2)))) = some (r1, r2) := H
             have A66 := Aside0.mk A660
             clear A660
             by_cases c67 : t127 = true
             ·subst c67
              have H1 : ((ref_In.f ((rd_T60 l0_0 x3_1).f3) 1 7).bind fun t128 => (if t128 = true then (ref_ScriptFault.l0 k2 (wrap64 (x3_1 + 1)) l0_0 l0_1) else ((ref_At.f 3 x3_1).bind fun bt129 => (some (bt129.1, bt129.2))))) = some (r1, r2) := by rw [if_pos rfl] at H; exact H
              clear H
              have H := H1
              clear H1
              replace H := Option.bind_eq_some_iff.mp H
              obtain ⟨t128, A680, H⟩ := H
              replace H : (if t128 = true then (ref_ScriptFault.l0 k2 (wrap64 (x3_1 + 1)) l0_0 l0_1) else ((ref_At.f 3 x3_1).bind fun bt129 => (some (bt129.1, bt129.2)))) = some (r1, r2) := H
              have A68 := Aside0.mk A680
              clear A680
              by_cases c69 : t128 = true
              ·subst c69
               have H1 : (ref_ScriptFault.l0 k2 (wrap64 (x3_1 + 1)) l0_0 l0_1) = some (r1, r2) := by rw [if_pos rfl] at H; exact H
               clear H
               have H := H1
               clear H1
               have H' := Aside0.mk H
               clear H
               have hnb70 := NB113_108.out
               have hnc70 := NB108_113.out
               have hnb71 := NB113_109.out
               have hnc71 := NB109_113.out
               have hcz72_0 : wr.cell? ⟨gb113, 0, none⟩ = some (.string ((rd_T60 l0_0 x3_1).f0)) := (blk_cell BK113.out 0).trans rfl
               have hcz72_1 : wr.cell? ⟨gb113, 1, none⟩ = some (.int .i64 ((rd_T60 l0_0 x3_1).f1)) := (blk_cell BK113.out 1).trans rfl
               have hcz72_2 : wr.cell? ⟨gb113, 2, none⟩ = some (.int .i64 ((rd_T60 l0_0 x3_1).f2)) := (blk_cell BK113.out 2).trans rfl
               have hcz72_3 : wr.cell? ⟨gb113, 3, none⟩ = some (.int .i64 ((rd_T60 l0_0 x3_1).f3)) := (blk_cell BK113.out 3).trans rfl
               have hfz72_0 := blk_frozen BK113.out 0
               have hfz72_1 := blk_frozen BK113.out 1
               have hfz72_2 := blk_frozen BK113.out 2
               have hfz72_3 := blk_frozen BK113.out 3
               go_wp2_with (first | (go_at_call 13; (with_reducible refine (ref_In.calls ((rd_T60 l0_0 x3_1).f1) 0 1048575 true _ A63.out).mono ?_); rintro e w' ⟨rfl, ⟨nd, rfl⟩⟩; (try exact qD)) | (go_at_call 35; (with_reducible refine (ref_Power.calls k2 ((rd_T60 l0_0 x3_1).f2) 4096 true _ A66.out).mono ?_); rintro e w' ⟨rfl, ⟨nd, rfl⟩⟩; (try exact qD)) | (go_at_call 13; (with_reducible refine (ref_In.calls ((rd_T60 l0_0 x3_1).f3) 1 7 true _ A68.out).mono ?_); rintro e w' ⟨rfl, ⟨nd, rfl⟩⟩; (try exact qD)))
               repeat (go_quiet (first | (go_at_call 13; (with_reducible refine (ref_In.calls ((rd_T60 l0_0 x3_1).f1) 0 1048575 true _ A63.out).mono ?_); rintro e w' ⟨rfl, ⟨nd, rfl⟩⟩; (try exact qD)) | (go_at_call 35; (with_reducible refine (ref_Power.calls k2 ((rd_T60 l0_0 x3_1).f2) 4096 true _ A66.out).mono ?_); rintro e w' ⟨rfl, ⟨nd, rfl⟩⟩; (try exact qD)) | (go_at_call 13; (with_reducible refine (ref_In.calls ((rd_T60 l0_0 x3_1).f3) 1 7 true _ A68.out).mono ?_); rintro e w' ⟨rfl, ⟨nd, rfl⟩⟩; (try exact qD))); try go_wp2_with (first | (go_at_call 13; (with_reducible refine (ref_In.calls ((rd_T60 l0_0 x3_1).f1) 0 1048575 true _ A63.out).mono ?_); rintro e w' ⟨rfl, ⟨nd, rfl⟩⟩; (try exact qD)) | (go_at_call 35; (with_reducible refine (ref_Power.calls k2 ((rd_T60 l0_0 x3_1).f2) 4096 true _ A66.out).mono ?_); rintro e w' ⟨rfl, ⟨nd, rfl⟩⟩; (try exact qD)) | (go_at_call 13; (with_reducible refine (ref_In.calls ((rd_T60 l0_0 x3_1).f3) 1 7 true _ A68.out).mono ?_); rintro e w' ⟨rfl, ⟨nd, rfl⟩⟩; (try exact qD))))
               go_roundg k2
               case measure => have := HK1.out; have := HK2.out; omega
               case rel => exact ⟨(wrap64 (x3_1 + 1)), (x110000_2), (x110001_2), qF, H', ⟨by have := HK1.out; have := HK2.out; omega⟩, ⟨qK BK108⟩, ⟨qK BK109⟩, ⟨qB⟩⟩
              ·replace c69 := Bool.eq_false_iff.mpr c69
               subst c69
               have H1 : ((ref_At.f 3 x3_1).bind fun bt129 => (some (bt129.1, bt129.2))) = some (r1, r2) := by rw [if_neg (show ¬ (false = true) by decide)] at H; exact H
               clear H
               have H := H1
               clear H1
               replace H := Option.bind_eq_some_iff.mp H
               obtain ⟨⟨t129, t130⟩, A730, H⟩ := H
               replace H : (some (t129, t130)) = some (r1, r2) := H
               have A73 := Aside0.mk A730
               clear A730
               simp only [Option.some.injEq, Prod.mk.injEq] at H
               obtain ⟨rfl, rfl⟩ := H
               have hnb74 := NB113_108.out
               have hnc74 := NB108_113.out
               have hnb75 := NB113_109.out
               have hnc75 := NB109_113.out
               have hcz76_0 : wr.cell? ⟨gb113, 0, none⟩ = some (.string ((rd_T60 l0_0 x3_1).f0)) := (blk_cell BK113.out 0).trans rfl
               have hcz76_1 : wr.cell? ⟨gb113, 1, none⟩ = some (.int .i64 ((rd_T60 l0_0 x3_1).f1)) := (blk_cell BK113.out 1).trans rfl
               have hcz76_2 : wr.cell? ⟨gb113, 2, none⟩ = some (.int .i64 ((rd_T60 l0_0 x3_1).f2)) := (blk_cell BK113.out 2).trans rfl
               have hcz76_3 : wr.cell? ⟨gb113, 3, none⟩ = some (.int .i64 ((rd_T60 l0_0 x3_1).f3)) := (blk_cell BK113.out 3).trans rfl
               have hfz76_0 := blk_frozen BK113.out 0
               have hfz76_1 := blk_frozen BK113.out 1
               have hfz76_2 := blk_frozen BK113.out 2
               have hfz76_3 := blk_frozen BK113.out 3
               go_wp2_with (first | (go_at_call 13; (with_reducible refine (ref_In.calls ((rd_T60 l0_0 x3_1).f1) 0 1048575 true _ A63.out).mono ?_); rintro e w' ⟨rfl, ⟨nd, rfl⟩⟩; (try exact qD)) | (go_at_call 35; (with_reducible refine (ref_Power.calls k2 ((rd_T60 l0_0 x3_1).f2) 4096 true _ A66.out).mono ?_); rintro e w' ⟨rfl, ⟨nd, rfl⟩⟩; (try exact qD)) | (go_at_call 13; (with_reducible refine (ref_In.calls ((rd_T60 l0_0 x3_1).f3) 1 7 false _ A68.out).mono ?_); rintro e w' ⟨rfl, ⟨nd, rfl⟩⟩; (try exact qD)) | (go_at_call 14; (with_reducible refine (ref_At.calls 3 x3_1 t129 t130 _ A73.out).mono ?_); rintro e w77 ⟨rfl, hb⟩; have n0_ := Aside0.mk (blk_below (g := gb108) (o := .cells #[.slice (some ad112) l0_0.length c0_0, .slice A0_1 l0_1.length c0_1] 46 (0, 0)) (qK BK108) hb); have n1_ := Aside0.mk (blk_below (g := gb109) (o := .cells #[.int .i64 x110000_2, .int .i64 x110001_2] 26 (0, 0)) (qK BK109) hb); have n2_ := Aside0.mk (blk_below (g := gb113) (o := .cells #[.string ((rd_T60 l0_0 x3_1).f0), .int .i64 ((rd_T60 l0_0 x3_1).f1), .int .i64 ((rd_T60 l0_0 x3_1).f2), .int .i64 ((rd_T60 l0_0 x3_1).f3)] 60 (0, 0)) (qK BK113) hb); have n3_ := Aside0.mk (below_step qB hb); clear BK108; clear BK109; clear BK113; clear HB; have BK108 := n0_; have BK109 := n1_; have BK113 := n2_; have HB := n3_; clear n0_ n1_ n2_ n3_; (try clear hb); (try clear hb2); (try clear hk); (try clear hi); have hnb78 := NB109_108.out; have hnc78 := NB108_109.out; have hcz79_0 : w77.cell? ⟨gb109, 0, none⟩ = some (.int .i64 x110000_2) := (blk_cell BK109.out 0).trans rfl; have hcz79_1 : w77.cell? ⟨gb109, 1, none⟩ = some (.int .i64 x110001_2) := (blk_cell BK109.out 1).trans rfl; have hfz79_0 := blk_frozen BK109.out 0; have hfz79_1 := blk_frozen BK109.out 1))
               repeat (go_quiet (first | (go_at_call 13; (with_reducible refine (ref_In.calls ((rd_T60 l0_0 x3_1).f1) 0 1048575 true _ A63.out).mono ?_); rintro e w' ⟨rfl, ⟨nd, rfl⟩⟩; (try exact qD)) | (go_at_call 35; (with_reducible refine (ref_Power.calls k2 ((rd_T60 l0_0 x3_1).f2) 4096 true _ A66.out).mono ?_); rintro e w' ⟨rfl, ⟨nd, rfl⟩⟩; (try exact qD)) | (go_at_call 13; (with_reducible refine (ref_In.calls ((rd_T60 l0_0 x3_1).f3) 1 7 false _ A68.out).mono ?_); rintro e w' ⟨rfl, ⟨nd, rfl⟩⟩; (try exact qD)) | (go_at_call 14; (with_reducible refine (ref_At.calls 3 x3_1 t129 t130 _ A73.out).mono ?_); rintro e w77 ⟨rfl, hb⟩; have n0_ := Aside0.mk (blk_below (g := gb108) (o := .cells #[.slice (some ad112) l0_0.length c0_0, .slice A0_1 l0_1.length c0_1] 46 (0, 0)) (qK BK108) hb); have n1_ := Aside0.mk (blk_below (g := gb109) (o := .cells #[.int .i64 x110000_2, .int .i64 x110001_2] 26 (0, 0)) (qK BK109) hb); have n2_ := Aside0.mk (blk_below (g := gb113) (o := .cells #[.string ((rd_T60 l0_0 x3_1).f0), .int .i64 ((rd_T60 l0_0 x3_1).f1), .int .i64 ((rd_T60 l0_0 x3_1).f2), .int .i64 ((rd_T60 l0_0 x3_1).f3)] 60 (0, 0)) (qK BK113) hb); have n3_ := Aside0.mk (below_step qB hb); clear BK108; clear BK109; clear BK113; clear HB; have BK108 := n0_; have BK109 := n1_; have BK113 := n2_; have HB := n3_; clear n0_ n1_ n2_ n3_; (try clear hb); (try clear hb2); (try clear hk); (try clear hi); have hnb78 := NB109_108.out; have hnc78 := NB108_109.out; have hcz79_0 : w77.cell? ⟨gb109, 0, none⟩ = some (.int .i64 x110000_2) := (blk_cell BK109.out 0).trans rfl; have hcz79_1 : w77.cell? ⟨gb109, 1, none⟩ = some (.int .i64 x110001_2) := (blk_cell BK109.out 1).trans rfl; have hfz79_0 := blk_frozen BK109.out 0; have hfz79_1 := blk_frozen BK109.out 1)); try go_wp2_with (first | (go_at_call 13; (with_reducible refine (ref_In.calls ((rd_T60 l0_0 x3_1).f1) 0 1048575 true _ A63.out).mono ?_); rintro e w' ⟨rfl, ⟨nd, rfl⟩⟩; (try exact qD)) | (go_at_call 35; (with_reducible refine (ref_Power.calls k2 ((rd_T60 l0_0 x3_1).f2) 4096 true _ A66.out).mono ?_); rintro e w' ⟨rfl, ⟨nd, rfl⟩⟩; (try exact qD)) | (go_at_call 13; (with_reducible refine (ref_In.calls ((rd_T60 l0_0 x3_1).f3) 1 7 false _ A68.out).mono ?_); rintro e w' ⟨rfl, ⟨nd, rfl⟩⟩; (try exact qD)) | (go_at_call 14; (with_reducible refine (ref_At.calls 3 x3_1 t129 t130 _ A73.out).mono ?_); rintro e w77 ⟨rfl, hb⟩; have n0_ := Aside0.mk (blk_below (g := gb108) (o := .cells #[.slice (some ad112) l0_0.length c0_0, .slice A0_1 l0_1.length c0_1] 46 (0, 0)) (qK BK108) hb); have n1_ := Aside0.mk (blk_below (g := gb109) (o := .cells #[.int .i64 x110000_2, .int .i64 x110001_2] 26 (0, 0)) (qK BK109) hb); have n2_ := Aside0.mk (blk_below (g := gb113) (o := .cells #[.string ((rd_T60 l0_0 x3_1).f0), .int .i64 ((rd_T60 l0_0 x3_1).f1), .int .i64 ((rd_T60 l0_0 x3_1).f2), .int .i64 ((rd_T60 l0_0 x3_1).f3)] 60 (0, 0)) (qK BK113) hb); have n3_ := Aside0.mk (below_step qB hb); clear BK108; clear BK109; clear BK113; clear HB; have BK108 := n0_; have BK109 := n1_; have BK113 := n2_; have HB := n3_; clear n0_ n1_ n2_ n3_; (try clear hb); (try clear hb2); (try clear hk); (try clear hi); have hnb78 := NB109_108.out; have hnc78 := NB108_109.out; have hcz79_0 : w77.cell? ⟨gb109, 0, none⟩ = some (.int .i64 x110000_2) := (blk_cell BK109.out 0).trans rfl; have hcz79_1 : w77.cell? ⟨gb109, 1, none⟩ = some (.int .i64 x110001_2) := (blk_cell BK109.out 1).trans rfl; have hfz79_0 := blk_frozen BK109.out 0; have hfz79_1 := blk_frozen BK109.out 1)))
               refine bodyPost_ret (results_cell_row rfl _ _ gb109 26 #[.int .i64 t129, .int .i64 t130] (0, 0) _ rfl (by (with_reducible repeat (first | refine blk_drewN ?_ _ | refine blk_drew ?_ | refine blk_alloc ?_ _)); refine blk_put (cs := #[.int .i64 t129, .int .i64 x110001_2]) ?_ 1 _ rfl; (with_reducible repeat (first | refine blk_drewN ?_ _ | refine blk_drew ?_ | refine blk_alloc ?_ _)); refine blk_put (cs := #[.int .i64 x110000_2, .int .i64 x110001_2]) ?_ 0 _ rfl; exact qK BK109) Try.underlying26 rfl (by kernel_rfl)) rfl ?_
               exact ⟨qE, qB⟩
             ·replace c67 := Bool.eq_false_iff.mpr c67
              subst c67
              have H1 : ((ref_At.f 3 x3_1).bind fun bt131 => (some (bt131.1, bt131.2))) = some (r1, r2) := by rw [if_neg (show ¬ (false = true) by decide)] at H; exact H
              clear H
              have H := H1
              clear H1
              replace H := Option.bind_eq_some_iff.mp H
              obtain ⟨⟨t131, t132⟩, A800, H⟩ := H
              replace H : (some (t131, t132)) = some (r1, r2) := H
              have A80 := Aside0.mk A800
              clear A800
              simp only [Option.some.injEq, Prod.mk.injEq] at H
              obtain ⟨rfl, rfl⟩ := H
              have hnb81 := NB113_108.out
              have hnc81 := NB108_113.out
              have hnb82 := NB113_109.out
              have hnc82 := NB109_113.out
              have hcz83_0 : wr.cell? ⟨gb113, 0, none⟩ = some (.string ((rd_T60 l0_0 x3_1).f0)) := (blk_cell BK113.out 0).trans rfl
              have hcz83_1 : wr.cell? ⟨gb113, 1, none⟩ = some (.int .i64 ((rd_T60 l0_0 x3_1).f1)) := (blk_cell BK113.out 1).trans rfl
              have hcz83_2 : wr.cell? ⟨gb113, 2, none⟩ = some (.int .i64 ((rd_T60 l0_0 x3_1).f2)) := (blk_cell BK113.out 2).trans rfl
              have hcz83_3 : wr.cell? ⟨gb113, 3, none⟩ = some (.int .i64 ((rd_T60 l0_0 x3_1).f3)) := (blk_cell BK113.out 3).trans rfl
              have hfz83_0 := blk_frozen BK113.out 0
              have hfz83_1 := blk_frozen BK113.out 1
              have hfz83_2 := blk_frozen BK113.out 2
              have hfz83_3 := blk_frozen BK113.out 3
              go_wp2_with (first | (go_at_call 13; (with_reducible refine (ref_In.calls ((rd_T60 l0_0 x3_1).f1) 0 1048575 true _ A63.out).mono ?_); rintro e w' ⟨rfl, ⟨nd, rfl⟩⟩; (try exact qD)) | (go_at_call 35; (with_reducible refine (ref_Power.calls k2 ((rd_T60 l0_0 x3_1).f2) 4096 false _ A66.out).mono ?_); rintro e w' ⟨rfl, ⟨nd, rfl⟩⟩; (try exact qD)) | (go_at_call 14; (with_reducible refine (ref_At.calls 3 x3_1 t131 t132 _ A80.out).mono ?_); rintro e w84 ⟨rfl, hb⟩; have n0_ := Aside0.mk (blk_below (g := gb108) (o := .cells #[.slice (some ad112) l0_0.length c0_0, .slice A0_1 l0_1.length c0_1] 46 (0, 0)) (qK BK108) hb); have n1_ := Aside0.mk (blk_below (g := gb109) (o := .cells #[.int .i64 x110000_2, .int .i64 x110001_2] 26 (0, 0)) (qK BK109) hb); have n2_ := Aside0.mk (blk_below (g := gb113) (o := .cells #[.string ((rd_T60 l0_0 x3_1).f0), .int .i64 ((rd_T60 l0_0 x3_1).f1), .int .i64 ((rd_T60 l0_0 x3_1).f2), .int .i64 ((rd_T60 l0_0 x3_1).f3)] 60 (0, 0)) (qK BK113) hb); have n3_ := Aside0.mk (below_step qB hb); clear BK108; clear BK109; clear BK113; clear HB; have BK108 := n0_; have BK109 := n1_; have BK113 := n2_; have HB := n3_; clear n0_ n1_ n2_ n3_; (try clear hb); (try clear hb2); (try clear hk); (try clear hi); have hnb85 := NB109_108.out; have hnc85 := NB108_109.out; have hcz86_0 : w84.cell? ⟨gb109, 0, none⟩ = some (.int .i64 x110000_2) := (blk_cell BK109.out 0).trans rfl; have hcz86_1 : w84.cell? ⟨gb109, 1, none⟩ = some (.int .i64 x110001_2) := (blk_cell BK109.out 1).trans rfl; have hfz86_0 := blk_frozen BK109.out 0; have hfz86_1 := blk_frozen BK109.out 1))
              repeat (go_quiet (first | (go_at_call 13; (with_reducible refine (ref_In.calls ((rd_T60 l0_0 x3_1).f1) 0 1048575 true _ A63.out).mono ?_); rintro e w' ⟨rfl, ⟨nd, rfl⟩⟩; (try exact qD)) | (go_at_call 35; (with_reducible refine (ref_Power.calls k2 ((rd_T60 l0_0 x3_1).f2) 4096 false _ A66.out).mono ?_); rintro e w' ⟨rfl, ⟨nd, rfl⟩⟩; (try exact qD)) | (go_at_call 14; (with_reducible refine (ref_At.calls 3 x3_1 t131 t132 _ A80.out).mono ?_); rintro e w84 ⟨rfl, hb⟩; have n0_ := Aside0.mk (blk_below (g := gb108) (o := .cells #[.slice (some ad112) l0_0.length c0_0, .slice A0_1 l0_1.length c0_1] 46 (0, 0)) (qK BK108) hb); have n1_ := Aside0.mk (blk_below (g := gb109) (o := .cells #[.int .i64 x110000_2, .int .i64 x110001_2] 26 (0, 0)) (qK BK109) hb); have n2_ := Aside0.mk (blk_below (g := gb113) (o := .cells #[.string ((rd_T60 l0_0 x3_1).f0), .int .i64 ((rd_T60 l0_0 x3_1).f1), .int .i64 ((rd_T60 l0_0 x3_1).f2), .int .i64 ((rd_T60 l0_0 x3_1).f3)] 60 (0, 0)) (qK BK113) hb); have n3_ := Aside0.mk (below_step qB hb); clear BK108; clear BK109; clear BK113; clear HB; have BK108 := n0_; have BK109 := n1_; have BK113 := n2_; have HB := n3_; clear n0_ n1_ n2_ n3_; (try clear hb); (try clear hb2); (try clear hk); (try clear hi); have hnb85 := NB109_108.out; have hnc85 := NB108_109.out; have hcz86_0 : w84.cell? ⟨gb109, 0, none⟩ = some (.int .i64 x110000_2) := (blk_cell BK109.out 0).trans rfl; have hcz86_1 : w84.cell? ⟨gb109, 1, none⟩ = some (.int .i64 x110001_2) := (blk_cell BK109.out 1).trans rfl; have hfz86_0 := blk_frozen BK109.out 0; have hfz86_1 := blk_frozen BK109.out 1)); try go_wp2_with (first | (go_at_call 13; (with_reducible refine (ref_In.calls ((rd_T60 l0_0 x3_1).f1) 0 1048575 true _ A63.out).mono ?_); rintro e w' ⟨rfl, ⟨nd, rfl⟩⟩; (try exact qD)) | (go_at_call 35; (with_reducible refine (ref_Power.calls k2 ((rd_T60 l0_0 x3_1).f2) 4096 false _ A66.out).mono ?_); rintro e w' ⟨rfl, ⟨nd, rfl⟩⟩; (try exact qD)) | (go_at_call 14; (with_reducible refine (ref_At.calls 3 x3_1 t131 t132 _ A80.out).mono ?_); rintro e w84 ⟨rfl, hb⟩; have n0_ := Aside0.mk (blk_below (g := gb108) (o := .cells #[.slice (some ad112) l0_0.length c0_0, .slice A0_1 l0_1.length c0_1] 46 (0, 0)) (qK BK108) hb); have n1_ := Aside0.mk (blk_below (g := gb109) (o := .cells #[.int .i64 x110000_2, .int .i64 x110001_2] 26 (0, 0)) (qK BK109) hb); have n2_ := Aside0.mk (blk_below (g := gb113) (o := .cells #[.string ((rd_T60 l0_0 x3_1).f0), .int .i64 ((rd_T60 l0_0 x3_1).f1), .int .i64 ((rd_T60 l0_0 x3_1).f2), .int .i64 ((rd_T60 l0_0 x3_1).f3)] 60 (0, 0)) (qK BK113) hb); have n3_ := Aside0.mk (below_step qB hb); clear BK108; clear BK109; clear BK113; clear HB; have BK108 := n0_; have BK109 := n1_; have BK113 := n2_; have HB := n3_; clear n0_ n1_ n2_ n3_; (try clear hb); (try clear hb2); (try clear hk); (try clear hi); have hnb85 := NB109_108.out; have hnc85 := NB108_109.out; have hcz86_0 : w84.cell? ⟨gb109, 0, none⟩ = some (.int .i64 x110000_2) := (blk_cell BK109.out 0).trans rfl; have hcz86_1 : w84.cell? ⟨gb109, 1, none⟩ = some (.int .i64 x110001_2) := (blk_cell BK109.out 1).trans rfl; have hfz86_0 := blk_frozen BK109.out 0; have hfz86_1 := blk_frozen BK109.out 1)))
              refine bodyPost_ret (results_cell_row rfl _ _ gb109 26 #[.int .i64 t131, .int .i64 t132] (0, 0) _ rfl (by (with_reducible repeat (first | refine blk_drewN ?_ _ | refine blk_drew ?_ | refine blk_alloc ?_ _)); refine blk_put (cs := #[.int .i64 t131, .int .i64 x110001_2]) ?_ 1 _ rfl; (with_reducible repeat (first | refine blk_drewN ?_ _ | refine blk_drew ?_ | refine blk_alloc ?_ _)); refine blk_put (cs := #[.int .i64 x110000_2, .int .i64 x110001_2]) ?_ 0 _ rfl; exact qK BK109) Try.underlying26 rfl (by kernel_rfl)) rfl ?_
              exact ⟨qE, qB⟩
            ·rw [if_neg c65] at H
             have c65b0 : ((Int.tmod ((rd_T60 l0_0 x3_1).f1) 256) == 0) = false := beq_eq_false_iff_ne.mpr c65
             have c65b1 : ((Int.tmod ((rd_T60 l0_0 x3_1).f1) 256) != 0) = true := bne_iff_ne.mpr c65
             replace H := Option.bind_eq_some_iff.mp H
             obtain ⟨⟨t133, t134⟩, A870, H⟩ := H
             replace H : (some (t133, t134)) = some (r1, r2) := H
             have A87 := Aside0.mk A870
             clear A870
             simp only [Option.some.injEq, Prod.mk.injEq] at H
             obtain ⟨rfl, rfl⟩ := H
             have hnb88 := NB113_108.out
             have hnc88 := NB108_113.out
             have hnb89 := NB113_109.out
             have hnc89 := NB109_113.out
             have hcz90_0 : wr.cell? ⟨gb113, 0, none⟩ = some (.string ((rd_T60 l0_0 x3_1).f0)) := (blk_cell BK113.out 0).trans rfl
             have hcz90_1 : wr.cell? ⟨gb113, 1, none⟩ = some (.int .i64 ((rd_T60 l0_0 x3_1).f1)) := (blk_cell BK113.out 1).trans rfl
             have hcz90_2 : wr.cell? ⟨gb113, 2, none⟩ = some (.int .i64 ((rd_T60 l0_0 x3_1).f2)) := (blk_cell BK113.out 2).trans rfl
             have hcz90_3 : wr.cell? ⟨gb113, 3, none⟩ = some (.int .i64 ((rd_T60 l0_0 x3_1).f3)) := (blk_cell BK113.out 3).trans rfl
             have hfz90_0 := blk_frozen BK113.out 0
             have hfz90_1 := blk_frozen BK113.out 1
             have hfz90_2 := blk_frozen BK113.out 2
             have hfz90_3 := blk_frozen BK113.out 3
             go_wp2_with (first | (go_at_call 13; (with_reducible refine (ref_In.calls ((rd_T60 l0_0 x3_1).f1) 0 1048575 true _ A63.out).mono ?_); rintro e w' ⟨rfl, ⟨nd, rfl⟩⟩; (try exact qD)) | (go_at_call 14; (with_reducible refine (ref_At.calls 3 x3_1 t133 t134 _ A87.out).mono ?_); rintro e w91 ⟨rfl, hb⟩; have n0_ := Aside0.mk (blk_below (g := gb108) (o := .cells #[.slice (some ad112) l0_0.length c0_0, .slice A0_1 l0_1.length c0_1] 46 (0, 0)) (qK BK108) hb); have n1_ := Aside0.mk (blk_below (g := gb109) (o := .cells #[.int .i64 x110000_2, .int .i64 x110001_2] 26 (0, 0)) (qK BK109) hb); have n2_ := Aside0.mk (blk_below (g := gb113) (o := .cells #[.string ((rd_T60 l0_0 x3_1).f0), .int .i64 ((rd_T60 l0_0 x3_1).f1), .int .i64 ((rd_T60 l0_0 x3_1).f2), .int .i64 ((rd_T60 l0_0 x3_1).f3)] 60 (0, 0)) (qK BK113) hb); have n3_ := Aside0.mk (below_step qB hb); clear BK108; clear BK109; clear BK113; clear HB; have BK108 := n0_; have BK109 := n1_; have BK113 := n2_; have HB := n3_; clear n0_ n1_ n2_ n3_; (try clear hb); (try clear hb2); (try clear hk); (try clear hi); have hnb92 := NB109_108.out; have hnc92 := NB108_109.out; have hcz93_0 : w91.cell? ⟨gb109, 0, none⟩ = some (.int .i64 x110000_2) := (blk_cell BK109.out 0).trans rfl; have hcz93_1 : w91.cell? ⟨gb109, 1, none⟩ = some (.int .i64 x110001_2) := (blk_cell BK109.out 1).trans rfl; have hfz93_0 := blk_frozen BK109.out 0; have hfz93_1 := blk_frozen BK109.out 1))
             repeat (go_quiet (first | (go_at_call 13; (with_reducible refine (ref_In.calls ((rd_T60 l0_0 x3_1).f1) 0 1048575 true _ A63.out).mono ?_); rintro e w' ⟨rfl, ⟨nd, rfl⟩⟩; (try exact qD)) | (go_at_call 14; (with_reducible refine (ref_At.calls 3 x3_1 t133 t134 _ A87.out).mono ?_); rintro e w91 ⟨rfl, hb⟩; have n0_ := Aside0.mk (blk_below (g := gb108) (o := .cells #[.slice (some ad112) l0_0.length c0_0, .slice A0_1 l0_1.length c0_1] 46 (0, 0)) (qK BK108) hb); have n1_ := Aside0.mk (blk_below (g := gb109) (o := .cells #[.int .i64 x110000_2, .int .i64 x110001_2] 26 (0, 0)) (qK BK109) hb); have n2_ := Aside0.mk (blk_below (g := gb113) (o := .cells #[.string ((rd_T60 l0_0 x3_1).f0), .int .i64 ((rd_T60 l0_0 x3_1).f1), .int .i64 ((rd_T60 l0_0 x3_1).f2), .int .i64 ((rd_T60 l0_0 x3_1).f3)] 60 (0, 0)) (qK BK113) hb); have n3_ := Aside0.mk (below_step qB hb); clear BK108; clear BK109; clear BK113; clear HB; have BK108 := n0_; have BK109 := n1_; have BK113 := n2_; have HB := n3_; clear n0_ n1_ n2_ n3_; (try clear hb); (try clear hb2); (try clear hk); (try clear hi); have hnb92 := NB109_108.out; have hnc92 := NB108_109.out; have hcz93_0 : w91.cell? ⟨gb109, 0, none⟩ = some (.int .i64 x110000_2) := (blk_cell BK109.out 0).trans rfl; have hcz93_1 : w91.cell? ⟨gb109, 1, none⟩ = some (.int .i64 x110001_2) := (blk_cell BK109.out 1).trans rfl; have hfz93_0 := blk_frozen BK109.out 0; have hfz93_1 := blk_frozen BK109.out 1)); try go_wp2_with (first | (go_at_call 13; (with_reducible refine (ref_In.calls ((rd_T60 l0_0 x3_1).f1) 0 1048575 true _ A63.out).mono ?_); rintro e w' ⟨rfl, ⟨nd, rfl⟩⟩; (try exact qD)) | (go_at_call 14; (with_reducible refine (ref_At.calls 3 x3_1 t133 t134 _ A87.out).mono ?_); rintro e w91 ⟨rfl, hb⟩; have n0_ := Aside0.mk (blk_below (g := gb108) (o := .cells #[.slice (some ad112) l0_0.length c0_0, .slice A0_1 l0_1.length c0_1] 46 (0, 0)) (qK BK108) hb); have n1_ := Aside0.mk (blk_below (g := gb109) (o := .cells #[.int .i64 x110000_2, .int .i64 x110001_2] 26 (0, 0)) (qK BK109) hb); have n2_ := Aside0.mk (blk_below (g := gb113) (o := .cells #[.string ((rd_T60 l0_0 x3_1).f0), .int .i64 ((rd_T60 l0_0 x3_1).f1), .int .i64 ((rd_T60 l0_0 x3_1).f2), .int .i64 ((rd_T60 l0_0 x3_1).f3)] 60 (0, 0)) (qK BK113) hb); have n3_ := Aside0.mk (below_step qB hb); clear BK108; clear BK109; clear BK113; clear HB; have BK108 := n0_; have BK109 := n1_; have BK113 := n2_; have HB := n3_; clear n0_ n1_ n2_ n3_; (try clear hb); (try clear hb2); (try clear hk); (try clear hi); have hnb92 := NB109_108.out; have hnc92 := NB108_109.out; have hcz93_0 : w91.cell? ⟨gb109, 0, none⟩ = some (.int .i64 x110000_2) := (blk_cell BK109.out 0).trans rfl; have hcz93_1 : w91.cell? ⟨gb109, 1, none⟩ = some (.int .i64 x110001_2) := (blk_cell BK109.out 1).trans rfl; have hfz93_0 := blk_frozen BK109.out 0; have hfz93_1 := blk_frozen BK109.out 1)))
             refine bodyPost_ret (results_cell_row rfl _ _ gb109 26 #[.int .i64 t133, .int .i64 t134] (0, 0) _ rfl (by (with_reducible repeat (first | refine blk_drewN ?_ _ | refine blk_drew ?_ | refine blk_alloc ?_ _)); refine blk_put (cs := #[.int .i64 t133, .int .i64 x110001_2]) ?_ 1 _ rfl; (with_reducible repeat (first | refine blk_drewN ?_ _ | refine blk_drew ?_ | refine blk_alloc ?_ _)); refine blk_put (cs := #[.int .i64 x110000_2, .int .i64 x110001_2]) ?_ 0 _ rfl; exact qK BK109) Try.underlying26 rfl (by kernel_rfl)) rfl ?_
             exact ⟨qE, qB⟩
           ·replace c64 := Bool.eq_false_iff.mpr c64
            subst c64
            have H1 : ((ref_At.f 3 x3_1).bind fun bt135 => (some (bt135.1, bt135.2))) = some (r1, r2) := by rw [if_neg (show ¬ (false = true) by decide)] at H; exact H
            clear H
            have H := H1
            clear H1
            replace H := Option.bind_eq_some_iff.mp H
            obtain ⟨⟨t135, t136⟩, A940, H⟩ := H
            replace H : (some (t135, t136)) = some (r1, r2) := H
            have A94 := Aside0.mk A940
            clear A940
            simp only [Option.some.injEq, Prod.mk.injEq] at H
            obtain ⟨rfl, rfl⟩ := H
            have hnb95 := NB113_108.out
            have hnc95 := NB108_113.out
            have hnb96 := NB113_109.out
            have hnc96 := NB109_113.out
            have hcz97_0 : wr.cell? ⟨gb113, 0, none⟩ = some (.string ((rd_T60 l0_0 x3_1).f0)) := (blk_cell BK113.out 0).trans rfl
            have hcz97_1 : wr.cell? ⟨gb113, 1, none⟩ = some (.int .i64 ((rd_T60 l0_0 x3_1).f1)) := (blk_cell BK113.out 1).trans rfl
            have hcz97_2 : wr.cell? ⟨gb113, 2, none⟩ = some (.int .i64 ((rd_T60 l0_0 x3_1).f2)) := (blk_cell BK113.out 2).trans rfl
            have hcz97_3 : wr.cell? ⟨gb113, 3, none⟩ = some (.int .i64 ((rd_T60 l0_0 x3_1).f3)) := (blk_cell BK113.out 3).trans rfl
            have hfz97_0 := blk_frozen BK113.out 0
            have hfz97_1 := blk_frozen BK113.out 1
            have hfz97_2 := blk_frozen BK113.out 2
            have hfz97_3 := blk_frozen BK113.out 3
            go_wp2_with (first | (go_at_call 13; (with_reducible refine (ref_In.calls ((rd_T60 l0_0 x3_1).f1) 0 1048575 false _ A63.out).mono ?_); rintro e w' ⟨rfl, ⟨nd, rfl⟩⟩; (try exact qD)) | (go_at_call 14; (with_reducible refine (ref_At.calls 3 x3_1 t135 t136 _ A94.out).mono ?_); rintro e w98 ⟨rfl, hb⟩; have n0_ := Aside0.mk (blk_below (g := gb108) (o := .cells #[.slice (some ad112) l0_0.length c0_0, .slice A0_1 l0_1.length c0_1] 46 (0, 0)) (qK BK108) hb); have n1_ := Aside0.mk (blk_below (g := gb109) (o := .cells #[.int .i64 x110000_2, .int .i64 x110001_2] 26 (0, 0)) (qK BK109) hb); have n2_ := Aside0.mk (blk_below (g := gb113) (o := .cells #[.string ((rd_T60 l0_0 x3_1).f0), .int .i64 ((rd_T60 l0_0 x3_1).f1), .int .i64 ((rd_T60 l0_0 x3_1).f2), .int .i64 ((rd_T60 l0_0 x3_1).f3)] 60 (0, 0)) (qK BK113) hb); have n3_ := Aside0.mk (below_step qB hb); clear BK108; clear BK109; clear BK113; clear HB; have BK108 := n0_; have BK109 := n1_; have BK113 := n2_; have HB := n3_; clear n0_ n1_ n2_ n3_; (try clear hb); (try clear hb2); (try clear hk); (try clear hi); have hnb99 := NB109_108.out; have hnc99 := NB108_109.out; have hcz100_0 : w98.cell? ⟨gb109, 0, none⟩ = some (.int .i64 x110000_2) := (blk_cell BK109.out 0).trans rfl; have hcz100_1 : w98.cell? ⟨gb109, 1, none⟩ = some (.int .i64 x110001_2) := (blk_cell BK109.out 1).trans rfl; have hfz100_0 := blk_frozen BK109.out 0; have hfz100_1 := blk_frozen BK109.out 1))
            repeat (go_quiet (first | (go_at_call 13; (with_reducible refine (ref_In.calls ((rd_T60 l0_0 x3_1).f1) 0 1048575 false _ A63.out).mono ?_); rintro e w' ⟨rfl, ⟨nd, rfl⟩⟩; (try exact qD)) | (go_at_call 14; (with_reducible refine (ref_At.calls 3 x3_1 t135 t136 _ A94.out).mono ?_); rintro e w98 ⟨rfl, hb⟩; have n0_ := Aside0.mk (blk_below (g := gb108) (o := .cells #[.slice (some ad112) l0_0.length c0_0, .slice A0_1 l0_1.length c0_1] 46 (0, 0)) (qK BK108) hb); have n1_ := Aside0.mk (blk_below (g := gb109) (o := .cells #[.int .i64 x110000_2, .int .i64 x110001_2] 26 (0, 0)) (qK BK109) hb); have n2_ := Aside0.mk (blk_below (g := gb113) (o := .cells #[.string ((rd_T60 l0_0 x3_1).f0), .int .i64 ((rd_T60 l0_0 x3_1).f1), .int .i64 ((rd_T60 l0_0 x3_1).f2), .int .i64 ((rd_T60 l0_0 x3_1).f3)] 60 (0, 0)) (qK BK113) hb); have n3_ := Aside0.mk (below_step qB hb); clear BK108; clear BK109; clear BK113; clear HB; have BK108 := n0_; have BK109 := n1_; have BK113 := n2_; have HB := n3_; clear n0_ n1_ n2_ n3_; (try clear hb); (try clear hb2); (try clear hk); (try clear hi); have hnb99 := NB109_108.out; have hnc99 := NB108_109.out; have hcz100_0 : w98.cell? ⟨gb109, 0, none⟩ = some (.int .i64 x110000_2) := (blk_cell BK109.out 0).trans rfl; have hcz100_1 : w98.cell? ⟨gb109, 1, none⟩ = some (.int .i64 x110001_2) := (blk_cell BK109.out 1).trans rfl; have hfz100_0 := blk_frozen BK109.out 0; have hfz100_1 := blk_frozen BK109.out 1)); try go_wp2_with (first | (go_at_call 13; (with_reducible refine (ref_In.calls ((rd_T60 l0_0 x3_1).f1) 0 1048575 false _ A63.out).mono ?_); rintro e w' ⟨rfl, ⟨nd, rfl⟩⟩; (try exact qD)) | (go_at_call 14; (with_reducible refine (ref_At.calls 3 x3_1 t135 t136 _ A94.out).mono ?_); rintro e w98 ⟨rfl, hb⟩; have n0_ := Aside0.mk (blk_below (g := gb108) (o := .cells #[.slice (some ad112) l0_0.length c0_0, .slice A0_1 l0_1.length c0_1] 46 (0, 0)) (qK BK108) hb); have n1_ := Aside0.mk (blk_below (g := gb109) (o := .cells #[.int .i64 x110000_2, .int .i64 x110001_2] 26 (0, 0)) (qK BK109) hb); have n2_ := Aside0.mk (blk_below (g := gb113) (o := .cells #[.string ((rd_T60 l0_0 x3_1).f0), .int .i64 ((rd_T60 l0_0 x3_1).f1), .int .i64 ((rd_T60 l0_0 x3_1).f2), .int .i64 ((rd_T60 l0_0 x3_1).f3)] 60 (0, 0)) (qK BK113) hb); have n3_ := Aside0.mk (below_step qB hb); clear BK108; clear BK109; clear BK113; clear HB; have BK108 := n0_; have BK109 := n1_; have BK113 := n2_; have HB := n3_; clear n0_ n1_ n2_ n3_; (try clear hb); (try clear hb2); (try clear hk); (try clear hi); have hnb99 := NB109_108.out; have hnc99 := NB108_109.out; have hcz100_0 : w98.cell? ⟨gb109, 0, none⟩ = some (.int .i64 x110000_2) := (blk_cell BK109.out 0).trans rfl; have hcz100_1 : w98.cell? ⟨gb109, 1, none⟩ = some (.int .i64 x110001_2) := (blk_cell BK109.out 1).trans rfl; have hfz100_0 := blk_frozen BK109.out 0; have hfz100_1 := blk_frozen BK109.out 1)))
            refine bodyPost_ret (results_cell_row rfl _ _ gb109 26 #[.int .i64 t135, .int .i64 t136] (0, 0) _ rfl (by (with_reducible repeat (first | refine blk_drewN ?_ _ | refine blk_drew ?_ | refine blk_alloc ?_ _)); refine blk_put (cs := #[.int .i64 t135, .int .i64 x110001_2]) ?_ 1 _ rfl; (with_reducible repeat (first | refine blk_drewN ?_ _ | refine blk_drew ?_ | refine blk_alloc ?_ _)); refine blk_put (cs := #[.int .i64 x110000_2, .int .i64 x110001_2]) ?_ 0 _ rfl; exact qK BK109) Try.underlying26 rfl (by kernel_rfl)) rfl ?_
            exact ⟨qE, qB⟩
      ·replace c17 := Bool.eq_false_iff.mpr c17
       subst c17
       have H1 : ((ref_At.f 12 x3_1).bind fun bt115 => (some (bt115.1, bt115.2))) = some (r1, r2) := by rw [if_neg (show ¬ (false = true) by decide)] at H; exact H
       clear H
       have H := H1
       clear H1
       replace H := Option.bind_eq_some_iff.mp H
       obtain ⟨⟨t115, t116⟩, A1010, H⟩ := H
       replace H : (some (t115, t116)) = some (r1, r2) := H
       have A101 := Aside0.mk A1010
       clear A1010
       simp only [Option.some.injEq, Prod.mk.injEq] at H
       obtain ⟨rfl, rfl⟩ := H
       have hnb102 := NB108_109.out
       have hnc102 := NB109_108.out
       have hcz103_0 : wr.cell? ⟨gb108, 0, none⟩ = some (.slice A0_0 l0_0.length c0_0) := (blk_cell BK108.out 0).trans rfl
       have hcz103_1 : wr.cell? ⟨gb108, 1, none⟩ = some (.slice A0_1 l0_1.length c0_1) := (blk_cell BK108.out 1).trans rfl
       have hfz103_0 := blk_frozen BK108.out 0
       have hfz103_1 := blk_frozen BK108.out 1
       have p112 : 0 ≤ (x3_1 : Int) := of_decide_eq_true qO
       have q112 : x3_1 < (l0_0.length : Int) := of_decide_eq_true qO
       obtain ⟨ad112, e112, hx112_0, hx112_1, hx112_2, hx112_3⟩ := at_T60 HR0_0.out x3_1 p112 q112
       cases e112
       replace hx112_0 := (HB.out.cell (World.block_lt_of_cell? w _ hx112_0)).trans hx112_0
       replace hx112_1 := (HB.out.cell (World.block_lt_of_cell? w _ hx112_1)).trans hx112_1
       replace hx112_2 := (HB.out.cell (World.block_lt_of_cell? w _ hx112_2)).trans hx112_2
       replace hx112_3 := (HB.out.cell (World.block_lt_of_cell? w _ hx112_3)).trans hx112_3
       replace p112 := eq_true p112
       replace q112 := eq_true q112
       go_wp2_with (first | ((with_reducible refine gate_dst (N := 4) rfl ?_); refine qX (N := 4) (cs := #[.string (⟨#[]⟩ : ByteArray), .int .i64 0, .int .i64 0, .int .i64 0]) (t := 60) ?_; intro gb113 hg w104 hbox hb; have n0_ := Aside0.mk (blk_below (g := gb108) (o := .cells #[.slice (some ad112) l0_0.length c0_0, .slice A0_1 l0_1.length c0_1] 46 (0, 0)) (qK BK108) hb); have n1_ := Aside0.mk (blk_below (g := gb109) (o := .cells #[.int .i64 x110000_1, .int .i64 x110001_1] 26 (0, 0)) (qK BK109) hb); have n2_ := Aside0.mk (below_step qB hb); have n3_ := Aside0.mk (hbox); have n4_ := Aside0.mk ((qG hg : w.heap.size ≤ gb113)); have n5_ := Aside0.mk ((qG hg : w.heap.size ≤ gb113)); have n6_ := Aside0.mk ((by rw [hg]; exact Nat.ne_of_lt (blk_lt (g := gb108) (o := .cells #[.slice (some ad112) l0_0.length c0_0, .slice A0_1 l0_1.length c0_1] 46 (0, 0)) (qK BK108)) : gb108 ≠ gb113)); have n7_ := Aside0.mk ((by rw [hg]; exact Nat.ne_of_gt (blk_lt (g := gb108) (o := .cells #[.slice (some ad112) l0_0.length c0_0, .slice A0_1 l0_1.length c0_1] 46 (0, 0)) (qK BK108)) : gb113 ≠ gb108)); have n8_ := Aside0.mk ((by rw [hg]; exact Nat.ne_of_lt (blk_lt (g := gb109) (o := .cells #[.int .i64 x110000_1, .int .i64 x110001_1] 26 (0, 0)) (qK BK109)) : gb109 ≠ gb113)); have n9_ := Aside0.mk ((by rw [hg]; exact Nat.ne_of_gt (blk_lt (g := gb109) (o := .cells #[.int .i64 x110000_1, .int .i64 x110001_1] 26 (0, 0)) (qK BK109)) : gb113 ≠ gb109)); clear BK108; clear BK109; clear HB; have BK108 := n0_; have BK109 := n1_; have HB := n2_; have BK113 := n3_; have GW113 := n4_; have GE113 := n5_; have NB108_113 := n6_; have NB113_108 := n7_; have NB109_113 := n8_; have NB113_109 := n9_; clear n0_ n1_ n2_ n3_ n4_ n5_ n6_ n7_ n8_ n9_; clear hb hbox hg; have hnb105 := NB113_108.out; have hnc105 := NB108_113.out; have hnb106 := NB113_109.out; have hnc106 := NB109_113.out; have hcz107_0 : w104.cell? ⟨gb113, 0, none⟩ = some (.string (⟨#[]⟩ : ByteArray)) := (blk_cell BK113.out 0).trans rfl; have hcz107_1 : w104.cell? ⟨gb113, 1, none⟩ = some (.int .i64 0) := (blk_cell BK113.out 1).trans rfl; have hcz107_2 : w104.cell? ⟨gb113, 2, none⟩ = some (.int .i64 0) := (blk_cell BK113.out 2).trans rfl; have hcz107_3 : w104.cell? ⟨gb113, 3, none⟩ = some (.int .i64 0) := (blk_cell BK113.out 3).trans rfl; have hfz107_0 := blk_frozen BK113.out 0; have hfz107_1 := blk_frozen BK113.out 1; have hfz107_2 := blk_frozen BK113.out 2; have hfz107_3 := blk_frozen BK113.out 3) | (go_at_call 34; (with_reducible refine (ref_NameOk.calls k1 ((rd_T60 l0_0 x3_1).f0) false _ A16.out).mono ?_); rintro e w' ⟨rfl, ⟨nd, rfl⟩⟩; (try exact qD)) | (go_at_call 14; (with_reducible refine (ref_At.calls 12 x3_1 t115 t116 _ A101.out).mono ?_); rintro e w108 ⟨rfl, hb⟩; have n0_ := Aside0.mk (blk_below (g := gb108) (o := .cells #[.slice (some ad112) l0_0.length c0_0, .slice A0_1 l0_1.length c0_1] 46 (0, 0)) (by (with_reducible repeat (first | refine blk_drewN ?_ _ | refine blk_drew ?_ | refine blk_alloc ?_ _)); refine blk_far ?_ NB108_113.out _; (with_reducible repeat (first | refine blk_drewN ?_ _ | refine blk_drew ?_ | refine blk_alloc ?_ _)); refine blk_far ?_ NB108_113.out _; (with_reducible repeat (first | refine blk_drewN ?_ _ | refine blk_drew ?_ | refine blk_alloc ?_ _)); refine blk_far ?_ NB108_113.out _; (with_reducible repeat (first | refine blk_drewN ?_ _ | refine blk_drew ?_ | refine blk_alloc ?_ _)); refine blk_far ?_ NB108_113.out _; exact qK BK108) hb); have n1_ := Aside0.mk (blk_below (g := gb109) (o := .cells #[.int .i64 x110000_1, .int .i64 x110001_1] 26 (0, 0)) (by (with_reducible repeat (first | refine blk_drewN ?_ _ | refine blk_drew ?_ | refine blk_alloc ?_ _)); refine blk_far ?_ NB109_113.out _; (with_reducible repeat (first | refine blk_drewN ?_ _ | refine blk_drew ?_ | refine blk_alloc ?_ _)); refine blk_far ?_ NB109_113.out _; (with_reducible repeat (first | refine blk_drewN ?_ _ | refine blk_drew ?_ | refine blk_alloc ?_ _)); refine blk_far ?_ NB109_113.out _; (with_reducible repeat (first | refine blk_drewN ?_ _ | refine blk_drew ?_ | refine blk_alloc ?_ _)); refine blk_far ?_ NB109_113.out _; exact qK BK109) hb); have n2_ := Aside0.mk (blk_below (g := gb113) (o := .cells #[.string ((rd_T60 l0_0 x3_1).f0), .int .i64 ((rd_T60 l0_0 x3_1).f1), .int .i64 ((rd_T60 l0_0 x3_1).f2), .int .i64 ((rd_T60 l0_0 x3_1).f3)] 60 (0, 0)) (by (with_reducible repeat (first | refine blk_drewN ?_ _ | refine blk_drew ?_ | refine blk_alloc ?_ _)); refine blk_put (cs := #[.string ((rd_T60 l0_0 x3_1).f0), .int .i64 ((rd_T60 l0_0 x3_1).f1), .int .i64 ((rd_T60 l0_0 x3_1).f2), .int .i64 0]) ?_ 3 _ rfl; (with_reducible repeat (first | refine blk_drewN ?_ _ | refine blk_drew ?_ | refine blk_alloc ?_ _)); refine blk_put (cs := #[.string ((rd_T60 l0_0 x3_1).f0), .int .i64 ((rd_T60 l0_0 x3_1).f1), .int .i64 0, .int .i64 0]) ?_ 2 _ rfl; (with_reducible repeat (first | refine blk_drewN ?_ _ | refine blk_drew ?_ | refine blk_alloc ?_ _)); refine blk_put (cs := #[.string ((rd_T60 l0_0 x3_1).f0), .int .i64 0, .int .i64 0, .int .i64 0]) ?_ 1 _ rfl; (with_reducible repeat (first | refine blk_drewN ?_ _ | refine blk_drew ?_ | refine blk_alloc ?_ _)); refine blk_put (cs := #[.string (⟨#[]⟩ : ByteArray), .int .i64 0, .int .i64 0, .int .i64 0]) ?_ 0 _ rfl; exact qK BK113) hb); have n3_ := Aside0.mk (below_step qB hb); clear BK108; clear BK109; clear BK113; clear HB; have BK108 := n0_; have BK109 := n1_; have BK113 := n2_; have HB := n3_; clear n0_ n1_ n2_ n3_; (try clear hb); (try clear hb2); (try clear hk); (try clear hi); have hcz109_0 : w108.cell? ⟨gb109, 0, none⟩ = some (.int .i64 x110000_1) := (blk_cell BK109.out 0).trans rfl; have hcz109_1 : w108.cell? ⟨gb109, 1, none⟩ = some (.int .i64 x110001_1) := (blk_cell BK109.out 1).trans rfl; have hfz109_0 := blk_frozen BK109.out 0; have hfz109_1 := blk_frozen BK109.out 1))
       repeat (go_quiet (first | ((with_reducible refine gate_dst (N := 4) rfl ?_); refine qX (N := 4) (cs := #[.string (⟨#[]⟩ : ByteArray), .int .i64 0, .int .i64 0, .int .i64 0]) (t := 60) ?_; intro gb113 hg w104 hbox hb; have n0_ := Aside0.mk (blk_below (g := gb108) (o := .cells #[.slice (some ad112) l0_0.length c0_0, .slice A0_1 l0_1.length c0_1] 46 (0, 0)) (qK BK108) hb); have n1_ := Aside0.mk (blk_below (g := gb109) (o := .cells #[.int .i64 x110000_1, .int .i64 x110001_1] 26 (0, 0)) (qK BK109) hb); have n2_ := Aside0.mk (below_step qB hb); have n3_ := Aside0.mk (hbox); have n4_ := Aside0.mk ((qG hg : w.heap.size ≤ gb113)); have n5_ := Aside0.mk ((qG hg : w.heap.size ≤ gb113)); have n6_ := Aside0.mk ((by rw [hg]; exact Nat.ne_of_lt (blk_lt (g := gb108) (o := .cells #[.slice (some ad112) l0_0.length c0_0, .slice A0_1 l0_1.length c0_1] 46 (0, 0)) (qK BK108)) : gb108 ≠ gb113)); have n7_ := Aside0.mk ((by rw [hg]; exact Nat.ne_of_gt (blk_lt (g := gb108) (o := .cells #[.slice (some ad112) l0_0.length c0_0, .slice A0_1 l0_1.length c0_1] 46 (0, 0)) (qK BK108)) : gb113 ≠ gb108)); have n8_ := Aside0.mk ((by rw [hg]; exact Nat.ne_of_lt (blk_lt (g := gb109) (o := .cells #[.int .i64 x110000_1, .int .i64 x110001_1] 26 (0, 0)) (qK BK109)) : gb109 ≠ gb113)); have n9_ := Aside0.mk ((by rw [hg]; exact Nat.ne_of_gt (blk_lt (g := gb109) (o := .cells #[.int .i64 x110000_1, .int .i64 x110001_1] 26 (0, 0)) (qK BK109)) : gb113 ≠ gb109)); clear BK108; clear BK109; clear HB; have BK108 := n0_; have BK109 := n1_; have HB := n2_; have BK113 := n3_; have GW113 := n4_; have GE113 := n5_; have NB108_113 := n6_; have NB113_108 := n7_; have NB109_113 := n8_; have NB113_109 := n9_; clear n0_ n1_ n2_ n3_ n4_ n5_ n6_ n7_ n8_ n9_; clear hb hbox hg; have hnb105 := NB113_108.out; have hnc105 := NB108_113.out; have hnb106 := NB113_109.out; have hnc106 := NB109_113.out; have hcz107_0 : w104.cell? ⟨gb113, 0, none⟩ = some (.string (⟨#[]⟩ : ByteArray)) := (blk_cell BK113.out 0).trans rfl; have hcz107_1 : w104.cell? ⟨gb113, 1, none⟩ = some (.int .i64 0) := (blk_cell BK113.out 1).trans rfl; have hcz107_2 : w104.cell? ⟨gb113, 2, none⟩ = some (.int .i64 0) := (blk_cell BK113.out 2).trans rfl; have hcz107_3 : w104.cell? ⟨gb113, 3, none⟩ = some (.int .i64 0) := (blk_cell BK113.out 3).trans rfl; have hfz107_0 := blk_frozen BK113.out 0; have hfz107_1 := blk_frozen BK113.out 1; have hfz107_2 := blk_frozen BK113.out 2; have hfz107_3 := blk_frozen BK113.out 3) | (go_at_call 34; (with_reducible refine (ref_NameOk.calls k1 ((rd_T60 l0_0 x3_1).f0) false _ A16.out).mono ?_); rintro e w' ⟨rfl, ⟨nd, rfl⟩⟩; (try exact qD)) | (go_at_call 14; (with_reducible refine (ref_At.calls 12 x3_1 t115 t116 _ A101.out).mono ?_); rintro e w108 ⟨rfl, hb⟩; have n0_ := Aside0.mk (blk_below (g := gb108) (o := .cells #[.slice (some ad112) l0_0.length c0_0, .slice A0_1 l0_1.length c0_1] 46 (0, 0)) (by (with_reducible repeat (first | refine blk_drewN ?_ _ | refine blk_drew ?_ | refine blk_alloc ?_ _)); refine blk_far ?_ NB108_113.out _; (with_reducible repeat (first | refine blk_drewN ?_ _ | refine blk_drew ?_ | refine blk_alloc ?_ _)); refine blk_far ?_ NB108_113.out _; (with_reducible repeat (first | refine blk_drewN ?_ _ | refine blk_drew ?_ | refine blk_alloc ?_ _)); refine blk_far ?_ NB108_113.out _; (with_reducible repeat (first | refine blk_drewN ?_ _ | refine blk_drew ?_ | refine blk_alloc ?_ _)); refine blk_far ?_ NB108_113.out _; exact qK BK108) hb); have n1_ := Aside0.mk (blk_below (g := gb109) (o := .cells #[.int .i64 x110000_1, .int .i64 x110001_1] 26 (0, 0)) (by (with_reducible repeat (first | refine blk_drewN ?_ _ | refine blk_drew ?_ | refine blk_alloc ?_ _)); refine blk_far ?_ NB109_113.out _; (with_reducible repeat (first | refine blk_drewN ?_ _ | refine blk_drew ?_ | refine blk_alloc ?_ _)); refine blk_far ?_ NB109_113.out _; (with_reducible repeat (first | refine blk_drewN ?_ _ | refine blk_drew ?_ | refine blk_alloc ?_ _)); refine blk_far ?_ NB109_113.out _; (with_reducible repeat (first | refine blk_drewN ?_ _ | refine blk_drew ?_ | refine blk_alloc ?_ _)); refine blk_far ?_ NB109_113.out _; exact qK BK109) hb); have n2_ := Aside0.mk (blk_below (g := gb113) (o := .cells #[.string ((rd_T60 l0_0 x3_1).f0), .int .i64 ((rd_T60 l0_0 x3_1).f1), .int .i64 ((rd_T60 l0_0 x3_1).f2), .int .i64 ((rd_T60 l0_0 x3_1).f3)] 60 (0, 0)) (by (with_reducible repeat (first | refine blk_drewN ?_ _ | refine blk_drew ?_ | refine blk_alloc ?_ _)); refine blk_put (cs := #[.string ((rd_T60 l0_0 x3_1).f0), .int .i64 ((rd_T60 l0_0 x3_1).f1), .int .i64 ((rd_T60 l0_0 x3_1).f2), .int .i64 0]) ?_ 3 _ rfl; (with_reducible repeat (first | refine blk_drewN ?_ _ | refine blk_drew ?_ | refine blk_alloc ?_ _)); refine blk_put (cs := #[.string ((rd_T60 l0_0 x3_1).f0), .int .i64 ((rd_T60 l0_0 x3_1).f1), .int .i64 0, .int .i64 0]) ?_ 2 _ rfl; (with_reducible repeat (first | refine blk_drewN ?_ _ | refine blk_drew ?_ | refine blk_alloc ?_ _)); refine blk_put (cs := #[.string ((rd_T60 l0_0 x3_1).f0), .int .i64 0, .int .i64 0, .int .i64 0]) ?_ 1 _ rfl; (with_reducible repeat (first | refine blk_drewN ?_ _ | refine blk_drew ?_ | refine blk_alloc ?_ _)); refine blk_put (cs := #[.string (⟨#[]⟩ : ByteArray), .int .i64 0, .int .i64 0, .int .i64 0]) ?_ 0 _ rfl; exact qK BK113) hb); have n3_ := Aside0.mk (below_step qB hb); clear BK108; clear BK109; clear BK113; clear HB; have BK108 := n0_; have BK109 := n1_; have BK113 := n2_; have HB := n3_; clear n0_ n1_ n2_ n3_; (try clear hb); (try clear hb2); (try clear hk); (try clear hi); have hcz109_0 : w108.cell? ⟨gb109, 0, none⟩ = some (.int .i64 x110000_1) := (blk_cell BK109.out 0).trans rfl; have hcz109_1 : w108.cell? ⟨gb109, 1, none⟩ = some (.int .i64 x110001_1) := (blk_cell BK109.out 1).trans rfl; have hfz109_0 := blk_frozen BK109.out 0; have hfz109_1 := blk_frozen BK109.out 1)); try go_wp2_with (first | ((with_reducible refine gate_dst (N := 4) rfl ?_); refine qX (N := 4) (cs := #[.string (⟨#[]⟩ : ByteArray), .int .i64 0, .int .i64 0, .int .i64 0]) (t := 60) ?_; intro gb113 hg w104 hbox hb; have n0_ := Aside0.mk (blk_below (g := gb108) (o := .cells #[.slice (some ad112) l0_0.length c0_0, .slice A0_1 l0_1.length c0_1] 46 (0, 0)) (qK BK108) hb); have n1_ := Aside0.mk (blk_below (g := gb109) (o := .cells #[.int .i64 x110000_1, .int .i64 x110001_1] 26 (0, 0)) (qK BK109) hb); have n2_ := Aside0.mk (below_step qB hb); have n3_ := Aside0.mk (hbox); have n4_ := Aside0.mk ((qG hg : w.heap.size ≤ gb113)); have n5_ := Aside0.mk ((qG hg : w.heap.size ≤ gb113)); have n6_ := Aside0.mk ((by rw [hg]; exact Nat.ne_of_lt (blk_lt (g := gb108) (o := .cells #[.slice (some ad112) l0_0.length c0_0, .slice A0_1 l0_1.length c0_1] 46 (0, 0)) (qK BK108)) : gb108 ≠ gb113)); have n7_ := Aside0.mk ((by rw [hg]; exact Nat.ne_of_gt (blk_lt (g := gb108) (o := .cells #[.slice (some ad112) l0_0.length c0_0, .slice A0_1 l0_1.length c0_1] 46 (0, 0)) (qK BK108)) : gb113 ≠ gb108)); have n8_ := Aside0.mk ((by rw [hg]; exact Nat.ne_of_lt (blk_lt (g := gb109) (o := .cells #[.int .i64 x110000_1, .int .i64 x110001_1] 26 (0, 0)) (qK BK109)) : gb109 ≠ gb113)); have n9_ := Aside0.mk ((by rw [hg]; exact Nat.ne_of_gt (blk_lt (g := gb109) (o := .cells #[.int .i64 x110000_1, .int .i64 x110001_1] 26 (0, 0)) (qK BK109)) : gb113 ≠ gb109)); clear BK108; clear BK109; clear HB; have BK108 := n0_; have BK109 := n1_; have HB := n2_; have BK113 := n3_; have GW113 := n4_; have GE113 := n5_; have NB108_113 := n6_; have NB113_108 := n7_; have NB109_113 := n8_; have NB113_109 := n9_; clear n0_ n1_ n2_ n3_ n4_ n5_ n6_ n7_ n8_ n9_; clear hb hbox hg; have hnb105 := NB113_108.out; have hnc105 := NB108_113.out; have hnb106 := NB113_109.out; have hnc106 := NB109_113.out; have hcz107_0 : w104.cell? ⟨gb113, 0, none⟩ = some (.string (⟨#[]⟩ : ByteArray)) := (blk_cell BK113.out 0).trans rfl; have hcz107_1 : w104.cell? ⟨gb113, 1, none⟩ = some (.int .i64 0) := (blk_cell BK113.out 1).trans rfl; have hcz107_2 : w104.cell? ⟨gb113, 2, none⟩ = some (.int .i64 0) := (blk_cell BK113.out 2).trans rfl; have hcz107_3 : w104.cell? ⟨gb113, 3, none⟩ = some (.int .i64 0) := (blk_cell BK113.out 3).trans rfl; have hfz107_0 := blk_frozen BK113.out 0; have hfz107_1 := blk_frozen BK113.out 1; have hfz107_2 := blk_frozen BK113.out 2; have hfz107_3 := blk_frozen BK113.out 3) | (go_at_call 34; (with_reducible refine (ref_NameOk.calls k1 ((rd_T60 l0_0 x3_1).f0) false _ A16.out).mono ?_); rintro e w' ⟨rfl, ⟨nd, rfl⟩⟩; (try exact qD)) | (go_at_call 14; (with_reducible refine (ref_At.calls 12 x3_1 t115 t116 _ A101.out).mono ?_); rintro e w108 ⟨rfl, hb⟩; have n0_ := Aside0.mk (blk_below (g := gb108) (o := .cells #[.slice (some ad112) l0_0.length c0_0, .slice A0_1 l0_1.length c0_1] 46 (0, 0)) (by (with_reducible repeat (first | refine blk_drewN ?_ _ | refine blk_drew ?_ | refine blk_alloc ?_ _)); refine blk_far ?_ NB108_113.out _; (with_reducible repeat (first | refine blk_drewN ?_ _ | refine blk_drew ?_ | refine blk_alloc ?_ _)); refine blk_far ?_ NB108_113.out _; (with_reducible repeat (first | refine blk_drewN ?_ _ | refine blk_drew ?_ | refine blk_alloc ?_ _)); refine blk_far ?_ NB108_113.out _; (with_reducible repeat (first | refine blk_drewN ?_ _ | refine blk_drew ?_ | refine blk_alloc ?_ _)); refine blk_far ?_ NB108_113.out _; exact qK BK108) hb); have n1_ := Aside0.mk (blk_below (g := gb109) (o := .cells #[.int .i64 x110000_1, .int .i64 x110001_1] 26 (0, 0)) (by (with_reducible repeat (first | refine blk_drewN ?_ _ | refine blk_drew ?_ | refine blk_alloc ?_ _)); refine blk_far ?_ NB109_113.out _; (with_reducible repeat (first | refine blk_drewN ?_ _ | refine blk_drew ?_ | refine blk_alloc ?_ _)); refine blk_far ?_ NB109_113.out _; (with_reducible repeat (first | refine blk_drewN ?_ _ | refine blk_drew ?_ | refine blk_alloc ?_ _)); refine blk_far ?_ NB109_113.out _; (with_reducible repeat (first | refine blk_drewN ?_ _ | refine blk_drew ?_ | refine blk_alloc ?_ _)); refine blk_far ?_ NB109_113.out _; exact qK BK109) hb); have n2_ := Aside0.mk (blk_below (g := gb113) (o := .cells #[.string ((rd_T60 l0_0 x3_1).f0), .int .i64 ((rd_T60 l0_0 x3_1).f1), .int .i64 ((rd_T60 l0_0 x3_1).f2), .int .i64 ((rd_T60 l0_0 x3_1).f3)] 60 (0, 0)) (by (with_reducible repeat (first | refine blk_drewN ?_ _ | refine blk_drew ?_ | refine blk_alloc ?_ _)); refine blk_put (cs := #[.string ((rd_T60 l0_0 x3_1).f0), .int .i64 ((rd_T60 l0_0 x3_1).f1), .int .i64 ((rd_T60 l0_0 x3_1).f2), .int .i64 0]) ?_ 3 _ rfl; (with_reducible repeat (first | refine blk_drewN ?_ _ | refine blk_drew ?_ | refine blk_alloc ?_ _)); refine blk_put (cs := #[.string ((rd_T60 l0_0 x3_1).f0), .int .i64 ((rd_T60 l0_0 x3_1).f1), .int .i64 0, .int .i64 0]) ?_ 2 _ rfl; (with_reducible repeat (first | refine blk_drewN ?_ _ | refine blk_drew ?_ | refine blk_alloc ?_ _)); refine blk_put (cs := #[.string ((rd_T60 l0_0 x3_1).f0), .int .i64 0, .int .i64 0, .int .i64 0]) ?_ 1 _ rfl; (with_reducible repeat (first | refine blk_drewN ?_ _ | refine blk_drew ?_ | refine blk_alloc ?_ _)); refine blk_put (cs := #[.string (⟨#[]⟩ : ByteArray), .int .i64 0, .int .i64 0, .int .i64 0]) ?_ 0 _ rfl; exact qK BK113) hb); have n3_ := Aside0.mk (below_step qB hb); clear BK108; clear BK109; clear BK113; clear HB; have BK108 := n0_; have BK109 := n1_; have BK113 := n2_; have HB := n3_; clear n0_ n1_ n2_ n3_; (try clear hb); (try clear hb2); (try clear hk); (try clear hi); have hcz109_0 : w108.cell? ⟨gb109, 0, none⟩ = some (.int .i64 x110000_1) := (blk_cell BK109.out 0).trans rfl; have hcz109_1 : w108.cell? ⟨gb109, 1, none⟩ = some (.int .i64 x110001_1) := (blk_cell BK109.out 1).trans rfl; have hfz109_0 := blk_frozen BK109.out 0; have hfz109_1 := blk_frozen BK109.out 1)))
       refine bodyPost_ret (results_cell_row rfl _ _ gb109 26 #[.int .i64 t115, .int .i64 t116] (0, 0) _ rfl (by (with_reducible repeat (first | refine blk_drewN ?_ _ | refine blk_drew ?_ | refine blk_alloc ?_ _)); refine blk_put (cs := #[.int .i64 t115, .int .i64 x110001_1]) ?_ 1 _ rfl; (with_reducible repeat (first | refine blk_drewN ?_ _ | refine blk_drew ?_ | refine blk_alloc ?_ _)); refine blk_put (cs := #[.int .i64 x110000_1, .int .i64 x110001_1]) ?_ 0 _ rfl; exact qK BK109) Try.underlying26 rfl (by kernel_rfl)) rfl ?_
       exact ⟨qE, qB⟩
     ·rw [if_neg c15] at H
      exact absurd H (by simp)
    ·rw [if_neg c14] at H
     have c14b0 : decide (x3_1 < (l0_0.length : Int)) = false := decide_eq_false c14
     clear c14
     by_cases c110 : (l0_1.length : Int) > 12
     ·rw [if_pos c110] at H
      have c110b0 : decide (12 < (l0_1.length : Int)) = true := decide_eq_true c110
      have c110b1 : decide (12 < l0_1.length) = true := decide_eq_true (by omega)
      clear c110
      replace H := Option.bind_eq_some_iff.mp H
      obtain ⟨⟨t137, t138⟩, A1110, H⟩ := H
      replace H : (some (t137, t138)) = some (r1, r2) := H
      have A111 := Aside0.mk A1110
      clear A1110
      simp only [Option.some.injEq, Prod.mk.injEq] at H
      obtain ⟨rfl, rfl⟩ := H
      have hnb112 := NB108_109.out
      have hnc112 := NB109_108.out
      have hcz113_0 : wr.cell? ⟨gb108, 0, none⟩ = some (.slice A0_0 l0_0.length c0_0) := (blk_cell BK108.out 0).trans rfl
      have hcz113_1 : wr.cell? ⟨gb108, 1, none⟩ = some (.slice A0_1 l0_1.length c0_1) := (blk_cell BK108.out 1).trans rfl
      have hfz113_0 := blk_frozen BK108.out 0
      have hfz113_1 := blk_frozen BK108.out 1
      go_wp2_with (first | (go_at_call 14; (with_reducible refine (ref_At.calls 2 (-2) t137 t138 _ A111.out).mono ?_); rintro e w114 ⟨rfl, hb⟩; have n0_ := Aside0.mk (blk_below (g := gb108) (o := .cells #[.slice A0_0 l0_0.length c0_0, .slice A0_1 l0_1.length c0_1] 46 (0, 0)) (qK BK108) hb); have n1_ := Aside0.mk (blk_below (g := gb109) (o := .cells #[.int .i64 x110000_1, .int .i64 x110001_1] 26 (0, 0)) (qK BK109) hb); have n2_ := Aside0.mk (below_step qB hb); clear BK108; clear BK109; clear HB; have BK108 := n0_; have BK109 := n1_; have HB := n2_; clear n0_ n1_ n2_; (try clear hb); (try clear hb2); (try clear hk); (try clear hi); have hcz115_0 : w114.cell? ⟨gb109, 0, none⟩ = some (.int .i64 x110000_1) := (blk_cell BK109.out 0).trans rfl; have hcz115_1 : w114.cell? ⟨gb109, 1, none⟩ = some (.int .i64 x110001_1) := (blk_cell BK109.out 1).trans rfl; have hfz115_0 := blk_frozen BK109.out 0; have hfz115_1 := blk_frozen BK109.out 1))
      repeat (go_quiet (first | (go_at_call 14; (with_reducible refine (ref_At.calls 2 (-2) t137 t138 _ A111.out).mono ?_); rintro e w114 ⟨rfl, hb⟩; have n0_ := Aside0.mk (blk_below (g := gb108) (o := .cells #[.slice A0_0 l0_0.length c0_0, .slice A0_1 l0_1.length c0_1] 46 (0, 0)) (qK BK108) hb); have n1_ := Aside0.mk (blk_below (g := gb109) (o := .cells #[.int .i64 x110000_1, .int .i64 x110001_1] 26 (0, 0)) (qK BK109) hb); have n2_ := Aside0.mk (below_step qB hb); clear BK108; clear BK109; clear HB; have BK108 := n0_; have BK109 := n1_; have HB := n2_; clear n0_ n1_ n2_; (try clear hb); (try clear hb2); (try clear hk); (try clear hi); have hcz115_0 : w114.cell? ⟨gb109, 0, none⟩ = some (.int .i64 x110000_1) := (blk_cell BK109.out 0).trans rfl; have hcz115_1 : w114.cell? ⟨gb109, 1, none⟩ = some (.int .i64 x110001_1) := (blk_cell BK109.out 1).trans rfl; have hfz115_0 := blk_frozen BK109.out 0; have hfz115_1 := blk_frozen BK109.out 1)); try go_wp2_with (first | (go_at_call 14; (with_reducible refine (ref_At.calls 2 (-2) t137 t138 _ A111.out).mono ?_); rintro e w114 ⟨rfl, hb⟩; have n0_ := Aside0.mk (blk_below (g := gb108) (o := .cells #[.slice A0_0 l0_0.length c0_0, .slice A0_1 l0_1.length c0_1] 46 (0, 0)) (qK BK108) hb); have n1_ := Aside0.mk (blk_below (g := gb109) (o := .cells #[.int .i64 x110000_1, .int .i64 x110001_1] 26 (0, 0)) (qK BK109) hb); have n2_ := Aside0.mk (below_step qB hb); clear BK108; clear BK109; clear HB; have BK108 := n0_; have BK109 := n1_; have HB := n2_; clear n0_ n1_ n2_; (try clear hb); (try clear hb2); (try clear hk); (try clear hi); have hcz115_0 : w114.cell? ⟨gb109, 0, none⟩ = some (.int .i64 x110000_1) := (blk_cell BK109.out 0).trans rfl; have hcz115_1 : w114.cell? ⟨gb109, 1, none⟩ = some (.int .i64 x110001_1) := (blk_cell BK109.out 1).trans rfl; have hfz115_0 := blk_frozen BK109.out 0; have hfz115_1 := blk_frozen BK109.out 1)))
      refine bodyPost_ret (results_cell_row rfl _ _ gb109 26 #[.int .i64 t137, .int .i64 t138] (0, 0) _ rfl (by (with_reducible repeat (first | refine blk_drewN ?_ _ | refine blk_drew ?_ | refine blk_alloc ?_ _)); refine blk_put (cs := #[.int .i64 t137, .int .i64 x110001_1]) ?_ 1 _ rfl; (with_reducible repeat (first | refine blk_drewN ?_ _ | refine blk_drew ?_ | refine blk_alloc ?_ _)); refine blk_put (cs := #[.int .i64 x110000_1, .int .i64 x110001_1]) ?_ 0 _ rfl; exact qK BK109) Try.underlying26 rfl (by kernel_rfl)) rfl ?_
      exact ⟨qE, qB⟩
     ·rw [if_neg c110] at H
      have c110b0 : decide (12 < (l0_1.length : Int)) = false := decide_eq_false c110
      have c110b1 : decide (12 < l0_1.length) = false := decide_eq_false (by omega)
      clear c110
      have H' := Aside0.mk H
      clear H
      have hnb116 := NB108_109.out
      have hnc116 := NB109_108.out
      have hcz117_0 : wr.cell? ⟨gb108, 0, none⟩ = some (.slice A0_0 l0_0.length c0_0) := (blk_cell BK108.out 0).trans rfl
      have hcz117_1 : wr.cell? ⟨gb108, 1, none⟩ = some (.slice A0_1 l0_1.length c0_1) := (blk_cell BK108.out 1).trans rfl
      have hfz117_0 := blk_frozen BK108.out 0
      have hfz117_1 := blk_frozen BK108.out 1
      go_wp2
      repeat (go_quiet (fail); try go_wp2)
      go_loopg [6] k1 (fun kq v6 w' => ∃ (x6_2 : Int) (x110000_2 : Int) (x110001_2 : Int), v6 = .int .i64 x6_2 ∧ Aside0 (ref_ScriptFault.l2 kq x6_2 l0_0 l0_1 = some (r1, r2)) ∧ Aside0 (kq ≤ k1) ∧ Aside0 (w'.heap[gb108]? = some (.cells #[(.slice A0_0 l0_0.length c0_0), (.slice A0_1 l0_1.length c0_1)] 46 (0, 0))) ∧ Aside0 (w'.heap[gb109]? = some (.cells #[.int .i64 x110000_2, .int .i64 x110001_2] 26 (0, 0))) ∧ Aside0 (Below w.heap.size w w'))
      case atStart => exact ⟨(0), (x110000_1), (x110001_1), qF, H', ⟨Nat.le_refl _⟩, ⟨qK BK108⟩, ⟨qK BK109⟩, ⟨qB⟩⟩
      case round =>
       clear H'
       try clear c1
       try clear p1
       try clear q1
       try clear hx1
       try clear c2
       try clear c2b0
       try clear c2b1
       try clear p2
       try clear c3
       try clear c4
       try clear c5
       try clear c6
       try clear p6
       try clear c7
       try clear c8
       try clear c9
       try clear c10
       try clear c11
       try clear p11
       try clear q11
       try clear hx11
       try clear c12
       try clear c14
       try clear c14b0
       try clear c15
       try clear c15b0
       try clear c17
       try clear c18
       try clear c20
       try clear c21
       try clear c22
       try clear c24
       try clear c24b0
       try clear c25
       try clear c25b0
       try clear c26
       try clear c26b0
       try clear c27
       try clear c27b0
       try clear c27b1
       try clear c29
       try clear c30
       try clear c32
       try clear c36
       try clear c37
       try clear c39
       try clear c41
       try clear c41b0
       try clear c41b1
       try clear c43
       try clear c45
       try clear c46
       try clear c47
       try clear c50
       try clear c51
       try clear c54
       try clear c57
       try clear c58
       try clear c61
       try clear c64
       try clear p64
       try clear c65
       try clear c65b0
       try clear c65b1
       try clear c67
       try clear c69
       try clear c70
       try clear c71
       try clear c74
       try clear c75
       try clear c78
       try clear c81
       try clear c82
       try clear c85
       try clear c88
       try clear c89
       try clear c92
       try clear c95
       try clear c96
       try clear c99
       try clear c102
       try clear c105
       try clear c106
       try clear c110
       try clear c110b0
       try clear c110b1
       try clear c112
       try clear p112
       try clear q112
       try clear hx112
       try clear c116
       try clear p117
       try clear q117
       try clear hx117
       try clear hcz100_0
       try clear hcz100_1
       try clear hcz103_0
       try clear hcz103_1
       try clear hcz107_0
       try clear hcz107_1
       try clear hcz107_2
       try clear hcz107_3
       try clear hcz109_0
       try clear hcz109_1
       try clear hcz113_0
       try clear hcz113_1
       try clear hcz115_0
       try clear hcz115_1
       try clear hcz117_0
       try clear hcz117_1
       try clear hcz13_0
       try clear hcz13_1
       try clear hcz19_0
       try clear hcz19_1
       try clear hcz23_0
       try clear hcz23_1
       try clear hcz23_2
       try clear hcz23_3
       try clear hcz31_0
       try clear hcz31_1
       try clear hcz33_0
       try clear hcz33_1
       try clear hcz33_2
       try clear hcz33_3
       try clear hcz35_0
       try clear hcz35_1
       try clear hcz38_0
       try clear hcz38_1
       try clear hcz40_0
       try clear hcz40_1
       try clear hcz40_2
       try clear hcz40_3
       try clear hcz48_0
       try clear hcz48_1
       try clear hcz48_2
       try clear hcz48_3
       try clear hcz52_0
       try clear hcz52_1
       try clear hcz52_2
       try clear hcz52_3
       try clear hcz55_0
       try clear hcz55_1
       try clear hcz59_0
       try clear hcz59_1
       try clear hcz59_2
       try clear hcz59_3
       try clear hcz62_0
       try clear hcz62_1
       try clear hcz72_0
       try clear hcz72_1
       try clear hcz72_2
       try clear hcz72_3
       try clear hcz76_0
       try clear hcz76_1
       try clear hcz76_2
       try clear hcz76_3
       try clear hcz79_0
       try clear hcz79_1
       try clear hcz7_0
       try clear hcz7_1
       try clear hcz83_0
       try clear hcz83_1
       try clear hcz83_2
       try clear hcz83_3
       try clear hcz86_0
       try clear hcz86_1
       try clear hcz90_0
       try clear hcz90_1
       try clear hcz90_2
       try clear hcz90_3
       try clear hcz93_0
       try clear hcz93_1
       try clear hcz97_0
       try clear hcz97_1
       try clear hcz97_2
       try clear hcz97_3
       try clear hcz9_0
       try clear hcz9_1
       try clear hfz100_0
       try clear hfz100_1
       try clear hfz103_0
       try clear hfz103_1
       try clear hfz107_0
       try clear hfz107_1
       try clear hfz107_2
       try clear hfz107_3
       try clear hfz109_0
       try clear hfz109_1
       try clear hfz113_0
       try clear hfz113_1
       try clear hfz115_0
       try clear hfz115_1
       try clear hfz117_0
       try clear hfz117_1
       try clear hfz13_0
       try clear hfz13_1
       try clear hfz19_0
       try clear hfz19_1
       try clear hfz23_0
       try clear hfz23_1
       try clear hfz23_2
       try clear hfz23_3
       try clear hfz31_0
       try clear hfz31_1
       try clear hfz33_0
       try clear hfz33_1
       try clear hfz33_2
       try clear hfz33_3
       try clear hfz35_0
       try clear hfz35_1
       try clear hfz38_0
       try clear hfz38_1
       try clear hfz40_0
       try clear hfz40_1
       try clear hfz40_2
       try clear hfz40_3
       try clear hfz48_0
       try clear hfz48_1
       try clear hfz48_2
       try clear hfz48_3
       try clear hfz52_0
       try clear hfz52_1
       try clear hfz52_2
       try clear hfz52_3
       try clear hfz55_0
       try clear hfz55_1
       try clear hfz59_0
       try clear hfz59_1
       try clear hfz59_2
       try clear hfz59_3
       try clear hfz62_0
       try clear hfz62_1
       try clear hfz72_0
       try clear hfz72_1
       try clear hfz72_2
       try clear hfz72_3
       try clear hfz76_0
       try clear hfz76_1
       try clear hfz76_2
       try clear hfz76_3
       try clear hfz79_0
       try clear hfz79_1
       try clear hfz7_0
       try clear hfz7_1
       try clear hfz83_0
       try clear hfz83_1
       try clear hfz83_2
       try clear hfz83_3
       try clear hfz86_0
       try clear hfz86_1
       try clear hfz90_0
       try clear hfz90_1
       try clear hfz90_2
       try clear hfz90_3
       try clear hfz93_0
       try clear hfz93_1
       try clear hfz97_0
       try clear hfz97_1
       try clear hfz97_2
       try clear hfz97_3
       try clear hfz9_0
       try clear hfz9_1
       try clear hx112_0
       try clear hx112_1
       try clear hx112_2
       try clear hx112_3
       try clear hx117_0
       try clear hx117_1
       try clear hx117_2
       try clear hx117_3
       try clear p1
       try clear p11
       try clear p112
       try clear p117
       try clear p2
       try clear q1
       try clear q11
       try clear q112
       try clear q117
       obtain ⟨x6_2, x110000_2, x110001_2, rfl, HA, HK2, BK108, BK109, HB⟩ := hrel
       cases gk with
       | zero => exact absurd HA.out (by simp [ref_ScriptFault.l2])
       | succ k2 =>
        have H := HA.out
        clear HA
        simp only [ref_ScriptFault.l2] at H
        by_cases c118 : x6_2 < (l0_1.length : Int)
        ·rw [if_pos c118] at H
         have c118b0 : decide (x6_2 < (l0_1.length : Int)) = true := decide_eq_true c118
         clear c118
         by_cases c119 : 0 ≤ x6_2
         ·rw [if_pos c119] at H
          have c119b0 : decide (0 ≤ x6_2) = true := decide_eq_true c119
          clear c119
          replace H := Option.bind_eq_some_iff.mp H
          obtain ⟨t141, A1200, H⟩ := H
          replace H : (if t141 = true then ((ref_In.f ((rd_T72 l0_1 x6_2).f1) 0 4).bind fun t144 => (if t144 = true then ((ref_In.f ((rd_T72 l0_1 x6_2).f2) 0 (wrap64 ((l0_0.length : Int) - 1))).bind fun t147 => (if t147 = true then (ref_ScriptFault.l2 k2 (wrap64 (x6_2 + 1)) l0_0 l0_1) else ((ref_At.f 3 (wrap64 ((-10) - x6_2))).bind fun bt148 => (some (bt148.1, bt148.2))))) else ((ref_At.f 4 (wrap64 ((-10) - x6_2))).bind fun bt145 => (some (bt145.1, bt145.2))))) else ((ref_At.f 12 (wrap64 ((-10) - x6_2))).bind fun bt142 => (some (bt142.1, bt142.2)))) = some (r1, r2) := H
          have A120 := Aside0.mk A1200
          clear A1200
          by_cases c121 : t141 = true
          ·subst c121
           have H1 : ((ref_In.f ((rd_T72 l0_1 x6_2).f1) 0 4).bind fun t144 => (if t144 = true then ((ref_In.f ((rd_T72 l0_1 x6_2).f2) 0 (wrap64 ((l0_0.length : Int) - 1))).bind fun t147 => (if t147 = true then (ref_ScriptFault.l2 k2 (wrap64 (x6_2 + 1)) l0_0 l0_1) else ((ref_At.f 3 (wrap64 ((-10) - x6_2))).bind fun bt148 => (some (bt148.1, bt148.2))))) else ((ref_At.f 4 (wrap64 ((-10) - x6_2))).bind fun bt145 => (some (bt145.1, bt145.2))))) = some (r1, r2) := by rw [if_pos rfl] at H; exact H
           clear H
           have H := H1
           clear H1
           replace H := Option.bind_eq_some_iff.mp H
           obtain ⟨t144, A1220, H⟩ := H
           replace H : (if t144 = true then ((ref_In.f ((rd_T72 l0_1 x6_2).f2) 0 (wrap64 ((l0_0.length : Int) - 1))).bind fun t147 => (if t147 = true then (ref_ScriptFault.l2 k2 (wrap64 (x6_2 + 1)) l0_0 l0_1) else ((ref_At.f 3 (wrap64 ((-10) - x6_2))).bind fun bt148 => (some (bt148.1, bt148.2))))) else ((ref_At.f 4 (wrap64 ((-10) - x6_2))).bind fun bt145 => (some (bt145.1, bt145.2)))) = some (r1, r2) := H
           have A122 := Aside0.mk A1220
           clear A1220
           by_cases c123 : t144 = true
           ·subst c123
            have H1 : ((ref_In.f ((rd_T72 l0_1 x6_2).f2) 0 (wrap64 ((l0_0.length : Int) - 1))).bind fun t147 => (if t147 = true then (ref_ScriptFault.l2 k2 (wrap64 (x6_2 + 1)) l0_0 l0_1) else ((ref_At.f 3 (wrap64 ((-10) - x6_2))).bind fun bt148 => (some (bt148.1, bt148.2))))) = some (r1, r2) := by rw [if_pos rfl] at H; exact H
            clear H
            have H := H1
            clear H1
            replace H := Option.bind_eq_some_iff.mp H
            obtain ⟨t147, A1240, H⟩ := H
            replace H : (if t147 = true then (ref_ScriptFault.l2 k2 (wrap64 (x6_2 + 1)) l0_0 l0_1) else ((ref_At.f 3 (wrap64 ((-10) - x6_2))).bind fun bt148 => (some (bt148.1, bt148.2)))) = some (r1, r2) := H
            have A124 := Aside0.mk A1240
            clear A1240
            by_cases c125 : t147 = true
            ·subst c125
             have H1 : (ref_ScriptFault.l2 k2 (wrap64 (x6_2 + 1)) l0_0 l0_1) = some (r1, r2) := by rw [if_pos rfl] at H; exact H
             clear H
             have H := H1
             clear H1
             have H' := Aside0.mk H
             clear H
             have hnb126 := NB108_109.out
             have hnc126 := NB109_108.out
             have hcz127_0 : wr.cell? ⟨gb108, 0, none⟩ = some (.slice A0_0 l0_0.length c0_0) := (blk_cell BK108.out 0).trans rfl
             have hcz127_1 : wr.cell? ⟨gb108, 1, none⟩ = some (.slice A0_1 l0_1.length c0_1) := (blk_cell BK108.out 1).trans rfl
             have hfz127_0 := blk_frozen BK108.out 0
             have hfz127_1 := blk_frozen BK108.out 1
             have p139 : 0 ≤ (x6_2 : Int) := of_decide_eq_true qO
             have q139 : x6_2 < (l0_1.length : Int) := of_decide_eq_true qO
             obtain ⟨ad139, e139, hx139_0, hx139_1, hx139_2⟩ := at_T72 HR0_1.out x6_2 p139 q139
             cases e139
             replace hx139_0 := (HB.out.cell (World.block_lt_of_cell? w _ hx139_0)).trans hx139_0
             replace hx139_1 := (HB.out.cell (World.block_lt_of_cell? w _ hx139_1)).trans hx139_1
             replace hx139_2 := (HB.out.cell (World.block_lt_of_cell? w _ hx139_2)).trans hx139_2
             replace p139 := eq_true p139
             replace q139 := eq_true q139
             go_wp2_with (first | ((with_reducible refine gate_dst (N := 7) rfl ?_); refine qX (N := 7) (cs := #[.string (⟨#[]⟩ : ByteArray), .int .i64 0, .int .i64 0]) (t := 72) ?_; intro gb140 hg w128 hbox hb; have n0_ := Aside0.mk (blk_below (g := gb108) (o := .cells #[.slice A0_0 l0_0.length c0_0, .slice (some ad139) l0_1.length c0_1] 46 (0, 0)) (qK BK108) hb); have n1_ := Aside0.mk (blk_below (g := gb109) (o := .cells #[.int .i64 x110000_2, .int .i64 x110001_2] 26 (0, 0)) (qK BK109) hb); have n2_ := Aside0.mk (below_step qB hb); have n3_ := Aside0.mk (hbox); have n4_ := Aside0.mk ((qG hg : w.heap.size ≤ gb140)); have n5_ := Aside0.mk ((qG hg : w.heap.size ≤ gb140)); have n6_ := Aside0.mk ((by rw [hg]; exact Nat.ne_of_lt (blk_lt (g := gb108) (o := .cells #[.slice A0_0 l0_0.length c0_0, .slice (some ad139) l0_1.length c0_1] 46 (0, 0)) (qK BK108)) : gb108 ≠ gb140)); have n7_ := Aside0.mk ((by rw [hg]; exact Nat.ne_of_gt (blk_lt (g := gb108) (o := .cells #[.slice A0_0 l0_0.length c0_0, .slice (some ad139) l0_1.length c0_1] 46 (0, 0)) (qK BK108)) : gb140 ≠ gb108)); have n8_ := Aside0.mk ((by rw [hg]; exact Nat.ne_of_lt (blk_lt (g := gb109) (o := .cells #[.int .i64 x110000_2, .int .i64 x110001_2] 26 (0, 0)) (qK BK109)) : gb109 ≠ gb140)); have n9_ := Aside0.mk ((by rw [hg]; exact Nat.ne_of_gt (blk_lt (g := gb109) (o := .cells #[.int .i64 x110000_2, .int .i64 x110001_2] 26 (0, 0)) (qK BK109)) : gb140 ≠ gb109)); clear BK108; clear BK109; clear HB; have BK108 := n0_; have BK109 := n1_; have HB := n2_; have BK140 := n3_; have GW140 := n4_; have GE140 := n5_; have NB108_140 := n6_; have NB140_108 := n7_; have NB109_140 := n8_; have NB140_109 := n9_; clear n0_ n1_ n2_ n3_ n4_ n5_ n6_ n7_ n8_ n9_; clear hb hbox hg; have hnb129 := NB140_108.out; have hnc129 := NB108_140.out; have hnb130 := NB140_109.out; have hnc130 := NB109_140.out; have hcz131_0 : w128.cell? ⟨gb140, 0, none⟩ = some (.string (⟨#[]⟩ : ByteArray)) := (blk_cell BK140.out 0).trans rfl; have hcz131_1 : w128.cell? ⟨gb140, 1, none⟩ = some (.int .i64 0) := (blk_cell BK140.out 1).trans rfl; have hcz131_2 : w128.cell? ⟨gb140, 2, none⟩ = some (.int .i64 0) := (blk_cell BK140.out 2).trans rfl; have hfz131_0 := blk_frozen BK140.out 0; have hfz131_1 := blk_frozen BK140.out 1; have hfz131_2 := blk_frozen BK140.out 2) | (go_at_call 36; (with_reducible refine (ref_PatternOk.calls k2 ((rd_T72 l0_1 x6_2).f0) true _ A120.out).mono ?_); rintro e w' ⟨rfl, ⟨nd, rfl⟩⟩; (try exact qD)) | (go_at_call 13; (with_reducible refine (ref_In.calls ((rd_T72 l0_1 x6_2).f1) 0 4 true _ A122.out).mono ?_); rintro e w' ⟨rfl, ⟨nd, rfl⟩⟩; (try exact qD); have hcz132_0 : w128.cell? ⟨gb108, 0, none⟩ = some (.slice A0_0 l0_0.length c0_0) := (blk_cell BK108.out 0).trans rfl; have hcz132_1 : w128.cell? ⟨gb108, 1, none⟩ = some (.slice (some ad139) l0_1.length c0_1) := (blk_cell BK108.out 1).trans rfl; have hfz132_0 := blk_frozen BK108.out 0; have hfz132_1 := blk_frozen BK108.out 1) | (go_at_call 13; (with_reducible refine (ref_In.calls ((rd_T72 l0_1 x6_2).f2) 0 (wrap64 ((l0_0.length : Int) - 1)) true _ A124.out).mono ?_); rintro e w' ⟨rfl, ⟨nd, rfl⟩⟩; (try exact qD)))
             repeat (go_quiet (first | ((with_reducible refine gate_dst (N := 7) rfl ?_); refine qX (N := 7) (cs := #[.string (⟨#[]⟩ : ByteArray), .int .i64 0, .int .i64 0]) (t := 72) ?_; intro gb140 hg w128 hbox hb; have n0_ := Aside0.mk (blk_below (g := gb108) (o := .cells #[.slice A0_0 l0_0.length c0_0, .slice (some ad139) l0_1.length c0_1] 46 (0, 0)) (qK BK108) hb); have n1_ := Aside0.mk (blk_below (g := gb109) (o := .cells #[.int .i64 x110000_2, .int .i64 x110001_2] 26 (0, 0)) (qK BK109) hb); have n2_ := Aside0.mk (below_step qB hb); have n3_ := Aside0.mk (hbox); have n4_ := Aside0.mk ((qG hg : w.heap.size ≤ gb140)); have n5_ := Aside0.mk ((qG hg : w.heap.size ≤ gb140)); have n6_ := Aside0.mk ((by rw [hg]; exact Nat.ne_of_lt (blk_lt (g := gb108) (o := .cells #[.slice A0_0 l0_0.length c0_0, .slice (some ad139) l0_1.length c0_1] 46 (0, 0)) (qK BK108)) : gb108 ≠ gb140)); have n7_ := Aside0.mk ((by rw [hg]; exact Nat.ne_of_gt (blk_lt (g := gb108) (o := .cells #[.slice A0_0 l0_0.length c0_0, .slice (some ad139) l0_1.length c0_1] 46 (0, 0)) (qK BK108)) : gb140 ≠ gb108)); have n8_ := Aside0.mk ((by rw [hg]; exact Nat.ne_of_lt (blk_lt (g := gb109) (o := .cells #[.int .i64 x110000_2, .int .i64 x110001_2] 26 (0, 0)) (qK BK109)) : gb109 ≠ gb140)); have n9_ := Aside0.mk ((by rw [hg]; exact Nat.ne_of_gt (blk_lt (g := gb109) (o := .cells #[.int .i64 x110000_2, .int .i64 x110001_2] 26 (0, 0)) (qK BK109)) : gb140 ≠ gb109)); clear BK108; clear BK109; clear HB; have BK108 := n0_; have BK109 := n1_; have HB := n2_; have BK140 := n3_; have GW140 := n4_; have GE140 := n5_; have NB108_140 := n6_; have NB140_108 := n7_; have NB109_140 := n8_; have NB140_109 := n9_; clear n0_ n1_ n2_ n3_ n4_ n5_ n6_ n7_ n8_ n9_; clear hb hbox hg; have hnb129 := NB140_108.out; have hnc129 := NB108_140.out; have hnb130 := NB140_109.out; have hnc130 := NB109_140.out; have hcz131_0 : w128.cell? ⟨gb140, 0, none⟩ = some (.string (⟨#[]⟩ : ByteArray)) := (blk_cell BK140.out 0).trans rfl; have hcz131_1 : w128.cell? ⟨gb140, 1, none⟩ = some (.int .i64 0) := (blk_cell BK140.out 1).trans rfl; have hcz131_2 : w128.cell? ⟨gb140, 2, none⟩ = some (.int .i64 0) := (blk_cell BK140.out 2).trans rfl; have hfz131_0 := blk_frozen BK140.out 0; have hfz131_1 := blk_frozen BK140.out 1; have hfz131_2 := blk_frozen BK140.out 2) | (go_at_call 36; (with_reducible refine (ref_PatternOk.calls k2 ((rd_T72 l0_1 x6_2).f0) true _ A120.out).mono ?_); rintro e w' ⟨rfl, ⟨nd, rfl⟩⟩; (try exact qD)) | (go_at_call 13; (with_reducible refine (ref_In.calls ((rd_T72 l0_1 x6_2).f1) 0 4 true _ A122.out).mono ?_); rintro e w' ⟨rfl, ⟨nd, rfl⟩⟩; (try exact qD); have hcz132_0 : w128.cell? ⟨gb108, 0, none⟩ = some (.slice A0_0 l0_0.length c0_0) := (blk_cell BK108.out 0).trans rfl; have hcz132_1 : w128.cell? ⟨gb108, 1, none⟩ = some (.slice (some ad139) l0_1.length c0_1) := (blk_cell BK108.out 1).trans rfl; have hfz132_0 := blk_frozen BK108.out 0; have hfz132_1 := blk_frozen BK108.out 1) | (go_at_call 13; (with_reducible refine (ref_In.calls ((rd_T72 l0_1 x6_2).f2) 0 (wrap64 ((l0_0.length : Int) - 1)) true _ A124.out).mono ?_); rintro e w' ⟨rfl, ⟨nd, rfl⟩⟩; (try exact qD))); try go_wp2_with (first | ((with_reducible refine gate_dst (N := 7) rfl ?_); refine qX (N := 7) (cs := #[.string (⟨#[]⟩ : ByteArray), .int .i64 0, .int .i64 0]) (t := 72) ?_; intro gb140 hg w128 hbox hb; have n0_ := Aside0.mk (blk_below (g := gb108) (o := .cells #[.slice A0_0 l0_0.length c0_0, .slice (some ad139) l0_1.length c0_1] 46 (0, 0)) (qK BK108) hb); have n1_ := Aside0.mk (blk_below (g := gb109) (o := .cells #[.int .i64 x110000_2, .int .i64 x110001_2] 26 (0, 0)) (qK BK109) hb); have n2_ := Aside0.mk (below_step qB hb); have n3_ := Aside0.mk (hbox); have n4_ := Aside0.mk ((qG hg : w.heap.size ≤ gb140)); have n5_ := Aside0.mk ((qG hg : w.heap.size ≤ gb140)); have n6_ := Aside0.mk ((by rw [hg]; exact Nat.ne_of_lt (blk_lt (g := gb108) (o := .cells #[.slice A0_0 l0_0.length c0_0, .slice (some ad139) l0_1.length c0_1] 46 (0, 0)) (qK BK108)) : gb108 ≠ gb140)); have n7_ := Aside0.mk ((by rw [hg]; exact Nat.ne_of_gt (blk_lt (g := gb108) (o := .cells #[.slice A0_0 l0_0.length c0_0, .slice (some ad139) l0_1.length c0_1] 46 (0, 0)) (qK BK108)) : gb140 ≠ gb108)); have n8_ := Aside0.mk ((by rw [hg]; exact Nat.ne_of_lt (blk_lt (g := gb109) (o := .cells #[.int .i64 x110000_2, .int .i64 x110001_2] 26 (0, 0)) (qK BK109)) : gb109 ≠ gb140)); have n9_ := Aside0.mk ((by rw [hg]; exact Nat.ne_of_gt (blk_lt (g := gb109) (o := .cells #[.int .i64 x110000_2, .int .i64 x110001_2] 26 (0, 0)) (qK BK109)) : gb140 ≠ gb109)); clear BK108; clear BK109; clear HB; have BK108 := n0_; have BK109 := n1_; have HB := n2_; have BK140 := n3_; have GW140 := n4_; have GE140 := n5_; have NB108_140 := n6_; have NB140_108 := n7_; have NB109_140 := n8_; have NB140_109 := n9_; clear n0_ n1_ n2_ n3_ n4_ n5_ n6_ n7_ n8_ n9_; clear hb hbox hg; have hnb129 := NB140_108.out; have hnc129 := NB108_140.out; have hnb130 := NB140_109.out; have hnc130 := NB109_140.out; have hcz131_0 : w128.cell? ⟨gb140, 0, none⟩ = some (.string (⟨#[]⟩ : ByteArray)) := (blk_cell BK140.out 0).trans rfl; have hcz131_1 : w128.cell? ⟨gb140, 1, none⟩ = some (.int .i64 0) := (blk_cell BK140.out 1).trans rfl; have hcz131_2 : w128.cell? ⟨gb140, 2, none⟩ = some (.int .i64 0) := (blk_cell BK140.out 2).trans rfl; have hfz131_0 := blk_frozen BK140.out 0; have hfz131_1 := blk_frozen BK140.out 1; have hfz131_2 := blk_frozen BK140.out 2) | (go_at_call 36; (with_reducible refine (ref_PatternOk.calls k2 ((rd_T72 l0_1 x6_2).f0) true _ A120.out).mono ?_); rintro e w' ⟨rfl, ⟨nd, rfl⟩⟩; (try exact qD)) | (go_at_call 13; (with_reducible refine (ref_In.calls ((rd_T72 l0_1 x6_2).f1) 0 4 true _ A122.out).mono ?_); rintro e w' ⟨rfl, ⟨nd, rfl⟩⟩; (try exact qD); have hcz132_0 : w128.cell? ⟨gb108, 0, none⟩ = some (.slice A0_0 l0_0.length c0_0) := (blk_cell BK108.out 0).trans rfl; have hcz132_1 : w128.cell? ⟨gb108, 1, none⟩ = some (.slice (some ad139) l0_1.length c0_1) := (blk_cell BK108.out 1).trans rfl; have hfz132_0 := blk_frozen BK108.out 0; have hfz132_1 := blk_frozen BK108.out 1) | (go_at_call 13; (with_reducible refine (ref_In.calls ((rd_T72 l0_1 x6_2).f2) 0 (wrap64 ((l0_0.length : Int) - 1)) true _ A124.out).mono ?_); rintro e w' ⟨rfl, ⟨nd, rfl⟩⟩; (try exact qD))))
             go_roundg k2
             case measure => have := HK1.out; have := HK2.out; omega
             case rel => exact ⟨(wrap64 (x6_2 + 1)), (x110000_2), (x110001_2), qF, H', ⟨by have := HK1.out; have := HK2.out; omega⟩, ⟨by (with_reducible repeat (first | refine blk_drewN ?_ _ | refine blk_drew ?_ | refine blk_alloc ?_ _)); refine blk_far ?_ NB108_140.out _; (with_reducible repeat (first | refine blk_drewN ?_ _ | refine blk_drew ?_ | refine blk_alloc ?_ _)); refine blk_far ?_ NB108_140.out _; (with_reducible repeat (first | refine blk_drewN ?_ _ | refine blk_drew ?_ | refine blk_alloc ?_ _)); refine blk_far ?_ NB108_140.out _; exact qK BK108⟩, ⟨by (with_reducible repeat (first | refine blk_drewN ?_ _ | refine blk_drew ?_ | refine blk_alloc ?_ _)); refine blk_far ?_ NB109_140.out _; (with_reducible repeat (first | refine blk_drewN ?_ _ | refine blk_drew ?_ | refine blk_alloc ?_ _)); refine blk_far ?_ NB109_140.out _; (with_reducible repeat (first | refine blk_drewN ?_ _ | refine blk_drew ?_ | refine blk_alloc ?_ _)); refine blk_far ?_ NB109_140.out _; exact qK BK109⟩, ⟨qB⟩⟩
            ·replace c125 := Bool.eq_false_iff.mpr c125
             subst c125
             have H1 : ((ref_At.f 3 (wrap64 ((-10) - x6_2))).bind fun bt148 => (some (bt148.1, bt148.2))) = some (r1, r2) := by rw [if_neg (show ¬ (false = true) by decide)] at H; exact H
             clear H
             have H := H1
             clear H1
             replace H := Option.bind_eq_some_iff.mp H
             obtain ⟨⟨t148, t149⟩, A1330, H⟩ := H
             replace H : (some (t148, t149)) = some (r1, r2) := H
             have A133 := Aside0.mk A1330
             clear A1330
             simp only [Option.some.injEq, Prod.mk.injEq] at H
             obtain ⟨rfl, rfl⟩ := H
             have hnb134 := NB108_109.out
             have hnc134 := NB109_108.out
             have hcz135_0 : wr.cell? ⟨gb108, 0, none⟩ = some (.slice A0_0 l0_0.length c0_0) := (blk_cell BK108.out 0).trans rfl
             have hcz135_1 : wr.cell? ⟨gb108, 1, none⟩ = some (.slice A0_1 l0_1.length c0_1) := (blk_cell BK108.out 1).trans rfl
             have hfz135_0 := blk_frozen BK108.out 0
             have hfz135_1 := blk_frozen BK108.out 1
             have p139 : 0 ≤ (x6_2 : Int) := of_decide_eq_true qO
             have q139 : x6_2 < (l0_1.length : Int) := of_decide_eq_true qO
             obtain ⟨ad139, e139, hx139_0, hx139_1, hx139_2⟩ := at_T72 HR0_1.out x6_2 p139 q139
             cases e139
             replace hx139_0 := (HB.out.cell (World.block_lt_of_cell? w _ hx139_0)).trans hx139_0
             replace hx139_1 := (HB.out.cell (World.block_lt_of_cell? w _ hx139_1)).trans hx139_1
             replace hx139_2 := (HB.out.cell (World.block_lt_of_cell? w _ hx139_2)).trans hx139_2
             replace p139 := eq_true p139
             replace q139 := eq_true q139
             go_wp2_with (first | ((with_reducible refine gate_dst (N := 7) rfl ?_); refine qX (N := 7) (cs := #[.string (⟨#[]⟩ : ByteArray), .int .i64 0, .int .i64 0]) (t := 72) ?_; intro gb140 hg w136 hbox hb; have n0_ := Aside0.mk (blk_below (g := gb108) (o := .cells #[.slice A0_0 l0_0.length c0_0, .slice (some ad139) l0_1.length c0_1] 46 (0, 0)) (qK BK108) hb); have n1_ := Aside0.mk (blk_below (g := gb109) (o := .cells #[.int .i64 x110000_2, .int .i64 x110001_2] 26 (0, 0)) (qK BK109) hb); have n2_ := Aside0.mk (below_step qB hb); have n3_ := Aside0.mk (hbox); have n4_ := Aside0.mk ((qG hg : w.heap.size ≤ gb140)); have n5_ := Aside0.mk ((qG hg : w.heap.size ≤ gb140)); have n6_ := Aside0.mk ((by rw [hg]; exact Nat.ne_of_lt (blk_lt (g := gb108) (o := .cells #[.slice A0_0 l0_0.length c0_0, .slice (some ad139) l0_1.length c0_1] 46 (0, 0)) (qK BK108)) : gb108 ≠ gb140)); have n7_ := Aside0.mk ((by rw [hg]; exact Nat.ne_of_gt (blk_lt (g := gb108) (o := .cells #[.slice A0_0 l0_0.length c0_0, .slice (some ad139) l0_1.length c0_1] 46 (0, 0)) (qK BK108)) : gb140 ≠ gb108)); have n8_ := Aside0.mk ((by rw [hg]; exact Nat.ne_of_lt (blk_lt (g := gb109) (o := .cells #[.int .i64 x110000_2, .int .i64 x110001_2] 26 (0, 0)) (qK BK109)) : gb109 ≠ gb140)); have n9_ := Aside0.mk ((by rw [hg]; exact Nat.ne_of_gt (blk_lt (g := gb109) (o := .cells #[.int .i64 x110000_2, .int .i64 x110001_2] 26 (0, 0)) (qK BK109)) : gb140 ≠ gb109)); clear BK108; clear BK109; clear HB; have BK108 := n0_; have BK109 := n1_; have HB := n2_; have BK140 := n3_; have GW140 := n4_; have GE140 := n5_; have NB108_140 := n6_; have NB140_108 := n7_; have NB109_140 := n8_; have NB140_109 := n9_; clear n0_ n1_ n2_ n3_ n4_ n5_ n6_ n7_ n8_ n9_; clear hb hbox hg; have hnb137 := NB140_108.out; have hnc137 := NB108_140.out; have hnb138 := NB140_109.out; have hnc138 := NB109_140.out; have hcz139_0 : w136.cell? ⟨gb140, 0, none⟩ = some (.string (⟨#[]⟩ : ByteArray)) := (blk_cell BK140.out 0).trans rfl; have hcz139_1 : w136.cell? ⟨gb140, 1, none⟩ = some (.int .i64 0) := (blk_cell BK140.out 1).trans rfl; have hcz139_2 : w136.cell? ⟨gb140, 2, none⟩ = some (.int .i64 0) := (blk_cell BK140.out 2).trans rfl; have hfz139_0 := blk_frozen BK140.out 0; have hfz139_1 := blk_frozen BK140.out 1; have hfz139_2 := blk_frozen BK140.out 2) | (go_at_call 36; (with_reducible refine (ref_PatternOk.calls k2 ((rd_T72 l0_1 x6_2).f0) true _ A120.out).mono ?_); rintro e w' ⟨rfl, ⟨nd, rfl⟩⟩; (try exact qD)) | (go_at_call 13; (with_reducible refine (ref_In.calls ((rd_T72 l0_1 x6_2).f1) 0 4 true _ A122.out).mono ?_); rintro e w' ⟨rfl, ⟨nd, rfl⟩⟩; (try exact qD); have hcz140_0 : w136.cell? ⟨gb108, 0, none⟩ = some (.slice A0_0 l0_0.length c0_0) := (blk_cell BK108.out 0).trans rfl; have hcz140_1 : w136.cell? ⟨gb108, 1, none⟩ = some (.slice (some ad139) l0_1.length c0_1) := (blk_cell BK108.out 1).trans rfl; have hfz140_0 := blk_frozen BK108.out 0; have hfz140_1 := blk_frozen BK108.out 1) | (go_at_call 13; (with_reducible refine (ref_In.calls ((rd_T72 l0_1 x6_2).f2) 0 (wrap64 ((l0_0.length : Int) - 1)) false _ A124.out).mono ?_); rintro e w' ⟨rfl, ⟨nd, rfl⟩⟩; (try exact qD)) | (go_at_call 14; (with_reducible refine (ref_At.calls 3 (wrap64 ((-10) - x6_2)) t148 t149 _ A133.out).mono ?_); rintro e w141 ⟨rfl, hb⟩; have n0_ := Aside0.mk (blk_below (g := gb108) (o := .cells #[.slice A0_0 l0_0.length c0_0, .slice (some ad139) l0_1.length c0_1] 46 (0, 0)) (by (with_reducible repeat (first | refine blk_drewN ?_ _ | refine blk_drew ?_ | refine blk_alloc ?_ _)); refine blk_far ?_ NB108_140.out _; (with_reducible repeat (first | refine blk_drewN ?_ _ | refine blk_drew ?_ | refine blk_alloc ?_ _)); refine blk_far ?_ NB108_140.out _; (with_reducible repeat (first | refine blk_drewN ?_ _ | refine blk_drew ?_ | refine blk_alloc ?_ _)); refine blk_far ?_ NB108_140.out _; exact qK BK108) hb); have n1_ := Aside0.mk (blk_below (g := gb109) (o := .cells #[.int .i64 x110000_2, .int .i64 x110001_2] 26 (0, 0)) (by (with_reducible repeat (first | refine blk_drewN ?_ _ | refine blk_drew ?_ | refine blk_alloc ?_ _)); refine blk_far ?_ NB109_140.out _; (with_reducible repeat (first | refine blk_drewN ?_ _ | refine blk_drew ?_ | refine blk_alloc ?_ _)); refine blk_far ?_ NB109_140.out _; (with_reducible repeat (first | refine blk_drewN ?_ _ | refine blk_drew ?_ | refine blk_alloc ?_ _)); refine blk_far ?_ NB109_140.out _; exact qK BK109) hb); have n2_ := Aside0.mk (blk_below (g := gb140) (o := .cells #[.string ((rd_T72 l0_1 x6_2).f0), .int .i64 ((rd_T72 l0_1 x6_2).f1), .int .i64 ((rd_T72 l0_1 x6_2).f2)] 72 (0, 0)) (by (with_reducible repeat (first | refine blk_drewN ?_ _ | refine blk_drew ?_ | refine blk_alloc ?_ _)); refine blk_put (cs := #[.string ((rd_T72 l0_1 x6_2).f0), .int .i64 ((rd_T72 l0_1 x6_2).f1), .int .i64 0]) ?_ 2 _ rfl; (with_reducible repeat (first | refine blk_drewN ?_ _ | refine blk_drew ?_ | refine blk_alloc ?_ _)); refine blk_put (cs := #[.string ((rd_T72 l0_1 x6_2).f0), .int .i64 0, .int .i64 0]) ?_ 1 _ rfl; (with_reducible repeat (first | refine blk_drewN ?_ _ | refine blk_drew ?_ | refine blk_alloc ?_ _)); refine blk_put (cs := #[.string (⟨#[]⟩ : ByteArray), .int .i64 0, .int .i64 0]) ?_ 0 _ rfl; exact qK BK140) hb); have n3_ := Aside0.mk (below_step qB hb); clear BK108; clear BK109; clear BK140; clear HB; have BK108 := n0_; have BK109 := n1_; have BK140 := n2_; have HB := n3_; clear n0_ n1_ n2_ n3_; (try clear hb); (try clear hb2); (try clear hk); (try clear hi); have hcz142_0 : w141.cell? ⟨gb109, 0, none⟩ = some (.int .i64 x110000_2) := (blk_cell BK109.out 0).trans rfl; have hcz142_1 : w141.cell? ⟨gb109, 1, none⟩ = some (.int .i64 x110001_2) := (blk_cell BK109.out 1).trans rfl; have hfz142_0 := blk_frozen BK109.out 0; have hfz142_1 := blk_frozen BK109.out 1))
             repeat (go_quiet (first | ((with_reducible refine gate_dst (N := 7) rfl ?_); refine qX (N := 7) (cs := #[.string (⟨#[]⟩ : ByteArray), .int .i64 0, .int .i64 0]) (t := 72) ?_; intro gb140 hg w136 hbox hb; have n0_ := Aside0.mk (blk_below (g := gb108) (o := .cells #[.slice A0_0 l0_0.length c0_0, .slice (some ad139) l0_1.length c0_1] 46 (0, 0)) (qK BK108) hb); have n1_ := Aside0.mk (blk_below (g := gb109) (o := .cells #[.int .i64 x110000_2, .int .i64 x110001_2] 26 (0, 0)) (qK BK109) hb); have n2_ := Aside0.mk (below_step qB hb); have n3_ := Aside0.mk (hbox); have n4_ := Aside0.mk ((qG hg : w.heap.size ≤ gb140)); have n5_ := Aside0.mk ((qG hg : w.heap.size ≤ gb140)); have n6_ := Aside0.mk ((by rw [hg]; exact Nat.ne_of_lt (blk_lt (g := gb108) (o := .cells #[.slice A0_0 l0_0.length c0_0, .slice (some ad139) l0_1.length c0_1] 46 (0, 0)) (qK BK108)) : gb108 ≠ gb140)); have n7_ := Aside0.mk ((by rw [hg]; exact Nat.ne_of_gt (blk_lt (g := gb108) (o := .cells #[.slice A0_0 l0_0.length c0_0, .slice (some ad139) l0_1.length c0_1] 46 (0, 0)) (qK BK108)) : gb140 ≠ gb108)); have n8_ := Aside0.mk ((by rw [hg]; exact Nat.ne_of_lt (blk_lt (g := gb109) (o := .cells #[.int .i64 x110000_2, .int .i64 x110001_2] 26 (0, 0)) (qK BK109)) : gb109 ≠ gb140)); have n9_ := Aside0.mk ((by rw [hg]; exact Nat.ne_of_gt (blk_lt (g := gb109) (o := .cells #[.int .i64 x110000_2, .int .i64 x110001_2] 26 (0, 0)) (qK BK109)) : gb140 ≠ gb109)); clear BK108; clear BK109; clear HB; have BK108 := n0_; have BK109 := n1_; have HB := n2_; have BK140 := n3_; have GW140 := n4_; have GE140 := n5_; have NB108_140 := n6_; have NB140_108 := n7_; have NB109_140 := n8_; have NB140_109 := n9_; clear n0_ n1_ n2_ n3_ n4_ n5_ n6_ n7_ n8_ n9_; clear hb hbox hg; have hnb137 := NB140_108.out; have hnc137 := NB108_140.out; have hnb138 := NB140_109.out; have hnc138 := NB109_140.out; have hcz139_0 : w136.cell? ⟨gb140, 0, none⟩ = some (.string (⟨#[]⟩ : ByteArray)) := (blk_cell BK140.out 0).trans rfl; have hcz139_1 : w136.cell? ⟨gb140, 1, none⟩ = some (.int .i64 0) := (blk_cell BK140.out 1).trans rfl; have hcz139_2 : w136.cell? ⟨gb140, 2, none⟩ = some (.int .i64 0) := (blk_cell BK140.out 2).trans rfl; have hfz139_0 := blk_frozen BK140.out 0; have hfz139_1 := blk_frozen BK140.out 1; have hfz139_2 := blk_frozen BK140.out 2) | (go_at_call 36; (with_reducible refine (ref_PatternOk.calls k2 ((rd_T72 l0_1 x6_2).f0) true _ A120.out).mono ?_); rintro e w' ⟨rfl, ⟨nd, rfl⟩⟩; (try exact qD)) | (go_at_call 13; (with_reducible refine (ref_In.calls ((rd_T72 l0_1 x6_2).f1) 0 4 true _ A122.out).mono ?_); rintro e w' ⟨rfl, ⟨nd, rfl⟩⟩; (try exact qD); have hcz140_0 : w136.cell? ⟨gb108, 0, none⟩ = some (.slice A0_0 l0_0.length c0_0) := (blk_cell BK108.out 0).trans rfl; have hcz140_1 : w136.cell? ⟨gb108, 1, none⟩ = some (.slice (some ad139) l0_1.length c0_1) := (blk_cell BK108.out 1).trans rfl; have hfz140_0 := blk_frozen BK108.out 0; have hfz140_1 := blk_frozen BK108.out 1) | (go_at_call 13; (with_reducible refine (ref_In.calls ((rd_T72 l0_1 x6_2).f2) 0 (wrap64 ((l0_0.length : Int) - 1)) false _ A124.out).mono ?_); rintro e w' ⟨rfl, ⟨nd, rfl⟩⟩; (try exact qD)) | (go_at_call 14; (with_reducible refine (ref_At.calls 3 (wrap64 ((-10) - x6_2)) t148 t149 _ A133.out).mono ?_); rintro e w141 ⟨rfl, hb⟩; have n0_ := Aside0.mk (blk_below (g := gb108) (o := .cells #[.slice A0_0 l0_0.length c0_0, .slice (some ad139) l0_1.length c0_1] 46 (0, 0)) (by (with_reducible repeat (first | refine blk_drewN ?_ _ | refine blk_drew ?_ | refine blk_alloc ?_ _)); refine blk_far ?_ NB108_140.out _; (with_reducible repeat (first | refine blk_drewN ?_ _ | refine blk_drew ?_ | refine blk_alloc ?_ _)); refine blk_far ?_ NB108_140.out _; (with_reducible repeat (first | refine blk_drewN ?_ _ | refine blk_drew ?_ | refine blk_alloc ?_ _)); refine blk_far ?_ NB108_140.out _; exact qK BK108) hb); have n1_ := Aside0.mk (blk_below (g := gb109) (o := .cells #[.int .i64 x110000_2, .int .i64 x110001_2] 26 (0, 0)) (by (with_reducible repeat (first | refine blk_drewN ?_ _ | refine blk_drew ?_ | refine blk_alloc ?_ _)); refine blk_far ?_ NB109_140.out _; (with_reducible repeat (first | refine blk_drewN ?_ _ | refine blk_drew ?_ | refine blk_alloc ?_ _)); refine blk_far ?_ NB109_140.out _; (with_reducible repeat (first | refine blk_drewN ?_ _ | refine blk_drew ?_ | refine blk_alloc ?_ _)); refine blk_far ?_ NB109_140.out _; exact qK BK109) hb); have n2_ := Aside0.mk (blk_below (g := gb140) (o := .cells #[.string ((rd_T72 l0_1 x6_2).f0), .int .i64 ((rd_T72 l0_1 x6_2).f1), .int .i64 ((rd_T72 l0_1 x6_2).f2)] 72 (0, 0)) (by (with_reducible repeat (first | refine blk_drewN ?_ _ | refine blk_drew ?_ | refine blk_alloc ?_ _)); refine blk_put (cs := #[.string ((rd_T72 l0_1 x6_2).f0), .int .i64 ((rd_T72 l0_1 x6_2).f1), .int .i64 0]) ?_ 2 _ rfl; (with_reducible repeat (first | refine blk_drewN ?_ _ | refine blk_drew ?_ | refine blk_alloc ?_ _)); refine blk_put (cs := #[.string ((rd_T72 l0_1 x6_2).f0), .int .i64 0, .int .i64 0]) ?_ 1 _ rfl; (with_reducible repeat (first | refine blk_drewN ?_ _ | refine blk_drew ?_ | refine blk_alloc ?_ _)); refine blk_put (cs := #[.string (⟨#[]⟩ : ByteArray), .int .i64 0, .int .i64 0]) ?_ 0 _ rfl; exact qK BK140) hb); have n3_ := Aside0.mk (below_step qB hb); clear BK108; clear BK109; clear BK140; clear HB; have BK108 := n0_; have BK109 := n1_; have BK140 := n2_; have HB := n3_; clear n0_ n1_ n2_ n3_; (try clear hb); (try clear hb2); (try clear hk); (try clear hi); have hcz142_0 : w141.cell? ⟨gb109, 0, none⟩ = some (.int .i64 x110000_2) := (blk_cell BK109.out 0).trans rfl; have hcz142_1 : w141.cell? ⟨gb109, 1, none⟩ = some (.int .i64 x110001_2) := (blk_cell BK109.out 1).trans rfl; have hfz142_0 := blk_frozen BK109.out 0; have hfz142_1 := blk_frozen BK109.out 1)); try go_wp2_with (first | ((with_reducible refine gate_dst (N := 7) rfl ?_); refine qX (N := 7) (cs := #[.string (⟨#[]⟩ : ByteArray), .int .i64 0, .int .i64 0]) (t := 72) ?_; intro gb140 hg w136 hbox hb; have n0_ := Aside0.mk (blk_below (g := gb108) (o := .cells #[.slice A0_0 l0_0.length c0_0, .slice (some ad139) l0_1.length c0_1] 46 (0, 0)) (qK BK108) hb); have n1_ := Aside0.mk (blk_below (g := gb109) (o := .cells #[.int .i64 x110000_2, .int .i64 x110001_2] 26 (0, 0)) (qK BK109) hb); have n2_ := Aside0.mk (below_step qB hb); have n3_ := Aside0.mk (hbox); have n4_ := Aside0.mk ((qG hg : w.heap.size ≤ gb140)); have n5_ := Aside0.mk ((qG hg : w.heap.size ≤ gb140)); have n6_ := Aside0.mk ((by rw [hg]; exact Nat.ne_of_lt (blk_lt (g := gb108) (o := .cells #[.slice A0_0 l0_0.length c0_0, .slice (some ad139) l0_1.length c0_1] 46 (0, 0)) (qK BK108)) : gb108 ≠ gb140)); have n7_ := Aside0.mk ((by rw [hg]; exact Nat.ne_of_gt (blk_lt (g := gb108) (o := .cells #[.slice A0_0 l0_0.length c0_0, .slice (some ad139) l0_1.length c0_1] 46 (0, 0)) (qK BK108)) : gb140 ≠ gb108)); have n8_ := Aside0.mk ((by rw [hg]; exact Nat.ne_of_lt (blk_lt (g := gb109) (o := .cells #[.int .i64 x110000_2, .int .i64 x110001_2] 26 (0, 0)) (qK BK109)) : gb109 ≠ gb140)); have n9_ := Aside0.mk ((by rw [hg]; exact Nat.ne_of_gt (blk_lt (g := gb109) (o := .cells #[.int .i64 x110000_2, .int .i64 x110001_2] 26 (0, 0)) (qK BK109)) : gb140 ≠ gb109)); clear BK108; clear BK109; clear HB; have BK108 := n0_; have BK109 := n1_; have HB := n2_; have BK140 := n3_; have GW140 := n4_; have GE140 := n5_; have NB108_140 := n6_; have NB140_108 := n7_; have NB109_140 := n8_; have NB140_109 := n9_; clear n0_ n1_ n2_ n3_ n4_ n5_ n6_ n7_ n8_ n9_; clear hb hbox hg; have hnb137 := NB140_108.out; have hnc137 := NB108_140.out; have hnb138 := NB140_109.out; have hnc138 := NB109_140.out; have hcz139_0 : w136.cell? ⟨gb140, 0, none⟩ = some (.string (⟨#[]⟩ : ByteArray)) := (blk_cell BK140.out 0).trans rfl; have hcz139_1 : w136.cell? ⟨gb140, 1, none⟩ = some (.int .i64 0) := (blk_cell BK140.out 1).trans rfl; have hcz139_2 : w136.cell? ⟨gb140, 2, none⟩ = some (.int .i64 0) := (blk_cell BK140.out 2).trans rfl; have hfz139_0 := blk_frozen BK140.out 0; have hfz139_1 := blk_frozen BK140.out 1; have hfz139_2 := blk_frozen BK140.out 2) | (go_at_call 36; (with_reducible refine (ref_PatternOk.calls k2 ((rd_T72 l0_1 x6_2).f0) true _ A120.out).mono ?_); rintro e w' ⟨rfl, ⟨nd, rfl⟩⟩; (try exact qD)) | (go_at_call 13; (with_reducible refine (ref_In.calls ((rd_T72 l0_1 x6_2).f1) 0 4 true _ A122.out).mono ?_); rintro e w' ⟨rfl, ⟨nd, rfl⟩⟩; (try exact qD); have hcz140_0 : w136.cell? ⟨gb108, 0, none⟩ = some (.slice A0_0 l0_0.length c0_0) := (blk_cell BK108.out 0).trans rfl; have hcz140_1 : w136.cell? ⟨gb108, 1, none⟩ = some (.slice (some ad139) l0_1.length c0_1) := (blk_cell BK108.out 1).trans rfl; have hfz140_0 := blk_frozen BK108.out 0; have hfz140_1 := blk_frozen BK108.out 1) | (go_at_call 13; (with_reducible refine (ref_In.calls ((rd_T72 l0_1 x6_2).f2) 0 (wrap64 ((l0_0.length : Int) - 1)) false _ A124.out).mono ?_); rintro e w' ⟨rfl, ⟨nd, rfl⟩⟩; (try exact qD)) | (go_at_call 14; (with_reducible refine (ref_At.calls 3 (wrap64 ((-10) - x6_2)) t148 t149 _ A133.out).mono ?_); rintro e w141 ⟨rfl, hb⟩; have n0_ := Aside0.mk (blk_below (g := gb108) (o := .cells #[.slice A0_0 l0_0.length c0_0, .slice (some ad139) l0_1.length c0_1] 46 (0, 0)) (by (with_reducible repeat (first | refine blk_drewN ?_ _ | refine blk_drew ?_ | refine blk_alloc ?_ _)); refine blk_far ?_ NB108_140.out _; (with_reducible repeat (first | refine blk_drewN ?_ _ | refine blk_drew ?_ | refine blk_alloc ?_ _)); refine blk_far ?_ NB108_140.out _; (with_reducible repeat (first | refine blk_drewN ?_ _ | refine blk_drew ?_ | refine blk_alloc ?_ _)); refine blk_far ?_ NB108_140.out _; exact qK BK108) hb); have n1_ := Aside0.mk (blk_below (g := gb109) (o := .cells #[.int .i64 x110000_2, .int .i64 x110001_2] 26 (0, 0)) (by (with_reducible repeat (first | refine blk_drewN ?_ _ | refine blk_drew ?_ | refine blk_alloc ?_ _)); refine blk_far ?_ NB109_140.out _; (with_reducible repeat (first | refine blk_drewN ?_ _ | refine blk_drew ?_ | refine blk_alloc ?_ _)); refine blk_far ?_ NB109_140.out _; (with_reducible repeat (first | refine blk_drewN ?_ _ | refine blk_drew ?_ | refine blk_alloc ?_ _)); refine blk_far ?_ NB109_140.out _; exact qK BK109) hb); have n2_ := Aside0.mk (blk_below (g := gb140) (o := .cells #[.string ((rd_T72 l0_1 x6_2).f0), .int .i64 ((rd_T72 l0_1 x6_2).f1), .int .i64 ((rd_T72 l0_1 x6_2).f2)] 72 (0, 0)) (by (with_reducible repeat (first | refine blk_drewN ?_ _ | refine blk_drew ?_ | refine blk_alloc ?_ _)); refine blk_put (cs := #[.string ((rd_T72 l0_1 x6_2).f0), .int .i64 ((rd_T72 l0_1 x6_2).f1), .int .i64 0]) ?_ 2 _ rfl; (with_reducible repeat (first | refine blk_drewN ?_ _ | refine blk_drew ?_ | refine blk_alloc ?_ _)); refine blk_put (cs := #[.string ((rd_T72 l0_1 x6_2).f0), .int .i64 0, .int .i64 0]) ?_ 1 _ rfl; (with_reducible repeat (first | refine blk_drewN ?_ _ | refine blk_drew ?_ | refine blk_alloc ?_ _)); refine blk_put (cs := #[.string (⟨#[]⟩ : ByteArray), .int .i64 0, .int .i64 0]) ?_ 0 _ rfl; exact qK BK140) hb); have n3_ := Aside0.mk (below_step qB hb); clear BK108; clear BK109; clear BK140; clear HB; have BK108 := n0_; have BK109 := n1_; have BK140 := n2_; have HB := n3_; clear n0_ n1_ n2_ n3_; (try clear hb); (try clear hb2); (try clear hk); (try clear hi); have hcz142_0 : w141.cell? ⟨gb109, 0, none⟩ = some (.int .i64 x110000_2) := (blk_cell BK109.out 0).trans rfl; have hcz142_1 : w141.cell? ⟨gb109, 1, none⟩ = some (.int .i64 x110001_2) := (blk_cell BK109.out 1).trans rfl; have hfz142_0 := blk_frozen BK109.out 0; have hfz142_1 := blk_frozen BK109.out 1)))
             refine bodyPost_ret (results_cell_row rfl _ _ gb109 26 #[.int .i64 t148, .int .i64 t149] (0, 0) _ rfl (by (with_reducible repeat (first | refine blk_drewN ?_ _ | refine blk_drew ?_ | refine blk_alloc ?_ _)); refine blk_put (cs := #[.int .i64 t148, .int .i64 x110001_2]) ?_ 1 _ rfl; (with_reducible repeat (first | refine blk_drewN ?_ _ | refine blk_drew ?_ | refine blk_alloc ?_ _)); refine blk_put (cs := #[.int .i64 x110000_2, .int .i64 x110001_2]) ?_ 0 _ rfl; exact qK BK109) Try.underlying26 rfl (by kernel_rfl)) rfl ?_
             exact ⟨qE, qB⟩
           ·replace c123 := Bool.eq_false_iff.mpr c123
            subst c123
            have H1 : ((ref_At.f 4 (wrap64 ((-10) - x6_2))).bind fun bt145 => (some (bt145.1, bt145.2))) = some (r1, r2) := by rw [if_neg (show ¬ (false = true) by decide)] at H; exact H
            clear H
            have H := H1
            clear H1
            replace H := Option.bind_eq_some_iff.mp H
            obtain ⟨⟨t145, t146⟩, A1430, H⟩ := H
            replace H : (some (t145, t146)) = some (r1, r2) := H
            have A143 := Aside0.mk A1430
            clear A1430
            simp only [Option.some.injEq, Prod.mk.injEq] at H
            obtain ⟨rfl, rfl⟩ := H
            have hnb144 := NB108_109.out
            have hnc144 := NB109_108.out
            have hcz145_0 : wr.cell? ⟨gb108, 0, none⟩ = some (.slice A0_0 l0_0.length c0_0) := (blk_cell BK108.out 0).trans rfl
            have hcz145_1 : wr.cell? ⟨gb108, 1, none⟩ = some (.slice A0_1 l0_1.length c0_1) := (blk_cell BK108.out 1).trans rfl
            have hfz145_0 := blk_frozen BK108.out 0
            have hfz145_1 := blk_frozen BK108.out 1
            have p139 : 0 ≤ (x6_2 : Int) := of_decide_eq_true qO
            have q139 : x6_2 < (l0_1.length : Int) := of_decide_eq_true qO
            obtain ⟨ad139, e139, hx139_0, hx139_1, hx139_2⟩ := at_T72 HR0_1.out x6_2 p139 q139
            cases e139
            replace hx139_0 := (HB.out.cell (World.block_lt_of_cell? w _ hx139_0)).trans hx139_0
            replace hx139_1 := (HB.out.cell (World.block_lt_of_cell? w _ hx139_1)).trans hx139_1
            replace hx139_2 := (HB.out.cell (World.block_lt_of_cell? w _ hx139_2)).trans hx139_2
            replace p139 := eq_true p139
            replace q139 := eq_true q139
            go_wp2_with (first | ((with_reducible refine gate_dst (N := 7) rfl ?_); refine qX (N := 7) (cs := #[.string (⟨#[]⟩ : ByteArray), .int .i64 0, .int .i64 0]) (t := 72) ?_; intro gb140 hg w146 hbox hb; have n0_ := Aside0.mk (blk_below (g := gb108) (o := .cells #[.slice A0_0 l0_0.length c0_0, .slice (some ad139) l0_1.length c0_1] 46 (0, 0)) (qK BK108) hb); have n1_ := Aside0.mk (blk_below (g := gb109) (o := .cells #[.int .i64 x110000_2, .int .i64 x110001_2] 26 (0, 0)) (qK BK109) hb); have n2_ := Aside0.mk (below_step qB hb); have n3_ := Aside0.mk (hbox); have n4_ := Aside0.mk ((qG hg : w.heap.size ≤ gb140)); have n5_ := Aside0.mk ((qG hg : w.heap.size ≤ gb140)); have n6_ := Aside0.mk ((by rw [hg]; exact Nat.ne_of_lt (blk_lt (g := gb108) (o := .cells #[.slice A0_0 l0_0.length c0_0, .slice (some ad139) l0_1.length c0_1] 46 (0, 0)) (qK BK108)) : gb108 ≠ gb140)); have n7_ := Aside0.mk ((by rw [hg]; exact Nat.ne_of_gt (blk_lt (g := gb108) (o := .cells #[.slice A0_0 l0_0.length c0_0, .slice (some ad139) l0_1.length c0_1] 46 (0, 0)) (qK BK108)) : gb140 ≠ gb108)); have n8_ := Aside0.mk ((by rw [hg]; exact Nat.ne_of_lt (blk_lt (g := gb109) (o := .cells #[.int .i64 x110000_2, .int .i64 x110001_2] 26 (0, 0)) (qK BK109)) : gb109 ≠ gb140)); have n9_ := Aside0.mk ((by rw [hg]; exact Nat.ne_of_gt (blk_lt (g := gb109) (o := .cells #[.int .i64 x110000_2, .int .i64 x110001_2] 26 (0, 0)) (qK BK109)) : gb140 ≠ gb109)); clear BK108; clear BK109; clear HB; have BK108 := n0_; have BK109 := n1_; have HB := n2_; have BK140 := n3_; have GW140 := n4_; have GE140 := n5_; have NB108_140 := n6_; have NB140_108 := n7_; have NB109_140 := n8_; have NB140_109 := n9_; clear n0_ n1_ n2_ n3_ n4_ n5_ n6_ n7_ n8_ n9_; clear hb hbox hg; have hnb147 := NB140_108.out; have hnc147 := NB108_140.out; have hnb148 := NB140_109.out; have hnc148 := NB109_140.out; have hcz149_0 : w146.cell? ⟨gb140, 0, none⟩ = some (.string (⟨#[]⟩ : ByteArray)) := (blk_cell BK140.out 0).trans rfl; have hcz149_1 : w146.cell? ⟨gb140, 1, none⟩ = some (.int .i64 0) := (blk_cell BK140.out 1).trans rfl; have hcz149_2 : w146.cell? ⟨gb140, 2, none⟩ = some (.int .i64 0) := (blk_cell BK140.out 2).trans rfl; have hfz149_0 := blk_frozen BK140.out 0; have hfz149_1 := blk_frozen BK140.out 1; have hfz149_2 := blk_frozen BK140.out 2) | (go_at_call 36; (with_reducible refine (ref_PatternOk.calls k2 ((rd_T72 l0_1 x6_2).f0) true _ A120.out).mono ?_); rintro e w' ⟨rfl, ⟨nd, rfl⟩⟩; (try exact qD)) | (go_at_call 13; (with_reducible refine (ref_In.calls ((rd_T72 l0_1 x6_2).f1) 0 4 false _ A122.out).mono ?_); rintro e w' ⟨rfl, ⟨nd, rfl⟩⟩; (try exact qD)) | (go_at_call 14; (with_reducible refine (ref_At.calls 4 (wrap64 ((-10) - x6_2)) t145 t146 _ A143.out).mono ?_); rintro e w150 ⟨rfl, hb⟩; have n0_ := Aside0.mk (blk_below (g := gb108) (o := .cells #[.slice A0_0 l0_0.length c0_0, .slice (some ad139) l0_1.length c0_1] 46 (0, 0)) (by (with_reducible repeat (first | refine blk_drewN ?_ _ | refine blk_drew ?_ | refine blk_alloc ?_ _)); refine blk_far ?_ NB108_140.out _; (with_reducible repeat (first | refine blk_drewN ?_ _ | refine blk_drew ?_ | refine blk_alloc ?_ _)); refine blk_far ?_ NB108_140.out _; (with_reducible repeat (first | refine blk_drewN ?_ _ | refine blk_drew ?_ | refine blk_alloc ?_ _)); refine blk_far ?_ NB108_140.out _; exact qK BK108) hb); have n1_ := Aside0.mk (blk_below (g := gb109) (o := .cells #[.int .i64 x110000_2, .int .i64 x110001_2] 26 (0, 0)) (by (with_reducible repeat (first | refine blk_drewN ?_ _ | refine blk_drew ?_ | refine blk_alloc ?_ _)); refine blk_far ?_ NB109_140.out _; (with_reducible repeat (first | refine blk_drewN ?_ _ | refine blk_drew ?_ | refine blk_alloc ?_ _)); refine blk_far ?_ NB109_140.out _; (with_reducible repeat (first | refine blk_drewN ?_ _ | refine blk_drew ?_ | refine blk_alloc ?_ _)); refine blk_far ?_ NB109_140.out _; exact qK BK109) hb); have n2_ := Aside0.mk (blk_below (g := gb140) (o := .cells #[.string ((rd_T72 l0_1 x6_2).f0), .int .i64 ((rd_T72 l0_1 x6_2).f1), .int .i64 ((rd_T72 l0_1 x6_2).f2)] 72 (0, 0)) (by (with_reducible repeat (first | refine blk_drewN ?_ _ | refine blk_drew ?_ | refine blk_alloc ?_ _)); refine blk_put (cs := #[.string ((rd_T72 l0_1 x6_2).f0), .int .i64 ((rd_T72 l0_1 x6_2).f1), .int .i64 0]) ?_ 2 _ rfl; (with_reducible repeat (first | refine blk_drewN ?_ _ | refine blk_drew ?_ | refine blk_alloc ?_ _)); refine blk_put (cs := #[.string ((rd_T72 l0_1 x6_2).f0), .int .i64 0, .int .i64 0]) ?_ 1 _ rfl; (with_reducible repeat (first | refine blk_drewN ?_ _ | refine blk_drew ?_ | refine blk_alloc ?_ _)); refine blk_put (cs := #[.string (⟨#[]⟩ : ByteArray), .int .i64 0, .int .i64 0]) ?_ 0 _ rfl; exact qK BK140) hb); have n3_ := Aside0.mk (below_step qB hb); clear BK108; clear BK109; clear BK140; clear HB; have BK108 := n0_; have BK109 := n1_; have BK140 := n2_; have HB := n3_; clear n0_ n1_ n2_ n3_; (try clear hb); (try clear hb2); (try clear hk); (try clear hi); have hcz151_0 : w150.cell? ⟨gb109, 0, none⟩ = some (.int .i64 x110000_2) := (blk_cell BK109.out 0).trans rfl; have hcz151_1 : w150.cell? ⟨gb109, 1, none⟩ = some (.int .i64 x110001_2) := (blk_cell BK109.out 1).trans rfl; have hfz151_0 := blk_frozen BK109.out 0; have hfz151_1 := blk_frozen BK109.out 1))
            repeat (go_quiet (first | ((with_reducible refine gate_dst (N := 7) rfl ?_); refine qX (N := 7) (cs := #[.string (⟨#[]⟩ : ByteArray), .int .i64 0, .int .i64 0]) (t := 72) ?_; intro gb140 hg w146 hbox hb; have n0_ := Aside0.mk (blk_below (g := gb108) (o := .cells #[.slice A0_0 l0_0.length c0_0, .slice (some ad139) l0_1.length c0_1] 46 (0, 0)) (qK BK108) hb); have n1_ := Aside0.mk (blk_below (g := gb109) (o := .cells #[.int .i64 x110000_2, .int .i64 x110001_2] 26 (0, 0)) (qK BK109) hb); have n2_ := Aside0.mk (below_step qB hb); have n3_ := Aside0.mk (hbox); have n4_ := Aside0.mk ((qG hg : w.heap.size ≤ gb140)); have n5_ := Aside0.mk ((qG hg : w.heap.size ≤ gb140)); have n6_ := Aside0.mk ((by rw [hg]; exact Nat.ne_of_lt (blk_lt (g := gb108) (o := .cells #[.slice A0_0 l0_0.length c0_0, .slice (some ad139) l0_1.length c0_1] 46 (0, 0)) (qK BK108)) : gb108 ≠ gb140)); have n7_ := Aside0.mk ((by rw [hg]; exact Nat.ne_of_gt (blk_lt (g := gb108) (o := .cells #[.slice A0_0 l0_0.length c0_0, .slice (some ad139) l0_1.length c0_1] 46 (0, 0)) (qK BK108)) : gb140 ≠ gb108)); have n8_ := Aside0.mk ((by rw [hg]; exact Nat.ne_of_lt (blk_lt (g := gb109) (o := .cells #[.int .i64 x110000_2, .int .i64 x110001_2] 26 (0, 0)) (qK BK109)) : gb109 ≠ gb140)); have n9_ := Aside0.mk ((by rw [hg]; exact Nat.ne_of_gt (blk_lt (g := gb109) (o := .cells #[.int .i64 x110000_2, .int .i64 x110001_2] 26 (0, 0)) (qK BK109)) : gb140 ≠ gb109)); clear BK108; clear BK109; clear HB; have BK108 := n0_; have BK109 := n1_; have HB := n2_; have BK140 := n3_; have GW140 := n4_; have GE140 := n5_; have NB108_140 := n6_; have NB140_108 := n7_; have NB109_140 := n8_; have NB140_109 := n9_; clear n0_ n1_ n2_ n3_ n4_ n5_ n6_ n7_ n8_ n9_; clear hb hbox hg; have hnb147 := NB140_108.out; have hnc147 := NB108_140.out; have hnb148 := NB140_109.out; have hnc148 := NB109_140.out; have hcz149_0 : w146.cell? ⟨gb140, 0, none⟩ = some (.string (⟨#[]⟩ : ByteArray)) := (blk_cell BK140.out 0).trans rfl; have hcz149_1 : w146.cell? ⟨gb140, 1, none⟩ = some (.int .i64 0) := (blk_cell BK140.out 1).trans rfl; have hcz149_2 : w146.cell? ⟨gb140, 2, none⟩ = some (.int .i64 0) := (blk_cell BK140.out 2).trans rfl; have hfz149_0 := blk_frozen BK140.out 0; have hfz149_1 := blk_frozen BK140.out 1; have hfz149_2 := blk_frozen BK140.out 2) | (go_at_call 36; (with_reducible refine (ref_PatternOk.calls k2 ((rd_T72 l0_1 x6_2).f0) true _ A120.out).mono ?_); rintro e w' ⟨rfl, ⟨nd, rfl⟩⟩; (try exact qD)) | (go_at_call 13; (with_reducible refine (ref_In.calls ((rd_T72 l0_1 x6_2).f1) 0 4 false _ A122.out).mono ?_); rintro e w' ⟨rfl, ⟨nd, rfl⟩⟩; (try exact qD)) | (go_at_call 14; (with_reducible refine (ref_At.calls 4 (wrap64 ((-10) - x6_2)) t145 t146 _ A143.out).mono ?_); rintro e w150 ⟨rfl, hb⟩; have n0_ := Aside0.mk (blk_below (g := gb108) (o := .cells #[.slice A0_0 l0_0.length c0_0, .slice (some ad139) l0_1.length c0_1] 46 (0, 0)) (by (with_reducible repeat (first | refine blk_drewN ?_ _ | refine blk_drew ?_ | refine blk_alloc ?_ _)); refine blk_far ?_ NB108_140.out _; (with_reducible repeat (first | refine blk_drewN ?_ _ | refine blk_drew ?_ | refine blk_alloc ?_ _)); refine blk_far ?_ NB108_140.out _; (with_reducible repeat (first | refine blk_drewN ?_ _ | refine blk_drew ?_ | refine blk_alloc ?_ _)); refine blk_far ?_ NB108_140.out _; exact qK BK108) hb); have n1_ := Aside0.mk (blk_below (g := gb109) (o := .cells #[.int .i64 x110000_2, .int .i64 x110001_2] 26 (0, 0)) (by (with_reducible repeat (first | refine blk_drewN ?_ _ | refine blk_drew ?_ | refine blk_alloc ?_ _)); refine blk_far ?_ NB109_140.out _; (with_reducible repeat (first | refine blk_drewN ?_ _ | refine blk_drew ?_ | refine blk_alloc ?_ _)); refine blk_far ?_ NB109_140.out _; (with_reducible repeat (first | refine blk_drewN ?_ _ | refine blk_drew ?_ | refine blk_alloc ?_ _)); refine blk_far ?_ NB109_140.out _; exact qK BK109) hb); have n2_ := Aside0.mk (blk_below (g := gb140) (o := .cells #[.string ((rd_T72 l0_1 x6_2).f0), .int .i64 ((rd_T72 l0_1 x6_2).f1), .int .i64 ((rd_T72 l0_1 x6_2).f2)] 72 (0, 0)) (by (with_reducible repeat (first | refine blk_drewN ?_ _ | refine blk_drew ?_ | refine blk_alloc ?_ _)); refine blk_put (cs := #[.string ((rd_T72 l0_1 x6_2).f0), .int .i64 ((rd_T72 l0_1 x6_2).f1), .int .i64 0]) ?_ 2 _ rfl; (with_reducible repeat (first | refine blk_drewN ?_ _ | refine blk_drew ?_ | refine blk_alloc ?_ _)); refine blk_put (cs := #[.string ((rd_T72 l0_1 x6_2).f0), .int .i64 0, .int .i64 0]) ?_ 1 _ rfl; (with_reducible repeat (first | refine blk_drewN ?_ _ | refine blk_drew ?_ | refine blk_alloc ?_ _)); refine blk_put (cs := #[.string (⟨#[]⟩ : ByteArray), .int .i64 0, .int .i64 0]) ?_ 0 _ rfl; exact qK BK140) hb); have n3_ := Aside0.mk (below_step qB hb); clear BK108; clear BK109; clear BK140; clear HB; have BK108 := n0_; have BK109 := n1_; have BK140 := n2_; have HB := n3_; clear n0_ n1_ n2_ n3_; (try clear hb); (try clear hb2); (try clear hk); (try clear hi); have hcz151_0 : w150.cell? ⟨gb109, 0, none⟩ = some (.int .i64 x110000_2) := (blk_cell BK109.out 0).trans rfl; have hcz151_1 : w150.cell? ⟨gb109, 1, none⟩ = some (.int .i64 x110001_2) := (blk_cell BK109.out 1).trans rfl; have hfz151_0 := blk_frozen BK109.out 0; have hfz151_1 := blk_frozen BK109.out 1)); try go_wp2_with (first | ((with_reducible refine gate_dst (N := 7) rfl ?_); refine qX (N := 7) (cs := #[.string (⟨#[]⟩ : ByteArray), .int .i64 0, .int .i64 0]) (t := 72) ?_; intro gb140 hg w146 hbox hb; have n0_ := Aside0.mk (blk_below (g := gb108) (o := .cells #[.slice A0_0 l0_0.length c0_0, .slice (some ad139) l0_1.length c0_1] 46 (0, 0)) (qK BK108) hb); have n1_ := Aside0.mk (blk_below (g := gb109) (o := .cells #[.int .i64 x110000_2, .int .i64 x110001_2] 26 (0, 0)) (qK BK109) hb); have n2_ := Aside0.mk (below_step qB hb); have n3_ := Aside0.mk (hbox); have n4_ := Aside0.mk ((qG hg : w.heap.size ≤ gb140)); have n5_ := Aside0.mk ((qG hg : w.heap.size ≤ gb140)); have n6_ := Aside0.mk ((by rw [hg]; exact Nat.ne_of_lt (blk_lt (g := gb108) (o := .cells #[.slice A0_0 l0_0.length c0_0, .slice (some ad139) l0_1.length c0_1] 46 (0, 0)) (qK BK108)) : gb108 ≠ gb140)); have n7_ := Aside0.mk ((by rw [hg]; exact Nat.ne_of_gt (blk_lt (g := gb108) (o := .cells #[.slice A0_0 l0_0.length c0_0, .slice (some ad139) l0_1.length c0_1] 46 (0, 0)) (qK BK108)) : gb140 ≠ gb108)); have n8_ := Aside0.mk ((by rw [hg]; exact Nat.ne_of_lt (blk_lt (g := gb109) (o := .cells #[.int .i64 x110000_2, .int .i64 x110001_2] 26 (0, 0)) (qK BK109)) : gb109 ≠ gb140)); have n9_ := Aside0.mk ((by rw [hg]; exact Nat.ne_of_gt (blk_lt (g := gb109) (o := .cells #[.int .i64 x110000_2, .int .i64 x110001_2] 26 (0, 0)) (qK BK109)) : gb140 ≠ gb109)); clear BK108; clear BK109; clear HB; have BK108 := n0_; have BK109 := n1_; have HB := n2_; have BK140 := n3_; have GW140 := n4_; have GE140 := n5_; have NB108_140 := n6_; have NB140_108 := n7_; have NB109_140 := n8_; have NB140_109 := n9_; clear n0_ n1_ n2_ n3_ n4_ n5_ n6_ n7_ n8_ n9_; clear hb hbox hg; have hnb147 := NB140_108.out; have hnc147 := NB108_140.out; have hnb148 := NB140_109.out; have hnc148 := NB109_140.out; have hcz149_0 : w146.cell? ⟨gb140, 0, none⟩ = some (.string (⟨#[]⟩ : ByteArray)) := (blk_cell BK140.out 0).trans rfl; have hcz149_1 : w146.cell? ⟨gb140, 1, none⟩ = some (.int .i64 0) := (blk_cell BK140.out 1).trans rfl; have hcz149_2 : w146.cell? ⟨gb140, 2, none⟩ = some (.int .i64 0) := (blk_cell BK140.out 2).trans rfl; have hfz149_0 := blk_frozen BK140.out 0; have hfz149_1 := blk_frozen BK140.out 1; have hfz149_2 := blk_frozen BK140.out 2) | (go_at_call 36; (with_reducible refine (ref_PatternOk.calls k2 ((rd_T72 l0_1 x6_2).f0) true _ A120.out).mono ?_); rintro e w' ⟨rfl, ⟨nd, rfl⟩⟩; (try exact qD)) | (go_at_call 13; (with_reducible refine (ref_In.calls ((rd_T72 l0_1 x6_2).f1) 0 4 false _ A122.out).mono ?_); rintro e w' ⟨rfl, ⟨nd, rfl⟩⟩; (try exact qD)) | (go_at_call 14; (with_reducible refine (ref_At.calls 4 (wrap64 ((-10) - x6_2)) t145 t146 _ A143.out).mono ?_); rintro e w150 ⟨rfl, hb⟩; have n0_ := Aside0.mk (blk_below (g := gb108) (o := .cells #[.slice A0_0 l0_0.length c0_0, .slice (some ad139) l0_1.length c0_1] 46 (0, 0)) (by (with_reducible repeat (first | refine blk_drewN ?_ _ | refine blk_drew ?_ | refine blk_alloc ?_ _)); refine blk_far ?_ NB108_140.out _; (with_reducible repeat (first | refine blk_drewN ?_ _ | refine blk_drew ?_ | refine blk_alloc ?_ _)); refine blk_far ?_ NB108_140.out _; (with_reducible repeat (first | refine blk_drewN ?_ _ | refine blk_drew ?_ | refine blk_alloc ?_ _)); refine blk_far ?_ NB108_140.out _; exact qK BK108) hb); have n1_ := Aside0.mk (blk_below (g := gb109) (o := .cells #[.int .i64 x110000_2, .int .i64 x110001_2] 26 (0, 0)) (by (with_reducible repeat (first | refine blk_drewN ?_ _ | refine blk_drew ?_ | refine blk_alloc ?_ _)); refine blk_far ?_ NB109_140.out _; (with_reducible repeat (first | refine blk_drewN ?_ _ | refine blk_drew ?_ | refine blk_alloc ?_ _)); refine blk_far ?_ NB109_140.out _; (with_reducible repeat (first | refine blk_drewN ?_ _ | refine blk_drew ?_ | refine blk_alloc ?_ _)); refine blk_far ?_ NB109_140.out _; exact qK BK109) hb); have n2_ := Aside0.mk (blk_below (g := gb140) (o := .cells #[.string ((rd_T72 l0_1 x6_2).f0), .int .i64 ((rd_T72 l0_1 x6_2).f1), .int .i64 ((rd_T72 l0_1 x6_2).f2)] 72 (0, 0)) (by (with_reducible repeat (first | refine blk_drewN ?_ _ | refine blk_drew ?_ | refine blk_alloc ?_ _)); refine blk_put (cs := #[.string ((rd_T72 l0_1 x6_2).f0), .int .i64 ((rd_T72 l0_1 x6_2).f1), .int .i64 0]) ?_ 2 _ rfl; (with_reducible repeat (first | refine blk_drewN ?_ _ | refine blk_drew ?_ | refine blk_alloc ?_ _)); refine blk_put (cs := #[.string ((rd_T72 l0_1 x6_2).f0), .int .i64 0, .int .i64 0]) ?_ 1 _ rfl; (with_reducible repeat (first | refine blk_drewN ?_ _ | refine blk_drew ?_ | refine blk_alloc ?_ _)); refine blk_put (cs := #[.string (⟨#[]⟩ : ByteArray), .int .i64 0, .int .i64 0]) ?_ 0 _ rfl; exact qK BK140) hb); have n3_ := Aside0.mk (below_step qB hb); clear BK108; clear BK109; clear BK140; clear HB; have BK108 := n0_; have BK109 := n1_; have BK140 := n2_; have HB := n3_; clear n0_ n1_ n2_ n3_; (try clear hb); (try clear hb2); (try clear hk); (try clear hi); have hcz151_0 : w150.cell? ⟨gb109, 0, none⟩ = some (.int .i64 x110000_2) := (blk_cell BK109.out 0).trans rfl; have hcz151_1 : w150.cell? ⟨gb109, 1, none⟩ = some (.int .i64 x110001_2) := (blk_cell BK109.out 1).trans rfl; have hfz151_0 := blk_frozen BK109.out 0; have hfz151_1 := blk_frozen BK109.out 1)))
            refine bodyPost_ret (results_cell_row rfl _ _ gb109 26 #[.int .i64 t145, .int .i64 t146] (0, 0) _ rfl (by (with_reducible repeat (first | refine blk_drewN ?_ _ | refine blk_drew ?_ | refine blk_alloc ?_ _)); refine blk_put (cs := #[.int .i64 t145, .int .i64 x110001_2]) ?_ 1 _ rfl; (with_reducible repeat (first | refine blk_drewN ?_ _ | refine blk_drew ?_ | refine blk_alloc ?_ _)); refine blk_put (cs := #[.int .i64 x110000_2, .int .i64 x110001_2]) ?_ 0 _ rfl; exact qK BK109) Try.underlying26 rfl (by kernel_rfl)) rfl ?_
            exact ⟨qE, qB⟩
          ·replace c121 := Bool.eq_false_iff.mpr c121
           subst c121
           have H1 : ((ref_At.f 12 (wrap64 ((-10) - x6_2))).bind fun bt142 => (some (bt142.1, bt142.2))) = some (r1, r2) := by rw [if_neg (show ¬ (false = true) by decide)] at H; exact H
           clear H
           have H := H1
           clear H1
           replace H := Option.bind_eq_some_iff.mp H
           obtain ⟨⟨t142, t143⟩, A1520, H⟩ := H
           replace H : (some (t142, t143)) = some (r1, r2) := H
           have A152 := Aside0.mk A1520
           clear A1520
           simp only [Option.some.injEq, Prod.mk.injEq] at H
           obtain ⟨rfl, rfl⟩ := H
           have hnb153 := NB108_109.out
           have hnc153 := NB109_108.out
           have hcz154_0 : wr.cell? ⟨gb108, 0, none⟩ = some (.slice A0_0 l0_0.length c0_0) := (blk_cell BK108.out 0).trans rfl
           have hcz154_1 : wr.cell? ⟨gb108, 1, none⟩ = some (.slice A0_1 l0_1.length c0_1) := (blk_cell BK108.out 1).trans rfl
           have hfz154_0 := blk_frozen BK108.out 0
           have hfz154_1 := blk_frozen BK108.out 1
           have p139 : 0 ≤ (x6_2 : Int) := of_decide_eq_true qO
           have q139 : x6_2 < (l0_1.length : Int) := of_decide_eq_true qO
           obtain ⟨ad139, e139, hx139_0, hx139_1, hx139_2⟩ := at_T72 HR0_1.out x6_2 p139 q139
           cases e139
           replace hx139_0 := (HB.out.cell (World.block_lt_of_cell? w _ hx139_0)).trans hx139_0
           replace hx139_1 := (HB.out.cell (World.block_lt_of_cell? w _ hx139_1)).trans hx139_1
           replace hx139_2 := (HB.out.cell (World.block_lt_of_cell? w _ hx139_2)).trans hx139_2
           replace p139 := eq_true p139
           replace q139 := eq_true q139
           go_wp2_with (first | ((with_reducible refine gate_dst (N := 7) rfl ?_); refine qX (N := 7) (cs := #[.string (⟨#[]⟩ : ByteArray), .int .i64 0, .int .i64 0]) (t := 72) ?_; intro gb140 hg w155 hbox hb; have n0_ := Aside0.mk (blk_below (g := gb108) (o := .cells #[.slice A0_0 l0_0.length c0_0, .slice (some ad139) l0_1.length c0_1] 46 (0, 0)) (qK BK108) hb); have n1_ := Aside0.mk (blk_below (g := gb109) (o := .cells #[.int .i64 x110000_2, .int .i64 x110001_2] 26 (0, 0)) (qK BK109) hb); have n2_ := Aside0.mk (below_step qB hb); have n3_ := Aside0.mk (hbox); have n4_ := Aside0.mk ((qG hg : w.heap.size ≤ gb140)); have n5_ := Aside0.mk ((qG hg : w.heap.size ≤ gb140)); have n6_ := Aside0.mk ((by rw [hg]; exact Nat.ne_of_lt (blk_lt (g := gb108) (o := .cells #[.slice A0_0 l0_0.length c0_0, .slice (some ad139) l0_1.length c0_1] 46 (0, 0)) (qK BK108)) : gb108 ≠ gb140)); have n7_ := Aside0.mk ((by rw [hg]; exact Nat.ne_of_gt (blk_lt (g := gb108) (o := .cells #[.slice A0_0 l0_0.length c0_0, .slice (some ad139) l0_1.length c0_1] 46 (0, 0)) (qK BK108)) : gb140 ≠ gb108)); have n8_ := Aside0.mk ((by rw [hg]; exact Nat.ne_of_lt (blk_lt (g := gb109) (o := .cells #[.int .i64 x110000_2, .int .i64 x110001_2] 26 (0, 0)) (qK BK109)) : gb109 ≠ gb140)); have n9_ := Aside0.mk ((by rw [hg]; exact Nat.ne_of_gt (blk_lt (g := gb109) (o := .cells #[.int .i64 x110000_2, .int .i64 x110001_2] 26 (0, 0)) (qK BK109)) : gb140 ≠ gb109)); clear BK108; clear BK109; clear HB; have BK108 := n0_; have BK109 := n1_; have HB := n2_; have BK140 := n3_; have GW140 := n4_; have GE140 := n5_; have NB108_140 := n6_; have NB140_108 := n7_; have NB109_140 := n8_; have NB140_109 := n9_; clear n0_ n1_ n2_ n3_ n4_ n5_ n6_ n7_ n8_ n9_; clear hb hbox hg; have hnb156 := NB140_108.out; have hnc156 := NB108_140.out; have hnb157 := NB140_109.out; have hnc157 := NB109_140.out; have hcz158_0 : w155.cell? ⟨gb140, 0, none⟩ = some (.string (⟨#[]⟩ : ByteArray)) := (blk_cell BK140.out 0).trans rfl; have hcz158_1 : w155.cell? ⟨gb140, 1, none⟩ = some (.int .i64 0) := (blk_cell BK140.out 1).trans rfl; have hcz158_2 : w155.cell? ⟨gb140, 2, none⟩ = some (.int .i64 0) := (blk_cell BK140.out 2).trans rfl; have hfz158_0 := blk_frozen BK140.out 0; have hfz158_1 := blk_frozen BK140.out 1; have hfz158_2 := blk_frozen BK140.out 2) | (go_at_call 36; (with_reducible refine (ref_PatternOk.calls k2 ((rd_T72 l0_1 x6_2).f0) false _ A120.out).mono ?_); rintro e w' ⟨rfl, ⟨nd, rfl⟩⟩; (try exact qD)) | (go_at_call 14; (with_reducible refine (ref_At.calls 12 (wrap64 ((-10) - x6_2)) t142 t143 _ A152.out).mono ?_); rintro e w159 ⟨rfl, hb⟩; have n0_ := Aside0.mk (blk_below (g := gb108) (o := .cells #[.slice A0_0 l0_0.length c0_0, .slice (some ad139) l0_1.length c0_1] 46 (0, 0)) (by (with_reducible repeat (first | refine blk_drewN ?_ _ | refine blk_drew ?_ | refine blk_alloc ?_ _)); refine blk_far ?_ NB108_140.out _; (with_reducible repeat (first | refine blk_drewN ?_ _ | refine blk_drew ?_ | refine blk_alloc ?_ _)); refine blk_far ?_ NB108_140.out _; (with_reducible repeat (first | refine blk_drewN ?_ _ | refine blk_drew ?_ | refine blk_alloc ?_ _)); refine blk_far ?_ NB108_140.out _; exact qK BK108) hb); have n1_ := Aside0.mk (blk_below (g := gb109) (o := .cells #[.int .i64 x110000_2, .int .i64 x110001_2] 26 (0, 0)) (by (with_reducible repeat (first | refine blk_drewN ?_ _ | refine blk_drew ?_ | refine blk_alloc ?_ _)); refine blk_far ?_ NB109_140.out _; (with_reducible repeat (first | refine blk_drewN ?_ _ | refine blk_drew ?_ | refine blk_alloc ?_ _)); refine blk_far ?_ NB109_140.out _; (with_reducible repeat (first | refine blk_drewN ?_ _ | refine blk_drew ?_ | refine blk_alloc ?_ _)); refine blk_far ?_ NB109_140.out _; exact qK BK109) hb); have n2_ := Aside0.mk (blk_below (g := gb140) (o := .cells #[.string ((rd_T72 l0_1 x6_2).f0), .int .i64 ((rd_T72 l0_1 x6_2).f1), .int .i64 ((rd_T72 l0_1 x6_2).f2)] 72 (0, 0)) (by (with_reducible repeat (first | refine blk_drewN ?_ _ | refine blk_drew ?_ | refine blk_alloc ?_ _)); refine blk_put (cs := #[.string ((rd_T72 l0_1 x6_2).f0), .int .i64 ((rd_T72 l0_1 x6_2).f1), .int .i64 0]) ?_ 2 _ rfl; (with_reducible repeat (first | refine blk_drewN ?_ _ | refine blk_drew ?_ | refine blk_alloc ?_ _)); refine blk_put (cs := #[.string ((rd_T72 l0_1 x6_2).f0), .int .i64 0, .int .i64 0]) ?_ 1 _ rfl; (with_reducible repeat (first | refine blk_drewN ?_ _ | refine blk_drew ?_ | refine blk_alloc ?_ _)); refine blk_put (cs := #[.string (⟨#[]⟩ : ByteArray), .int .i64 0, .int .i64 0]) ?_ 0 _ rfl; exact qK BK140) hb); have n3_ := Aside0.mk (below_step qB hb); clear BK108; clear BK109; clear BK140; clear HB; have BK108 := n0_; have BK109 := n1_; have BK140 := n2_; have HB := n3_; clear n0_ n1_ n2_ n3_; (try clear hb); (try clear hb2); (try clear hk); (try clear hi); have hcz160_0 : w159.cell? ⟨gb109, 0, none⟩ = some (.int .i64 x110000_2) := (blk_cell BK109.out 0).trans rfl; have hcz160_1 : w159.cell? ⟨gb109, 1, none⟩ = some (.int .i64 x110001_2) := (blk_cell BK109.out 1).trans rfl; have hfz160_0 := blk_frozen BK109.out 0; have hfz160_1 := blk_frozen BK109.out 1))
           repeat (go_quiet (first | ((with_reducible refine gate_dst (N := 7) rfl ?_); refine qX (N := 7) (cs := #[.string (⟨#[]⟩ : ByteArray), .int .i64 0, .int .i64 0]) (t := 72) ?_; intro gb140 hg w155 hbox hb; have n0_ := Aside0.mk (blk_below (g := gb108) (o := .cells #[.slice A0_0 l0_0.length c0_0, .slice (some ad139) l0_1.length c0_1] 46 (0, 0)) (qK BK108) hb); have n1_ := Aside0.mk (blk_below (g := gb109) (o := .cells #[.int .i64 x110000_2, .int .i64 x110001_2] 26 (0, 0)) (qK BK109) hb); have n2_ := Aside0.mk (below_step qB hb); have n3_ := Aside0.mk (hbox); have n4_ := Aside0.mk ((qG hg : w.heap.size ≤ gb140)); have n5_ := Aside0.mk ((qG hg : w.heap.size ≤ gb140)); have n6_ := Aside0.mk ((by rw [hg]; exact Nat.ne_of_lt (blk_lt (g := gb108) (o := .cells #[.slice A0_0 l0_0.length c0_0, .slice (some ad139) l0_1.length c0_1] 46 (0, 0)) (qK BK108)) : gb108 ≠ gb140)); have n7_ := Aside0.mk ((by rw [hg]; exact Nat.ne_of_gt (blk_lt (g := gb108) (o := .cells #[.slice A0_0 l0_0.length c0_0, .slice (some ad139) l0_1.length c0_1] 46 (0, 0)) (qK BK108)) : gb140 ≠ gb108)); have n8_ := Aside0.mk ((by rw [hg]; exact Nat.ne_of_lt (blk_lt (g := gb109) (o := .cells #[.int .i64 x110000_2, .int .i64 x110001_2] 26 (0, 0)) (qK BK109)) : gb109 ≠ gb140)); have n9_ := Aside0.mk ((by rw [hg]; exact Nat.ne_of_gt (blk_lt (g := gb109) (o := .cells #[.int .i64 x110000_2, .int .i64 x110001_2] 26 (0, 0)) (qK BK109)) : gb140 ≠ gb109)); clear BK108; clear BK109; clear HB; have BK108 := n0_; have BK109 := n1_; have HB := n2_; have BK140 := n3_; have GW140 := n4_; have GE140 := n5_; have NB108_140 := n6_; have NB140_108 := n7_; have NB109_140 := n8_; have NB140_109 := n9_; clear n0_ n1_ n2_ n3_ n4_ n5_ n6_ n7_ n8_ n9_; clear hb hbox hg; have hnb156 := NB140_108.out; have hnc156 := NB108_140.out; have hnb157 := NB140_109.out; have hnc157 := NB109_140.out; have hcz158_0 : w155.cell? ⟨gb140, 0, none⟩ = some (.string (⟨#[]⟩ : ByteArray)) := (blk_cell BK140.out 0).trans rfl; have hcz158_1 : w155.cell? ⟨gb140, 1, none⟩ = some (.int .i64 0) := (blk_cell BK140.out 1).trans rfl; have hcz158_2 : w155.cell? ⟨gb140, 2, none⟩ = some (.int .i64 0) := (blk_cell BK140.out 2).trans rfl; have hfz158_0 := blk_frozen BK140.out 0; have hfz158_1 := blk_frozen BK140.out 1; have hfz158_2 := blk_frozen BK140.out 2) | (go_at_call 36; (with_reducible refine (ref_PatternOk.calls k2 ((rd_T72 l0_1 x6_2).f0) false _ A120.out).mono ?_); rintro e w' ⟨rfl, ⟨nd, rfl⟩⟩; (try exact qD)) | (go_at_call 14; (with_reducible refine (ref_At.calls 12 (wrap64 ((-10) - x6_2)) t142 t143 _ A152.out).mono ?_); rintro e w159 ⟨rfl, hb⟩; have n0_ := Aside0.mk (blk_below (g := gb108) (o := .cells #[.slice A0_0 l0_0.length c0_0, .slice (some ad139) l0_1.length c0_1] 46 (0, 0)) (by (with_reducible repeat (first | refine blk_drewN ?_ _ | refine blk_drew ?_ | refine blk_alloc ?_ _)); refine blk_far ?_ NB108_140.out _; (with_reducible repeat (first | refine blk_drewN ?_ _ | refine blk_drew ?_ | refine blk_alloc ?_ _)); refine blk_far ?_ NB108_140.out _; (with_reducible repeat (first | refine blk_drewN ?_ _ | refine blk_drew ?_ | refine blk_alloc ?_ _)); refine blk_far ?_ NB108_140.out _; exact qK BK108) hb); have n1_ := Aside0.mk (blk_below (g := gb109) (o := .cells #[.int .i64 x110000_2, .int .i64 x110001_2] 26 (0, 0)) (by (with_reducible repeat (first | refine blk_drewN ?_ _ | refine blk_drew ?_ | refine blk_alloc ?_ _)); refine blk_far ?_ NB109_140.out _; (with_reducible repeat (first | refine blk_drewN ?_ _ | refine blk_drew ?_ | refine blk_alloc ?_ _)); refine blk_far ?_ NB109_140.out _; (with_reducible repeat (first | refine blk_drewN ?_ _ | refine blk_drew ?_ | refine blk_alloc ?_ _)); refine blk_far ?_ NB109_140.out _; exact qK BK109) hb); have n2_ := Aside0.mk (blk_below (g := gb140) (o := .cells #[.string ((rd_T72 l0_1 x6_2).f0), .int .i64 ((rd_T72 l0_1 x6_2).f1), .int .i64 ((rd_T72 l0_1 x6_2).f2)] 72 (0, 0)) (by (with_reducible repeat (first | refine blk_drewN ?_ _ | refine blk_drew ?_ | refine blk_alloc ?_ _)); refine blk_put (cs := #[.string ((rd_T72 l0_1 x6_2).f0), .int .i64 ((rd_T72 l0_1 x6_2).f1), .int .i64 0]) ?_ 2 _ rfl; (with_reducible repeat (first | refine blk_drewN ?_ _ | refine blk_drew ?_ | refine blk_alloc ?_ _)); refine blk_put (cs := #[.string ((rd_T72 l0_1 x6_2).f0), .int .i64 0, .int .i64 0]) ?_ 1 _ rfl; (with_reducible repeat (first | refine blk_drewN ?_ _ | refine blk_drew ?_ | refine blk_alloc ?_ _)); refine blk_put (cs := #[.string (⟨#[]⟩ : ByteArray), .int .i64 0, .int .i64 0]) ?_ 0 _ rfl; exact qK BK140) hb); have n3_ := Aside0.mk (below_step qB hb); clear BK108; clear BK109; clear BK140; clear HB; have BK108 := n0_; have BK109 := n1_; have BK140 := n2_; have HB := n3_; clear n0_ n1_ n2_ n3_; (try clear hb); (try clear hb2); (try clear hk); (try clear hi); have hcz160_0 : w159.cell? ⟨gb109, 0, none⟩ = some (.int .i64 x110000_2) := (blk_cell BK109.out 0).trans rfl; have hcz160_1 : w159.cell? ⟨gb109, 1, none⟩ = some (.int .i64 x110001_2) := (blk_cell BK109.out 1).trans rfl; have hfz160_0 := blk_frozen BK109.out 0; have hfz160_1 := blk_frozen BK109.out 1)); try go_wp2_with (first | ((with_reducible refine gate_dst (N := 7) rfl ?_); refine qX (N := 7) (cs := #[.string (⟨#[]⟩ : ByteArray), .int .i64 0, .int .i64 0]) (t := 72) ?_; intro gb140 hg w155 hbox hb; have n0_ := Aside0.mk (blk_below (g := gb108) (o := .cells #[.slice A0_0 l0_0.length c0_0, .slice (some ad139) l0_1.length c0_1] 46 (0, 0)) (qK BK108) hb); have n1_ := Aside0.mk (blk_below (g := gb109) (o := .cells #[.int .i64 x110000_2, .int .i64 x110001_2] 26 (0, 0)) (qK BK109) hb); have n2_ := Aside0.mk (below_step qB hb); have n3_ := Aside0.mk (hbox); have n4_ := Aside0.mk ((qG hg : w.heap.size ≤ gb140)); have n5_ := Aside0.mk ((qG hg : w.heap.size ≤ gb140)); have n6_ := Aside0.mk ((by rw [hg]; exact Nat.ne_of_lt (blk_lt (g := gb108) (o := .cells #[.slice A0_0 l0_0.length c0_0, .slice (some ad139) l0_1.length c0_1] 46 (0, 0)) (qK BK108)) : gb108 ≠ gb140)); have n7_ := Aside0.mk ((by rw [hg]; exact Nat.ne_of_gt (blk_lt (g := gb108) (o := .cells #[.slice A0_0 l0_0.length c0_0, .slice (some ad139) l0_1.length c0_1] 46 (0, 0)) (qK BK108)) : gb140 ≠ gb108)); have n8_ := Aside0.mk ((by rw [hg]; exact Nat.ne_of_lt (blk_lt (g := gb109) (o := .cells #[.int .i64 x110000_2, .int .i64 x110001_2] 26 (0, 0)) (qK BK109)) : gb109 ≠ gb140)); have n9_ := Aside0.mk ((by rw [hg]; exact Nat.ne_of_gt (blk_lt (g := gb109) (o := .cells #[.int .i64 x110000_2, .int .i64 x110001_2] 26 (0, 0)) (qK BK109)) : gb140 ≠ gb109)); clear BK108; clear BK109; clear HB; have BK108 := n0_; have BK109 := n1_; have HB := n2_; have BK140 := n3_; have GW140 := n4_; have GE140 := n5_; have NB108_140 := n6_; have NB140_108 := n7_; have NB109_140 := n8_; have NB140_109 := n9_; clear n0_ n1_ n2_ n3_ n4_ n5_ n6_ n7_ n8_ n9_; clear hb hbox hg; have hnb156 := NB140_108.out; have hnc156 := NB108_140.out; have hnb157 := NB140_109.out; have hnc157 := NB109_140.out; have hcz158_0 : w155.cell? ⟨gb140, 0, none⟩ = some (.string (⟨#[]⟩ : ByteArray)) := (blk_cell BK140.out 0).trans rfl; have hcz158_1 : w155.cell? ⟨gb140, 1, none⟩ = some (.int .i64 0) := (blk_cell BK140.out 1).trans rfl; have hcz158_2 : w155.cell? ⟨gb140, 2, none⟩ = some (.int .i64 0) := (blk_cell BK140.out 2).trans rfl; have hfz158_0 := blk_frozen BK140.out 0; have hfz158_1 := blk_frozen BK140.out 1; have hfz158_2 := blk_frozen BK140.out 2) | (go_at_call 36; (with_reducible refine (ref_PatternOk.calls k2 ((rd_T72 l0_1 x6_2).f0) false _ A120.out).mono ?_); rintro e w' ⟨rfl, ⟨nd, rfl⟩⟩; (try exact qD)) | (go_at_call 14; (with_reducible refine (ref_At.calls 12 (wrap64 ((-10) - x6_2)) t142 t143 _ A152.out).mono ?_); rintro e w159 ⟨rfl, hb⟩; have n0_ := Aside0.mk (blk_below (g := gb108) (o := .cells #[.slice A0_0 l0_0.length c0_0, .slice (some ad139) l0_1.length c0_1] 46 (0, 0)) (by (with_reducible repeat (first | refine blk_drewN ?_ _ | refine blk_drew ?_ | refine blk_alloc ?_ _)); refine blk_far ?_ NB108_140.out _; (with_reducible repeat (first | refine blk_drewN ?_ _ | refine blk_drew ?_ | refine blk_alloc ?_ _)); refine blk_far ?_ NB108_140.out _; (with_reducible repeat (first | refine blk_drewN ?_ _ | refine blk_drew ?_ | refine blk_alloc ?_ _)); refine blk_far ?_ NB108_140.out _; exact qK BK108) hb); have n1_ := Aside0.mk (blk_below (g := gb109) (o := .cells #[.int .i64 x110000_2, .int .i64 x110001_2] 26 (0, 0)) (by (with_reducible repeat (first | refine blk_drewN ?_ _ | refine blk_drew ?_ | refine blk_alloc ?_ _)); refine blk_far ?_ NB109_140.out _; (with_reducible repeat (first | refine blk_drewN ?_ _ | refine blk_drew ?_ | refine blk_alloc ?_ _)); refine blk_far ?_ NB109_140.out _; (with_reducible repeat (first | refine blk_drewN ?_ _ | refine blk_drew ?_ | refine blk_alloc ?_ _)); refine blk_far ?_ NB109_140.out _; exact qK BK109) hb); have n2_ := Aside0.mk (blk_below (g := gb140) (o := .cells #[.string ((rd_T72 l0_1 x6_2).f0), .int .i64 ((rd_T72 l0_1 x6_2).f1), .int .i64 ((rd_T72 l0_1 x6_2).f2)] 72 (0, 0)) (by (with_reducible repeat (first | refine blk_drewN ?_ _ | refine blk_drew ?_ | refine blk_alloc ?_ _)); refine blk_put (cs := #[.string ((rd_T72 l0_1 x6_2).f0), .int .i64 ((rd_T72 l0_1 x6_2).f1), .int .i64 0]) ?_ 2 _ rfl; (with_reducible repeat (first | refine blk_drewN ?_ _ | refine blk_drew ?_ | refine blk_alloc ?_ _)); refine blk_put (cs := #[.string ((rd_T72 l0_1 x6_2).f0), .int .i64 0, .int .i64 0]) ?_ 1 _ rfl; (with_reducible repeat (first | refine blk_drewN ?_ _ | refine blk_drew ?_ | refine blk_alloc ?_ _)); refine blk_put (cs := #[.string (⟨#[]⟩ : ByteArray), .int .i64 0, .int .i64 0]) ?_ 0 _ rfl; exact qK BK140) hb); have n3_ := Aside0.mk (below_step qB hb); clear BK108; clear BK109; clear BK140; clear HB; have BK108 := n0_; have BK109 := n1_; have BK140 := n2_; have HB := n3_; clear n0_ n1_ n2_ n3_; (try clear hb); (try clear hb2); (try clear hk); (try clear hi); have hcz160_0 : w159.cell? ⟨gb109, 0, none⟩ = some (.int .i64 x110000_2) := (blk_cell BK109.out 0).trans rfl; have hcz160_1 : w159.cell? ⟨gb109, 1, none⟩ = some (.int .i64 x110001_2) := (blk_cell BK109.out 1).trans rfl; have hfz160_0 := blk_frozen BK109.out 0; have hfz160_1 := blk_frozen BK109.out 1)))
           refine bodyPost_ret (results_cell_row rfl _ _ gb109 26 #[.int .i64 t142, .int .i64 t143] (0, 0) _ rfl (by (with_reducible repeat (first | refine blk_drewN ?_ _ | refine blk_drew ?_ | refine blk_alloc ?_ _)); refine blk_put (cs := #[.int .i64 t142, .int .i64 x110001_2]) ?_ 1 _ rfl; (with_reducible repeat (first | refine blk_drewN ?_ _ | refine blk_drew ?_ | refine blk_alloc ?_ _)); refine blk_put (cs := #[.int .i64 x110000_2, .int .i64 x110001_2]) ?_ 0 _ rfl; exact qK BK109) Try.underlying26 rfl (by kernel_rfl)) rfl ?_
           exact ⟨qE, qB⟩
         ·rw [if_neg c119] at H
          exact absurd H (by simp)
        ·rw [if_neg c118] at H
         have c118b0 : decide (x6_2 < (l0_1.length : Int)) = false := decide_eq_false c118
         clear c118
         simp only [Option.some.injEq, Prod.mk.injEq] at H
         obtain ⟨rfl, rfl⟩ := H
         have hnb161 := NB108_109.out
         have hnc161 := NB109_108.out
         have hcz162_0 : wr.cell? ⟨gb108, 0, none⟩ = some (.slice A0_0 l0_0.length c0_0) := (blk_cell BK108.out 0).trans rfl
         have hcz162_1 : wr.cell? ⟨gb108, 1, none⟩ = some (.slice A0_1 l0_1.length c0_1) := (blk_cell BK108.out 1).trans rfl
         have hfz162_0 := blk_frozen BK108.out 0
         have hfz162_1 := blk_frozen BK108.out 1
         have hcz163_0 : wr.cell? ⟨gb109, 0, none⟩ = some (.int .i64 x110000_2) := (blk_cell BK109.out 0).trans rfl
         have hcz163_1 : wr.cell? ⟨gb109, 1, none⟩ = some (.int .i64 x110001_2) := (blk_cell BK109.out 1).trans rfl
         have hfz163_0 := blk_frozen BK109.out 0
         have hfz163_1 := blk_frozen BK109.out 1
         go_wp2
         repeat (go_quiet (fail); try go_wp2)
         refine bodyPost_ret (results_cell_row rfl _ _ gb109 26 #[.int .i64 0, .int .i64 0] (0, 0) _ rfl (by (with_reducible repeat (first | refine blk_drewN ?_ _ | refine blk_drew ?_ | refine blk_alloc ?_ _)); refine blk_put (cs := #[.int .i64 0, .int .i64 x110001_2]) ?_ 1 _ rfl; (with_reducible repeat (first | refine blk_drewN ?_ _ | refine blk_drew ?_ | refine blk_alloc ?_ _)); refine blk_put (cs := #[.int .i64 x110000_2, .int .i64 x110001_2]) ?_ 0 _ rfl; exact qK BK109) Try.underlying26 rfl (by kernel_rfl)) rfl ?_
         exact ⟨qE, qB⟩

end Go.Proofs.Ytnbeamaoblmbhaa.PPlace
