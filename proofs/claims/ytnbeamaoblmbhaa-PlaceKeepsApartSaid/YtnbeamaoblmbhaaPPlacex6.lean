/- Written by a program of this session, for the law(s) Place: contracts of the Go functions that the law reaches, each against a plain Lean function. No condition. -/
import Derived.Test.YtnbeamaoblmbhaaPPlacex0
import Derived.Test.YtnbeamaoblmbhaaPPlacex3
import Derived.Test.YtnbeamaoblmbhaaPPlacex5
namespace Go.Proofs.Ytnbeamaoblmbhaa.PPlace
open Go.RowKit Go.Proofs.YtnbeamaoblmbhaaW.PrintWords Go.Proofs.YtnbeamaoblmbhaaW.PrintLast Go.Proofs.YtnbeamaoblmbhaaW.PrintMore
attribute [local go_sem] max2_int min2_int max_two min_two max_three min_three max_four min_four   -- for this text's walks alone
set_option linter.unusedVariables false
set_option linter.unusedSimpArgs false

/-! ### ref_Placed: function 22 -/
mutual
def ref_Placed.l0 : Nat → List (S62) → List Int → List (S58) → Int → Int → List (S60) → List (S72) → Option (List Int × (List (S58)) × Int × Int)
 | 0, _, _, _, _, _, _, _ => none
 | k + 1, x1, x7, x8, x9, x10, x166000, x166001 => if x10 < (x166000.length : Int) then (if 0 ≤ x10 then (if ((rd_T60 x166000 x10).f1) < 0 then ((ref_Round.f k x9 256).bind fun t172 => ((ref_Round.f k t172 ((rd_T60 x166000 x10).f2)).bind fun t173 => (ref_Placed.j1 k x1 x7 x8 x9 x10 t173 x166000 x166001 ((rd_T60 x166000 x10).f0) ((rd_T60 x166000 x10).f1) ((rd_T60 x166000 x10).f2) ((rd_T60 x166000 x10).f3)))) else (ref_Placed.j1 k x1 x7 x8 x9 x10 ((rd_T60 x166000 x10).f1) x166000 x166001 ((rd_T60 x166000 x10).f0) ((rd_T60 x166000 x10).f1) ((rd_T60 x166000 x10).f2) ((rd_T60 x166000 x10).f3))) else (none)) else (some (x7, x8, 0, 0))
def ref_Placed.j1 : Nat → List (S62) → List Int → List (S58) → Int → Int → Int → List (S60) → List (S72) → ByteArray → Int → Int → Int → Option (List Int × (List (S58)) × Int × Int)
 | 0, _, _, _, _, _, _, _, _, _, _, _, _ => none
 | k + 1, x1, x7, x8, x9, x10, x12, x166000, x166001, x172000, x172001, x172002, x172003 => if x12 < x9 then (ref_Placed.j2 k x1 x7 x8 x10 x12 true x166000 x166001) else (if x172002 = 0 then (none) else (ref_Placed.j2 k x1 x7 x8 x10 x12 ((Int.tmod x12 x172002) != 0) x166000 x166001))
def ref_Placed.j2 : Nat → List (S62) → List Int → List (S58) → Int → Int → Bool → List (S60) → List (S72) → Option (List Int × (List (S58)) × Int × Int)
 | 0, _, _, _, _, _, _, _, _ => none
 | k + 1, x1, x7, x8, x10, x12, x48, x166000, x166001 => if x48 = true then ((ref_At.f 13 x10).bind fun bt174 => (some (([] : List Int), ([] : List (S58)), bt174.1, bt174.2))) else (ref_Placed.l1 k x1 x7 x8 x10 x12 x12 0 x166000 x166001)
def ref_Placed.l1 : Nat → List (S62) → List Int → List (S58) → Int → Int → Int → Int → List (S60) → List (S72) → Option (List Int × (List (S58)) × Int × Int)
 | 0, _, _, _, _, _, _, _, _, _ => none
 | k + 1, x1, x7, x8, x10, x12, x13, x14, x166000, x166001 => if x14 < (x1.length : Int) then (if 0 ≤ x14 then (if ((rd_T62 x1 x14).f0) = x10 then ((ref_Round.f k x12 ((rd_T62 x1 x14).f2)).bind fun t178 => (if x14 < (x7.length : Int) then (ref_Placed.l1 k x1 (x7.set (x14 : Int).toNat t178) x8 x10 (wrap64 (t178 + ((rd_T62 x1 x14).f1))) x13 (wrap64 (x14 + 1)) x166000 x166001) else (none))) else (ref_Placed.l1 k x1 x7 x8 x10 x12 x13 (wrap64 (x14 + 1)) x166000 x166001)) else (none)) else (if x12 > 1048576 then ((ref_At.f 10 x10).bind fun bt181 => (some (([] : List Int), ([] : List (S58)), bt181.1, bt181.2))) else (if x8.length < 8796093022208 then (ref_Placed.l0 k x1 x7 (x8 ++ [(⟨x13, wrap64 (x12 - x13)⟩ : S58)]) x12 (wrap64 (x10 + 1)) x166000 x166001) else (none)))
end
def ref_Placed.f (k : Nat) (l0_0 : List (S60)) (l0_1 : List (S72)) (l1 : List (S62)) : Option (List Int × (List (S58)) × Int × Int) := if 0 ≤ (l1.length : Int) then (if ((l1.length : Int) : Int).toNat ≤ 35184372088832 then (ref_Placed.l0 k l1 (List.replicate ((l1.length : Int) : Int).toNat 0) ([] : List (S58)) 256 0 l0_0 l0_1) else (none)) else (none)
theorem ref_Placed.mono_l : ∀ k, (∀ y0 y1 y2 y3 y4 y5 y6, LeO (ref_Placed.l0 k y0 y1 y2 y3 y4 y5 y6) (ref_Placed.l0 (k + 1) y0 y1 y2 y3 y4 y5 y6)) ∧ (∀ y0 y1 y2 y3 y4 y5 y6 y7 y8 y9 y10 y11, LeO (ref_Placed.j1 k y0 y1 y2 y3 y4 y5 y6 y7 y8 y9 y10 y11) (ref_Placed.j1 (k + 1) y0 y1 y2 y3 y4 y5 y6 y7 y8 y9 y10 y11)) ∧ (∀ y0 y1 y2 y3 y4 y5 y6 y7, LeO (ref_Placed.j2 k y0 y1 y2 y3 y4 y5 y6 y7) (ref_Placed.j2 (k + 1) y0 y1 y2 y3 y4 y5 y6 y7)) ∧ (∀ y0 y1 y2 y3 y4 y5 y6 y7 y8, LeO (ref_Placed.l1 k y0 y1 y2 y3 y4 y5 y6 y7 y8) (ref_Placed.l1 (k + 1) y0 y1 y2 y3 y4 y5 y6 y7 y8))
 | 0 => ⟨fun _ _ _ _ _ _ _ r h => by simp [ref_Placed.l0] at h, fun _ _ _ _ _ _ _ _ _ _ _ _ r h => by simp [ref_Placed.j1] at h, fun _ _ _ _ _ _ _ _ r h => by simp [ref_Placed.j2] at h, fun _ _ _ _ _ _ _ _ _ r h => by simp [ref_Placed.l1] at h⟩
 | k + 1 => by
  obtain ⟨ih0, ih1, ih2, ih3⟩ := ref_Placed.mono_l k
  refine ⟨?_, ?_, ?_, ?_⟩
  ·intro y0 y1 y2 y3 y4 y5 y6
   unfold ref_Placed.l0
   repeat' first
   | (with_reducible exact ih0 _ _ _ _ _ _ _)
   | (with_reducible exact ih1 _ _ _ _ _ _ _ _ _ _ _ _)
   | (with_reducible exact ih2 _ _ _ _ _ _ _ _)
   | (with_reducible exact ih3 _ _ _ _ _ _ _ _ _)
   | (with_reducible exact ref_Round.mono _ _ _)
   | (with_reducible exact LeO.refl _)
   | (with_reducible exact LeO.none _)
   | (with_reducible refine LeO.ite ?_ ?_)
   | (with_reducible refine LeO.bind ?_ (fun _ => ?_))
   | exact ih0 _ _ _ _ _ _ _
   | exact ih1 _ _ _ _ _ _ _ _ _ _ _ _
   | exact ih2 _ _ _ _ _ _ _ _
   | exact ih3 _ _ _ _ _ _ _ _ _
   | exact ref_Round.mono _ _ _
   | exact LeO.none _
   | refine LeO.ite ?_ ?_
   | refine LeO.bind ?_ (fun _ => ?_)
  ·intro y0 y1 y2 y3 y4 y5 y6 y7 y8 y9 y10 y11
   unfold ref_Placed.j1
   repeat' first
   | (with_reducible exact ih0 _ _ _ _ _ _ _)
   | (with_reducible exact ih1 _ _ _ _ _ _ _ _ _ _ _ _)
   | (with_reducible exact ih2 _ _ _ _ _ _ _ _)
   | (with_reducible exact ih3 _ _ _ _ _ _ _ _ _)
   | (with_reducible exact ref_Round.mono _ _ _)
   | (with_reducible exact LeO.refl _)
   | (with_reducible exact LeO.none _)
   | (with_reducible refine LeO.ite ?_ ?_)
   | (with_reducible refine LeO.bind ?_ (fun _ => ?_))
   | exact ih0 _ _ _ _ _ _ _
   | exact ih1 _ _ _ _ _ _ _ _ _ _ _ _
   | exact ih2 _ _ _ _ _ _ _ _
   | exact ih3 _ _ _ _ _ _ _ _ _
   | exact ref_Round.mono _ _ _
   | exact LeO.none _
   | refine LeO.ite ?_ ?_
   | refine LeO.bind ?_ (fun _ => ?_)
  ·intro y0 y1 y2 y3 y4 y5 y6 y7
   unfold ref_Placed.j2
   repeat' first
   | (with_reducible exact ih0 _ _ _ _ _ _ _)
   | (with_reducible exact ih1 _ _ _ _ _ _ _ _ _ _ _ _)
   | (with_reducible exact ih2 _ _ _ _ _ _ _ _)
   | (with_reducible exact ih3 _ _ _ _ _ _ _ _ _)
   | (with_reducible exact ref_Round.mono _ _ _)
   | (with_reducible exact LeO.refl _)
   | (with_reducible exact LeO.none _)
   | (with_reducible refine LeO.ite ?_ ?_)
   | (with_reducible refine LeO.bind ?_ (fun _ => ?_))
   | exact ih0 _ _ _ _ _ _ _
   | exact ih1 _ _ _ _ _ _ _ _ _ _ _ _
   | exact ih2 _ _ _ _ _ _ _ _
   | exact ih3 _ _ _ _ _ _ _ _ _
   | exact ref_Round.mono _ _ _
   | exact LeO.none _
   | refine LeO.ite ?_ ?_
   | refine LeO.bind ?_ (fun _ => ?_)
  ·intro y0 y1 y2 y3 y4 y5 y6 y7 y8
   unfold ref_Placed.l1
   repeat' first
   | (with_reducible exact ih0 _ _ _ _ _ _ _)
   | (with_reducible exact ih1 _ _ _ _ _ _ _ _ _ _ _ _)
   | (with_reducible exact ih2 _ _ _ _ _ _ _ _)
   | (with_reducible exact ih3 _ _ _ _ _ _ _ _ _)
   | (with_reducible exact ref_Round.mono _ _ _)
   | (with_reducible exact LeO.refl _)
   | (with_reducible exact LeO.none _)
   | (with_reducible refine LeO.ite ?_ ?_)
   | (with_reducible refine LeO.bind ?_ (fun _ => ?_))
   | exact ih0 _ _ _ _ _ _ _
   | exact ih1 _ _ _ _ _ _ _ _ _ _ _ _
   | exact ih2 _ _ _ _ _ _ _ _
   | exact ih3 _ _ _ _ _ _ _ _ _
   | exact ref_Round.mono _ _ _
   | exact LeO.none _
   | refine LeO.ite ?_ ?_
   | refine LeO.bind ?_ (fun _ => ?_)
theorem ref_Placed.mono : ∀ a0 a1 a2 k, LeO (ref_Placed.f k a0 a1 a2) (ref_Placed.f (k + 1) a0 a1 a2) := by
 intro a0 a1 a2 k
 obtain ⟨ih0, ih1, ih2, ih3⟩ := ref_Placed.mono_l k
 unfold ref_Placed.f
 repeat' first
   | (with_reducible exact ih0 _ _ _ _ _ _ _)
   | (with_reducible exact ih1 _ _ _ _ _ _ _ _ _ _ _ _)
   | (with_reducible exact ih2 _ _ _ _ _ _ _ _)
   | (with_reducible exact ih3 _ _ _ _ _ _ _ _ _)
   | (with_reducible exact ref_Round.mono _ _ _)
   | (with_reducible exact LeO.refl _)
   | (with_reducible exact LeO.none _)
   | (with_reducible refine LeO.ite ?_ ?_)
   | (with_reducible refine LeO.bind ?_ (fun _ => ?_))
   | exact ih0 _ _ _ _ _ _ _
   | exact ih1 _ _ _ _ _ _ _ _ _ _ _ _
   | exact ih2 _ _ _ _ _ _ _ _
   | exact ih3 _ _ _ _ _ _ _ _ _
   | exact ref_Round.mono _ _ _
   | exact LeO.none _
   | refine LeO.ite ?_ ?_
   | refine LeO.bind ?_ (fun _ => ?_)
set_option maxHeartbeats 8000000 in
set_option maxRecDepth 100000 in
theorem ref_Placed.calls (k : Nat) (A0_0 : Option Addr) (c0_0 : Nat) (l0_0 : List (S60)) (A0_1 : Option Addr) (c0_1 : Nat) (l0_1 : List (S72)) (A1 : Option Addr) (c1 : Nat) (l1 : List (S62)) (r1 : List Int) (r2 : List (S58)) (r3 : Int) (r4 : Int) (w : World) (hr0_0 : Kd.C k60 w A0_0 l0_0.length l0_0) (hc0_0 : l0_0.length ≤ c0_0) (hr0_1 : Kd.C k72 w A0_1 l0_1.length l0_1) (hc0_1 : l0_1.length ≤ c0_1) (hr1 : Kd.C k62 w A1 l1.length l1) (hc1 : l1.length ≤ c1) (h : ref_Placed.f k l0_0 l0_1 l1 = some (r1, r2, r3, r4)) :
  Calls Try.prog 22 #[.agg #[.slice A0_0 l0_0.length c0_0, .slice A0_1 l0_1.length c0_1], .slice A1 l1.length c1] w fun e w' => ∃ v0_ v1_ : Value, e = .returned (.tuple #[v0_, v1_, .agg #[.int .i64 r3, .int .i64 r4]]) ∧ Kd.R (Kd.int .i64) 3 w' w.heap.size (fun _ => True) v0_ r1 ∧ Kd.R k58 58 w' w.heap.size (fun _ => True) v1_ r2 ∧ Below w.heap.size w w' := by
 have hu46 := Try.underlying46
 have hu26 := Try.underlying26
 have hu60 := Try.underlying60
 have hu58 := Try.underlying58
 have HR0_0 := Aside0.mk hr0_0
 have HC0_0 := Aside0.mk hc0_0
 clear hr0_0 hc0_0
 have HR0_1 := Aside0.mk hr0_1
 have HC0_1 := Aside0.mk hc0_1
 clear hr0_1 hc0_1
 have HR1 := Aside0.mk hr1
 have HC1 := Aside0.mk hc1
 clear hr1 hc1
 have HB := Aside0.mk (Below.refl w.heap.size w)
 have H : (if 0 ≤ (l1.length : Int) then (if ((l1.length : Int) : Int).toNat ≤ 35184372088832 then (ref_Placed.l0 k l1 (List.replicate ((l1.length : Int) : Int).toNat 0) ([] : List (S58)) 256 0 l0_0 l0_1) else (none)) else (none)) = some (r1, r2, r3, r4) := h
 clear h
 by_cases c3 : 0 ≤ (l1.length : Int)
 ·rw [if_pos c3] at H
  have c3b0 := eq_true c3
  have c3b1 : decide (0 ≤ (l1.length : Int)) = true := decide_eq_true c3
  clear c3
  by_cases c4 : ((l1.length : Int) : Int).toNat ≤ 35184372088832
  ·rw [if_pos c4] at H
   have c4b0 := eq_true c4
   have c4b1 : decide (((l1.length : Int) : Int).toNat ≤ 35184372088832) = true := decide_eq_true c4
   clear c4
   obtain ⟨y167, hy167⟩ : ∃ y_ : List Int, y_ = (List.replicate ((l1.length : Int) : Int).toNat 0) := ⟨_, rfl⟩
   replace H : (ref_Placed.l0 k l1 y167 ([] : List (S58)) 256 0 l0_0 l0_1) = some (r1, r2, r3, r4) := by first | (rw [hy167]; with_reducible exact H) | (have H2_ := (Option.bind_some _ _).symm.trans H; rw [hy167]; with_reducible exact H2_) | (have H2_ := (Option.bind_some _ _).symm.trans H; with_reducible exact H2_) | with_reducible exact H | (rw [hy167]; exact H) | exact H
   have Ny167 := Aside0.mk hy167
   clear hy167
   have H' := Aside0.mk H
   clear H
   go_enter Try.func22, Try.ntmps22
   go_wp2_with (first | ((with_reducible refine gate_dst (N := 2) rfl ?_); refine qX (N := 2) (cs := #[.slice A0_0 l0_0.length c0_0, .slice A0_1 l0_1.length c0_1]) (t := 46) ?_; intro gb165 hg w5 hbox hb; have n0_ := Aside0.mk (below_step qB hb); have n1_ := Aside0.mk (hbox); have n2_ := Aside0.mk ((qG hg : w.heap.size ≤ gb165)); have n3_ := Aside0.mk ((qG hg : w.heap.size ≤ gb165)); clear HB; have HB := n0_; have BK165 := n1_; have GW165 := n2_; have GE165 := n3_; clear n0_ n1_ n2_ n3_; clear hb hbox hg) | ((with_reducible refine gate_dst (N := 6) rfl ?_); refine qX (N := 6) (cs := #[.int .i64 0, .int .i64 0]) (t := 26) ?_; intro gb166 hg w6 hbox hb; have n0_ := Aside0.mk (blk_below (g := gb165) (o := .cells #[.slice A0_0 l0_0.length c0_0, .slice A0_1 l0_1.length c0_1] 46 (0, 0)) (qK BK165) hb); have n1_ := Aside0.mk (below_step qB hb); have n2_ := Aside0.mk (hbox); have n3_ := Aside0.mk ((qG hg : w.heap.size ≤ gb166)); have n4_ := Aside0.mk ((qG hg : w.heap.size ≤ gb166)); have n5_ := Aside0.mk ((by rw [hg]; exact Nat.ne_of_lt (blk_lt (g := gb165) (o := .cells #[.slice A0_0 l0_0.length c0_0, .slice A0_1 l0_1.length c0_1] 46 (0, 0)) (qK BK165)) : gb165 ≠ gb166)); have n6_ := Aside0.mk ((by rw [hg]; exact Nat.ne_of_gt (blk_lt (g := gb165) (o := .cells #[.slice A0_0 l0_0.length c0_0, .slice A0_1 l0_1.length c0_1] 46 (0, 0)) (qK BK165)) : gb166 ≠ gb165)); clear BK165; clear HB; have BK165 := n0_; have HB := n1_; have BK166 := n2_; have GW166 := n3_; have GE166 := n4_; have NB165_166 := n5_; have NB166_165 := n6_; clear n0_ n1_ n2_ n3_ n4_ n5_ n6_; clear hb hbox hg) | ((with_reducible refine gate_dst (N := 17) rfl ?_); refine Kd.R_make (Kd.int .i64) _ 3 rfl (N := 17) rfl 50 _ _ rfl (l1.length : Int) rfl rfl Try.underlying50 (.int .i64 0) 8 info3 rfl (by decide) (by omega) 0 (ok := fun _ => True) (okp := fun _ => True) rfl (fun _ hk => hk) trivial (of_decide_eq_true qO) (Nat.le_trans (Nat.mul_le_mul_right _ (of_decide_eq_true qO : (l1.length : Int).toNat ≤ 35184372088832)) (by omega)) (Below.refl _ _) (Nat.le_refl _) ?_; intro v168 w7 ho8 hb hg_ hnew_; clear hg_ hnew_; (first | rw [← Ny167.out] at ho8 | (simp only [Int.reduceToNat] at ho8; rw [← Ny167.out] at ho8)); have n0_ := Aside0.mk (Kd.R_lower ho8 (below_size qB)); have n1_ := Aside0.mk (blk_below (g := gb165) (o := .cells #[.slice A0_0 l0_0.length c0_0, .slice A0_1 l0_1.length c0_1] 46 (0, 0)) (qK BK165) hb); have n2_ := Aside0.mk (blk_below (g := gb166) (o := .cells #[.int .i64 0, .int .i64 0] 26 (0, 0)) (qK BK166) hb); have n3_ := Aside0.mk (below_step qB hb); clear BK165; clear BK166; clear HB; have HO169 := n0_; have BK165 := n1_; have BK166 := n2_; have HB := n3_; clear n0_ n1_ n2_ n3_; clear hb ho8))
   repeat (go_quiet (first | ((with_reducible refine gate_dst (N := 2) rfl ?_); refine qX (N := 2) (cs := #[.slice A0_0 l0_0.length c0_0, .slice A0_1 l0_1.length c0_1]) (t := 46) ?_; intro gb165 hg w5 hbox hb; have n0_ := Aside0.mk (below_step qB hb); have n1_ := Aside0.mk (hbox); have n2_ := Aside0.mk ((qG hg : w.heap.size ≤ gb165)); have n3_ := Aside0.mk ((qG hg : w.heap.size ≤ gb165)); clear HB; have HB := n0_; have BK165 := n1_; have GW165 := n2_; have GE165 := n3_; clear n0_ n1_ n2_ n3_; clear hb hbox hg) | ((with_reducible refine gate_dst (N := 6) rfl ?_); refine qX (N := 6) (cs := #[.int .i64 0, .int .i64 0]) (t := 26) ?_; intro gb166 hg w6 hbox hb; have n0_ := Aside0.mk (blk_below (g := gb165) (o := .cells #[.slice A0_0 l0_0.length c0_0, .slice A0_1 l0_1.length c0_1] 46 (0, 0)) (qK BK165) hb); have n1_ := Aside0.mk (below_step qB hb); have n2_ := Aside0.mk (hbox); have n3_ := Aside0.mk ((qG hg : w.heap.size ≤ gb166)); have n4_ := Aside0.mk ((qG hg : w.heap.size ≤ gb166)); have n5_ := Aside0.mk ((by rw [hg]; exact Nat.ne_of_lt (blk_lt (g := gb165) (o := .cells #[.slice A0_0 l0_0.length c0_0, .slice A0_1 l0_1.length c0_1] 46 (0, 0)) (qK BK165)) : gb165 ≠ gb166)); have n6_ := Aside0.mk ((by rw [hg]; exact Nat.ne_of_gt (blk_lt (g := gb165) (o := .cells #[.slice A0_0 l0_0.length c0_0, .slice A0_1 l0_1.length c0_1] 46 (0, 0)) (qK BK165)) : gb166 ≠ gb165)); clear BK165; clear HB; have BK165 := n0_; have HB := n1_; have BK166 := n2_; have GW166 := n3_; have GE166 := n4_; have NB165_166 := n5_; have NB166_165 := n6_; clear n0_ n1_ n2_ n3_ n4_ n5_ n6_; clear hb hbox hg) | ((with_reducible refine gate_dst (N := 17) rfl ?_); refine Kd.R_make (Kd.int .i64) _ 3 rfl (N := 17) rfl 50 _ _ rfl (l1.length : Int) rfl rfl Try.underlying50 (.int .i64 0) 8 info3 rfl (by decide) (by omega) 0 (ok := fun _ => True) (okp := fun _ => True) rfl (fun _ hk => hk) trivial (of_decide_eq_true qO) (Nat.le_trans (Nat.mul_le_mul_right _ (of_decide_eq_true qO : (l1.length : Int).toNat ≤ 35184372088832)) (by omega)) (Below.refl _ _) (Nat.le_refl _) ?_; intro v168 w7 ho8 hb hg_ hnew_; clear hg_ hnew_; (first | rw [← Ny167.out] at ho8 | (simp only [Int.reduceToNat] at ho8; rw [← Ny167.out] at ho8)); have n0_ := Aside0.mk (Kd.R_lower ho8 (below_size qB)); have n1_ := Aside0.mk (blk_below (g := gb165) (o := .cells #[.slice A0_0 l0_0.length c0_0, .slice A0_1 l0_1.length c0_1] 46 (0, 0)) (qK BK165) hb); have n2_ := Aside0.mk (blk_below (g := gb166) (o := .cells #[.int .i64 0, .int .i64 0] 26 (0, 0)) (qK BK166) hb); have n3_ := Aside0.mk (below_step qB hb); clear BK165; clear BK166; clear HB; have HO169 := n0_; have BK165 := n1_; have BK166 := n2_; have HB := n3_; clear n0_ n1_ n2_ n3_; clear hb ho8)); try go_wp2_with (first | ((with_reducible refine gate_dst (N := 2) rfl ?_); refine qX (N := 2) (cs := #[.slice A0_0 l0_0.length c0_0, .slice A0_1 l0_1.length c0_1]) (t := 46) ?_; intro gb165 hg w5 hbox hb; have n0_ := Aside0.mk (below_step qB hb); have n1_ := Aside0.mk (hbox); have n2_ := Aside0.mk ((qG hg : w.heap.size ≤ gb165)); have n3_ := Aside0.mk ((qG hg : w.heap.size ≤ gb165)); clear HB; have HB := n0_; have BK165 := n1_; have GW165 := n2_; have GE165 := n3_; clear n0_ n1_ n2_ n3_; clear hb hbox hg) | ((with_reducible refine gate_dst (N := 6) rfl ?_); refine qX (N := 6) (cs := #[.int .i64 0, .int .i64 0]) (t := 26) ?_; intro gb166 hg w6 hbox hb; have n0_ := Aside0.mk (blk_below (g := gb165) (o := .cells #[.slice A0_0 l0_0.length c0_0, .slice A0_1 l0_1.length c0_1] 46 (0, 0)) (qK BK165) hb); have n1_ := Aside0.mk (below_step qB hb); have n2_ := Aside0.mk (hbox); have n3_ := Aside0.mk ((qG hg : w.heap.size ≤ gb166)); have n4_ := Aside0.mk ((qG hg : w.heap.size ≤ gb166)); have n5_ := Aside0.mk ((by rw [hg]; exact Nat.ne_of_lt (blk_lt (g := gb165) (o := .cells #[.slice A0_0 l0_0.length c0_0, .slice A0_1 l0_1.length c0_1] 46 (0, 0)) (qK BK165)) : gb165 ≠ gb166)); have n6_ := Aside0.mk ((by rw [hg]; exact Nat.ne_of_gt (blk_lt (g := gb165) (o := .cells #[.slice A0_0 l0_0.length c0_0, .slice A0_1 l0_1.length c0_1] 46 (0, 0)) (qK BK165)) : gb166 ≠ gb165)); clear BK165; clear HB; have BK165 := n0_; have HB := n1_; have BK166 := n2_; have GW166 := n3_; have GE166 := n4_; have NB165_166 := n5_; have NB166_165 := n6_; clear n0_ n1_ n2_ n3_ n4_ n5_ n6_; clear hb hbox hg) | ((with_reducible refine gate_dst (N := 17) rfl ?_); refine Kd.R_make (Kd.int .i64) _ 3 rfl (N := 17) rfl 50 _ _ rfl (l1.length : Int) rfl rfl Try.underlying50 (.int .i64 0) 8 info3 rfl (by decide) (by omega) 0 (ok := fun _ => True) (okp := fun _ => True) rfl (fun _ hk => hk) trivial (of_decide_eq_true qO) (Nat.le_trans (Nat.mul_le_mul_right _ (of_decide_eq_true qO : (l1.length : Int).toNat ≤ 35184372088832)) (by omega)) (Below.refl _ _) (Nat.le_refl _) ?_; intro v168 w7 ho8 hb hg_ hnew_; clear hg_ hnew_; (first | rw [← Ny167.out] at ho8 | (simp only [Int.reduceToNat] at ho8; rw [← Ny167.out] at ho8)); have n0_ := Aside0.mk (Kd.R_lower ho8 (below_size qB)); have n1_ := Aside0.mk (blk_below (g := gb165) (o := .cells #[.slice A0_0 l0_0.length c0_0, .slice A0_1 l0_1.length c0_1] 46 (0, 0)) (qK BK165) hb); have n2_ := Aside0.mk (blk_below (g := gb166) (o := .cells #[.int .i64 0, .int .i64 0] 26 (0, 0)) (qK BK166) hb); have n3_ := Aside0.mk (below_step qB hb); clear BK165; clear BK166; clear HB; have HO169 := n0_; have BK165 := n1_; have BK166 := n2_; have HB := n3_; clear n0_ n1_ n2_ n3_; clear hb ho8)))
   go_loopg [8, 9, 10] k (fun kq v8 v9 v10 w' => ∃ (x7_1 : List Int) (x8_1 : List (S58)) (x9_1 : Int) (x10_1 : Int) (x167000_1 : Int) (x167001_1 : Int), v9 = .int .i64 x9_1 ∧ v10 = .int .i64 x10_1 ∧ Aside0 (ref_Placed.l0 kq l1 x7_1 x8_1 x9_1 x10_1 l0_0 l0_1 = some (r1, r2, r3, r4)) ∧ Aside0 (kq ≤ k) ∧ Aside0 (Kd.R (Kd.int .i64) 3 w' w.heap.size (fun _ => True) v168 x7_1) ∧ Aside0 (Kd.R k58 58 w' w.heap.size (fun _ => True) v8 x8_1) ∧ Aside0 (w'.heap[gb165]? = some (.cells #[(.slice A0_0 l0_0.length c0_0), (.slice A0_1 l0_1.length c0_1)] 46 (0, 0))) ∧ Aside0 (w'.heap[gb166]? = some (.cells #[.int .i64 x167000_1, .int .i64 x167001_1] 26 (0, 0))) ∧ Aside0 (Below w.heap.size w w'))
   case atStart => exact ⟨(y167), (([] : List (S58))), (256), (0), (0), (0), qF, qF, H', ⟨Nat.le_refl _⟩, ⟨qR HO169⟩, ⟨qL⟩, ⟨qK BK165⟩, ⟨qK BK166⟩, ⟨qB⟩⟩
   case round =>
    clear H'
    try clear c1
    try clear c2
    try clear p2
    try clear c3
    try clear c3b0
    try clear c3b1
    try clear c4
    try clear c4b0
    try clear c4b1
    obtain ⟨x7_1, x8_1, x9_1, x10_1, x167000_1, x167001_1, rfl, rfl, HA, HK1, HO_7, HO_8, BK165, BK166, HB⟩ := hrel
    cases gk with
    | zero => exact absurd HA.out (by simp [ref_Placed.l0])
    | succ k1 =>
     have H := HA.out
     clear HA
     simp only [ref_Placed.l0] at H
     by_cases c9 : x10_1 < (l0_0.length : Int)
     ·rw [if_pos c9] at H
      have c9b0 : decide (x10_1 < (l0_0.length : Int)) = true := decide_eq_true c9
      clear c9
      by_cases c10 : 0 ≤ x10_1
      ·rw [if_pos c10] at H
       have c10b0 : decide (0 ≤ x10_1) = true := decide_eq_true c10
       clear c10
       have HC11 := Aside0.mk H
       clear H
       have hnb12 := NB165_166.out
       have hnc12 := NB166_165.out
       have hcz13_0 : wr.cell? ⟨gb165, 0, none⟩ = some (.slice A0_0 l0_0.length c0_0) := (blk_cell BK165.out 0).trans rfl
       have hcz13_1 : wr.cell? ⟨gb165, 1, none⟩ = some (.slice A0_1 l0_1.length c0_1) := (blk_cell BK165.out 1).trans rfl
       have hfz13_0 := blk_frozen BK165.out 0
       have hfz13_1 := blk_frozen BK165.out 1
       have p170 : 0 ≤ (x10_1 : Int) := of_decide_eq_true qO
       have q170 : x10_1 < (l0_0.length : Int) := of_decide_eq_true qO
       obtain ⟨ad170, e170, hx170_0, hx170_1, hx170_2, hx170_3⟩ := at_T60 HR0_0.out x10_1 p170 q170
       cases e170
       replace hx170_0 := (HB.out.cell (World.block_lt_of_cell? w _ hx170_0)).trans hx170_0
       replace hx170_1 := (HB.out.cell (World.block_lt_of_cell? w _ hx170_1)).trans hx170_1
       replace hx170_2 := (HB.out.cell (World.block_lt_of_cell? w _ hx170_2)).trans hx170_2
       replace hx170_3 := (HB.out.cell (World.block_lt_of_cell? w _ hx170_3)).trans hx170_3
       replace p170 := eq_true p170
       replace q170 := eq_true q170
       go_upto_if 33 with (first | ((with_reducible refine gate_dst (N := 11) rfl ?_); refine qX (N := 11) (cs := #[.string (⟨#[]⟩ : ByteArray), .int .i64 0, .int .i64 0, .int .i64 0]) (t := 60) ?_; intro gb171 hg w14 hbox hb; have n0_ := Aside0.mk (Kd.R_below (qR HO_7) hb); have n1_ := Aside0.mk (Kd.R_below (qR HO_8) hb); have n2_ := Aside0.mk (blk_below (g := gb165) (o := .cells #[.slice (some ad170) l0_0.length c0_0, .slice A0_1 l0_1.length c0_1] 46 (0, 0)) (qK BK165) hb); have n3_ := Aside0.mk (blk_below (g := gb166) (o := .cells #[.int .i64 x167000_1, .int .i64 x167001_1] 26 (0, 0)) (qK BK166) hb); have n4_ := Aside0.mk (below_step qB hb); have n5_ := Aside0.mk (hbox); have n6_ := Aside0.mk ((qG hg : w.heap.size ≤ gb171)); have n7_ := Aside0.mk ((qG hg : w.heap.size ≤ gb171)); have n8_ := Aside0.mk ((by rw [hg]; exact Nat.ne_of_lt (blk_lt (g := gb165) (o := .cells #[.slice (some ad170) l0_0.length c0_0, .slice A0_1 l0_1.length c0_1] 46 (0, 0)) (qK BK165)) : gb165 ≠ gb171)); have n9_ := Aside0.mk ((by rw [hg]; exact Nat.ne_of_gt (blk_lt (g := gb165) (o := .cells #[.slice (some ad170) l0_0.length c0_0, .slice A0_1 l0_1.length c0_1] 46 (0, 0)) (qK BK165)) : gb171 ≠ gb165)); have n10_ := Aside0.mk ((by rw [hg]; exact Nat.ne_of_lt (blk_lt (g := gb166) (o := .cells #[.int .i64 x167000_1, .int .i64 x167001_1] 26 (0, 0)) (qK BK166)) : gb166 ≠ gb171)); have n11_ := Aside0.mk ((by rw [hg]; exact Nat.ne_of_gt (blk_lt (g := gb166) (o := .cells #[.int .i64 x167000_1, .int .i64 x167001_1] 26 (0, 0)) (qK BK166)) : gb171 ≠ gb166)); clear HO_7; clear HO_8; clear BK165; clear BK166; clear HB; have HO_7 := n0_; have HO_8 := n1_; have BK165 := n2_; have BK166 := n3_; have HB := n4_; have BK171 := n5_; have GW171 := n6_; have GE171 := n7_; have NB165_171 := n8_; have NB171_165 := n9_; have NB166_171 := n10_; have NB171_166 := n11_; clear n0_ n1_ n2_ n3_ n4_ n5_ n6_ n7_ n8_ n9_ n10_ n11_; clear hb hbox hg; have hnb15 := NB171_165.out; have hnc15 := NB165_171.out; have hnb16 := NB171_166.out; have hnc16 := NB166_171.out; have hcz17_0 : w14.cell? ⟨gb171, 0, none⟩ = some (.string (⟨#[]⟩ : ByteArray)) := (blk_cell BK171.out 0).trans rfl; have hcz17_1 : w14.cell? ⟨gb171, 1, none⟩ = some (.int .i64 0) := (blk_cell BK171.out 1).trans rfl; have hcz17_2 : w14.cell? ⟨gb171, 2, none⟩ = some (.int .i64 0) := (blk_cell BK171.out 2).trans rfl; have hcz17_3 : w14.cell? ⟨gb171, 3, none⟩ = some (.int .i64 0) := (blk_cell BK171.out 3).trans rfl; have hfz17_0 := blk_frozen BK171.out 0; have hfz17_1 := blk_frozen BK171.out 1; have hfz17_2 := blk_frozen BK171.out 2; have hfz17_3 := blk_frozen BK171.out 3))
       repeat (go_quiet (first | ((with_reducible refine gate_dst (N := 11) rfl ?_); refine qX (N := 11) (cs := #[.string (⟨#[]⟩ : ByteArray), .int .i64 0, .int .i64 0, .int .i64 0]) (t := 60) ?_; intro gb171 hg w14 hbox hb; have n0_ := Aside0.mk (Kd.R_below (qR HO_7) hb); have n1_ := Aside0.mk (Kd.R_below (qR HO_8) hb); have n2_ := Aside0.mk (blk_below (g := gb165) (o := .cells #[.slice (some ad170) l0_0.length c0_0, .slice A0_1 l0_1.length c0_1] 46 (0, 0)) (qK BK165) hb); have n3_ := Aside0.mk (blk_below (g := gb166) (o := .cells #[.int .i64 x167000_1, .int .i64 x167001_1] 26 (0, 0)) (qK BK166) hb); have n4_ := Aside0.mk (below_step qB hb); have n5_ := Aside0.mk (hbox); have n6_ := Aside0.mk ((qG hg : w.heap.size ≤ gb171)); have n7_ := Aside0.mk ((qG hg : w.heap.size ≤ gb171)); have n8_ := Aside0.mk ((by rw [hg]; exact Nat.ne_of_lt (blk_lt (g := gb165) (o := .cells #[.slice (some ad170) l0_0.length c0_0, .slice A0_1 l0_1.length c0_1] 46 (0, 0)) (qK BK165)) : gb165 ≠ gb171)); have n9_ := Aside0.mk ((by rw [hg]; exact Nat.ne_of_gt (blk_lt (g := gb165) (o := .cells #[.slice (some ad170) l0_0.length c0_0, .slice A0_1 l0_1.length c0_1] 46 (0, 0)) (qK BK165)) : gb171 ≠ gb165)); have n10_ := Aside0.mk ((by rw [hg]; exact Nat.ne_of_lt (blk_lt (g := gb166) (o := .cells #[.int .i64 x167000_1, .int .i64 x167001_1] 26 (0, 0)) (qK BK166)) : gb166 ≠ gb171)); have n11_ := Aside0.mk ((by rw [hg]; exact Nat.ne_of_gt (blk_lt (g := gb166) (o := .cells #[.int .i64 x167000_1, .int .i64 x167001_1] 26 (0, 0)) (qK BK166)) : gb171 ≠ gb166)); clear HO_7; clear HO_8; clear BK165; clear BK166; clear HB; have HO_7 := n0_; have HO_8 := n1_; have BK165 := n2_; have BK166 := n3_; have HB := n4_; have BK171 := n5_; have GW171 := n6_; have GE171 := n7_; have NB165_171 := n8_; have NB171_165 := n9_; have NB166_171 := n10_; have NB171_166 := n11_; clear n0_ n1_ n2_ n3_ n4_ n5_ n6_ n7_ n8_ n9_ n10_ n11_; clear hb hbox hg; have hnb15 := NB171_165.out; have hnc15 := NB165_171.out; have hnb16 := NB171_166.out; have hnc16 := NB166_171.out; have hcz17_0 : w14.cell? ⟨gb171, 0, none⟩ = some (.string (⟨#[]⟩ : ByteArray)) := (blk_cell BK171.out 0).trans rfl; have hcz17_1 : w14.cell? ⟨gb171, 1, none⟩ = some (.int .i64 0) := (blk_cell BK171.out 1).trans rfl; have hcz17_2 : w14.cell? ⟨gb171, 2, none⟩ = some (.int .i64 0) := (blk_cell BK171.out 2).trans rfl; have hcz17_3 : w14.cell? ⟨gb171, 3, none⟩ = some (.int .i64 0) := (blk_cell BK171.out 3).trans rfl; have hfz17_0 := blk_frozen BK171.out 0; have hfz17_1 := blk_frozen BK171.out 1; have hfz17_2 := blk_frozen BK171.out 2; have hfz17_3 := blk_frozen BK171.out 3)); go_upto_if 33 with (first | ((with_reducible refine gate_dst (N := 11) rfl ?_); refine qX (N := 11) (cs := #[.string (⟨#[]⟩ : ByteArray), .int .i64 0, .int .i64 0, .int .i64 0]) (t := 60) ?_; intro gb171 hg w14 hbox hb; have n0_ := Aside0.mk (Kd.R_below (qR HO_7) hb); have n1_ := Aside0.mk (Kd.R_below (qR HO_8) hb); have n2_ := Aside0.mk (blk_below (g := gb165) (o := .cells #[.slice (some ad170) l0_0.length c0_0, .slice A0_1 l0_1.length c0_1] 46 (0, 0)) (qK BK165) hb); have n3_ := Aside0.mk (blk_below (g := gb166) (o := .cells #[.int .i64 x167000_1, .int .i64 x167001_1] 26 (0, 0)) (qK BK166) hb); have n4_ := Aside0.mk (below_step qB hb); have n5_ := Aside0.mk (hbox); have n6_ := Aside0.mk ((qG hg : w.heap.size ≤ gb171)); have n7_ := Aside0.mk ((qG hg : w.heap.size ≤ gb171)); have n8_ := Aside0.mk ((by rw [hg]; exact Nat.ne_of_lt (blk_lt (g := gb165) (o := .cells #[.slice (some ad170) l0_0.length c0_0, .slice A0_1 l0_1.length c0_1] 46 (0, 0)) (qK BK165)) : gb165 ≠ gb171)); have n9_ := Aside0.mk ((by rw [hg]; exact Nat.ne_of_gt (blk_lt (g := gb165) (o := .cells #[.slice (some ad170) l0_0.length c0_0, .slice A0_1 l0_1.length c0_1] 46 (0, 0)) (qK BK165)) : gb171 ≠ gb165)); have n10_ := Aside0.mk ((by rw [hg]; exact Nat.ne_of_lt (blk_lt (g := gb166) (o := .cells #[.int .i64 x167000_1, .int .i64 x167001_1] 26 (0, 0)) (qK BK166)) : gb166 ≠ gb171)); have n11_ := Aside0.mk ((by rw [hg]; exact Nat.ne_of_gt (blk_lt (g := gb166) (o := .cells #[.int .i64 x167000_1, .int .i64 x167001_1] 26 (0, 0)) (qK BK166)) : gb171 ≠ gb166)); clear HO_7; clear HO_8; clear BK165; clear BK166; clear HB; have HO_7 := n0_; have HO_8 := n1_; have BK165 := n2_; have BK166 := n3_; have HB := n4_; have BK171 := n5_; have GW171 := n6_; have GE171 := n7_; have NB165_171 := n8_; have NB171_165 := n9_; have NB166_171 := n10_; have NB171_166 := n11_; clear n0_ n1_ n2_ n3_ n4_ n5_ n6_ n7_ n8_ n9_ n10_ n11_; clear hb hbox hg; have hnb15 := NB171_165.out; have hnc15 := NB165_171.out; have hnb16 := NB171_166.out; have hnc16 := NB166_171.out; have hcz17_0 : w14.cell? ⟨gb171, 0, none⟩ = some (.string (⟨#[]⟩ : ByteArray)) := (blk_cell BK171.out 0).trans rfl; have hcz17_1 : w14.cell? ⟨gb171, 1, none⟩ = some (.int .i64 0) := (blk_cell BK171.out 1).trans rfl; have hcz17_2 : w14.cell? ⟨gb171, 2, none⟩ = some (.int .i64 0) := (blk_cell BK171.out 2).trans rfl; have hcz17_3 : w14.cell? ⟨gb171, 3, none⟩ = some (.int .i64 0) := (blk_cell BK171.out 3).trans rfl; have hfz17_0 := blk_frozen BK171.out 0; have hfz17_1 := blk_frozen BK171.out 1; have hfz17_2 := blk_frozen BK171.out 2; have hfz17_3 := blk_frozen BK171.out 3)))
       (try simp only [Act.put, List.setIfInBounds_toArray, List.set_cons_zero, List.set_cons_succ])
       go_cut [12] (fun v12 wc => ∃ (kq : Nat) (x12_10 : Int), v12 = .int .i64 x12_10 ∧ Aside0 (ref_Placed.j1 kq l1 x7_1 x8_1 x9_1 x10_1 x12_10 l0_0 l0_1 ((rd_T60 l0_0 x10_1).f0) ((rd_T60 l0_0 x10_1).f1) ((rd_T60 l0_0 x10_1).f2) ((rd_T60 l0_0 x10_1).f3) = some (r1, r2, r3, r4)) ∧ Aside0 (kq ≤ k1) ∧ Aside0 (Kd.R (Kd.int .i64) 3 wc w.heap.size (fun _ => True) v168 x7_1) ∧ Aside0 (Kd.R k58 58 wc w.heap.size (fun _ => True) u8 x8_1) ∧ Aside0 (wc.heap[gb165]? = some (.cells #[(.slice (some ad170) l0_0.length c0_0), (.slice A0_1 l0_1.length c0_1)] 46 (0, 0))) ∧ Aside0 (wc.heap[gb166]? = some (.cells #[.int .i64 x167000_1, .int .i64 x167001_1] 26 (0, 0))) ∧ Aside0 (wc.heap[gb171]? = some (.cells #[.string ((rd_T60 l0_0 x10_1).f0), .int .i64 ((rd_T60 l0_0 x10_1).f1), .int .i64 ((rd_T60 l0_0 x10_1).f2), .int .i64 ((rd_T60 l0_0 x10_1).f3)] 60 (0, 0))) ∧ Aside0 (Below w.heap.size w wc))
       case first =>
        have H := HC11.out
        clear HC11
        by_cases c18 : ((rd_T60 l0_0 x10_1).f1) < 0
        ·rw [if_pos c18] at H
         have c18b0 : decide (((rd_T60 l0_0 x10_1).f1) < 0) = true := decide_eq_true c18
         clear c18
         (first | rw [c18b0] | (simp only [i64_w, i32_w]; rw [c18b0]) | skip)
         replace H := Option.bind_eq_some_iff.mp H
         obtain ⟨t172, A190, H⟩ := H
         replace H : ((ref_Round.f k1 t172 ((rd_T60 l0_0 x10_1).f2)).bind fun t173 => (ref_Placed.j1 k1 l1 x7_1 x8_1 x9_1 x10_1 t173 l0_0 l0_1 ((rd_T60 l0_0 x10_1).f0) ((rd_T60 l0_0 x10_1).f1) ((rd_T60 l0_0 x10_1).f2) ((rd_T60 l0_0 x10_1).f3))) = some (r1, r2, r3, r4) := H
         have A19 := Aside0.mk A190
         clear A190
         replace H := Option.bind_eq_some_iff.mp H
         obtain ⟨t173, A200, H⟩ := H
         replace H : (ref_Placed.j1 k1 l1 x7_1 x8_1 x9_1 x10_1 t173 l0_0 l0_1 ((rd_T60 l0_0 x10_1).f0) ((rd_T60 l0_0 x10_1).f1) ((rd_T60 l0_0 x10_1).f2) ((rd_T60 l0_0 x10_1).f3)) = some (r1, r2, r3, r4) := H
         have A20 := Aside0.mk A200
         clear A200
         have H' := Aside0.mk H
         clear H
         go_wp2_with (first | (go_at_call 37; (with_reducible refine (ref_Round.calls k1 x9_1 256 t172 _ A19.out).mono ?_); rintro e w' ⟨rfl, ⟨nd, rfl⟩⟩; (try exact qD); have hnb21 := NB171_165.out; have hnc21 := NB165_171.out; have hnb22 := NB171_166.out; have hnc22 := NB166_171.out; have hcz23_0 : w14.cell? ⟨gb171, 0, none⟩ = some (.string (⟨#[]⟩ : ByteArray)) := (blk_cell BK171.out 0).trans rfl; have hcz23_1 : w14.cell? ⟨gb171, 1, none⟩ = some (.int .i64 0) := (blk_cell BK171.out 1).trans rfl; have hcz23_2 : w14.cell? ⟨gb171, 2, none⟩ = some (.int .i64 0) := (blk_cell BK171.out 2).trans rfl; have hcz23_3 : w14.cell? ⟨gb171, 3, none⟩ = some (.int .i64 0) := (blk_cell BK171.out 3).trans rfl; have hfz23_0 := blk_frozen BK171.out 0; have hfz23_1 := blk_frozen BK171.out 1; have hfz23_2 := blk_frozen BK171.out 2; have hfz23_3 := blk_frozen BK171.out 3) | (go_at_call 37; (with_reducible refine (ref_Round.calls k1 t172 ((rd_T60 l0_0 x10_1).f2) t173 _ A20.out).mono ?_); rintro e w' ⟨rfl, ⟨nd, rfl⟩⟩; (try exact qD)))
         repeat (go_quiet (first | (go_at_call 37; (with_reducible refine (ref_Round.calls k1 x9_1 256 t172 _ A19.out).mono ?_); rintro e w' ⟨rfl, ⟨nd, rfl⟩⟩; (try exact qD); have hnb21 := NB171_165.out; have hnc21 := NB165_171.out; have hnb22 := NB171_166.out; have hnc22 := NB166_171.out; have hcz23_0 : w14.cell? ⟨gb171, 0, none⟩ = some (.string (⟨#[]⟩ : ByteArray)) := (blk_cell BK171.out 0).trans rfl; have hcz23_1 : w14.cell? ⟨gb171, 1, none⟩ = some (.int .i64 0) := (blk_cell BK171.out 1).trans rfl; have hcz23_2 : w14.cell? ⟨gb171, 2, none⟩ = some (.int .i64 0) := (blk_cell BK171.out 2).trans rfl; have hcz23_3 : w14.cell? ⟨gb171, 3, none⟩ = some (.int .i64 0) := (blk_cell BK171.out 3).trans rfl; have hfz23_0 := blk_frozen BK171.out 0; have hfz23_1 := blk_frozen BK171.out 1; have hfz23_2 := blk_frozen BK171.out 2; have hfz23_3 := blk_frozen BK171.out 3) | (go_at_call 37; (with_reducible refine (ref_Round.calls k1 t172 ((rd_T60 l0_0 x10_1).f2) t173 _ A20.out).mono ?_); rintro e w' ⟨rfl, ⟨nd, rfl⟩⟩; (try exact qD))); try go_wp2_with (first | (go_at_call 37; (with_reducible refine (ref_Round.calls k1 x9_1 256 t172 _ A19.out).mono ?_); rintro e w' ⟨rfl, ⟨nd, rfl⟩⟩; (try exact qD); have hnb21 := NB171_165.out; have hnc21 := NB165_171.out; have hnb22 := NB171_166.out; have hnc22 := NB166_171.out; have hcz23_0 : w14.cell? ⟨gb171, 0, none⟩ = some (.string (⟨#[]⟩ : ByteArray)) := (blk_cell BK171.out 0).trans rfl; have hcz23_1 : w14.cell? ⟨gb171, 1, none⟩ = some (.int .i64 0) := (blk_cell BK171.out 1).trans rfl; have hcz23_2 : w14.cell? ⟨gb171, 2, none⟩ = some (.int .i64 0) := (blk_cell BK171.out 2).trans rfl; have hcz23_3 : w14.cell? ⟨gb171, 3, none⟩ = some (.int .i64 0) := (blk_cell BK171.out 3).trans rfl; have hfz23_0 := blk_frozen BK171.out 0; have hfz23_1 := blk_frozen BK171.out 1; have hfz23_2 := blk_frozen BK171.out 2; have hfz23_3 := blk_frozen BK171.out 3) | (go_at_call 37; (with_reducible refine (ref_Round.calls k1 t172 ((rd_T60 l0_0 x10_1).f2) t173 _ A20.out).mono ?_); rintro e w' ⟨rfl, ⟨nd, rfl⟩⟩; (try exact qD))))
         go_meet
         case rel => exact ⟨_, (t173), qF, H', ⟨by have := HK1.out; first | omega | exact Nat.le_refl _⟩, ⟨by (with_reducible repeat (first | apply Kd.R_alloc | apply Kd.R_drewN | apply Kd.R_drew)); exact Kd.R_mono (Kd.R_far (p := ⟨gb171, 3, none⟩) (Kd.R_far (p := ⟨gb171, 2, none⟩) (Kd.R_far (p := ⟨gb171, 1, none⟩) (Kd.R_far (p := ⟨gb171, 0, none⟩) (Kd.R_types HO_7.out BK171.out (by decide)) (fun _ hk => hk.2) (.string ((rd_T60 l0_0 x10_1).f0))) (fun _ hk => hk.2) (.int .i64 ((rd_T60 l0_0 x10_1).f1))) (fun _ hk => hk.2) (.int .i64 ((rd_T60 l0_0 x10_1).f2))) (fun _ hk => hk.2) (.int .i64 ((rd_T60 l0_0 x10_1).f3))) (fun _ hk => trivial)⟩, ⟨by (with_reducible repeat (first | apply Kd.R_alloc | apply Kd.R_drewN | apply Kd.R_drew)); exact Kd.R_mono (Kd.R_far (p := ⟨gb171, 3, none⟩) (Kd.R_far (p := ⟨gb171, 2, none⟩) (Kd.R_far (p := ⟨gb171, 1, none⟩) (Kd.R_far (p := ⟨gb171, 0, none⟩) (Kd.R_types HO_8.out BK171.out (by decide)) (fun _ hk => hk.2) (.string ((rd_T60 l0_0 x10_1).f0))) (fun _ hk => hk.2) (.int .i64 ((rd_T60 l0_0 x10_1).f1))) (fun _ hk => hk.2) (.int .i64 ((rd_T60 l0_0 x10_1).f2))) (fun _ hk => hk.2) (.int .i64 ((rd_T60 l0_0 x10_1).f3))) (fun _ hk => trivial)⟩, ⟨by (with_reducible repeat (first | refine blk_drewN ?_ _ | refine blk_drew ?_ | refine blk_alloc ?_ _)); refine blk_far ?_ NB165_171.out _; (with_reducible repeat (first | refine blk_drewN ?_ _ | refine blk_drew ?_ | refine blk_alloc ?_ _)); refine blk_far ?_ NB165_171.out _; (with_reducible repeat (first | refine blk_drewN ?_ _ | refine blk_drew ?_ | refine blk_alloc ?_ _)); refine blk_far ?_ NB165_171.out _; (with_reducible repeat (first | refine blk_drewN ?_ _ | refine blk_drew ?_ | refine blk_alloc ?_ _)); refine blk_far ?_ NB165_171.out _; exact qK BK165⟩, ⟨by (with_reducible repeat (first | refine blk_drewN ?_ _ | refine blk_drew ?_ | refine blk_alloc ?_ _)); refine blk_far ?_ NB166_171.out _; (with_reducible repeat (first | refine blk_drewN ?_ _ | refine blk_drew ?_ | refine blk_alloc ?_ _)); refine blk_far ?_ NB166_171.out _; (with_reducible repeat (first | refine blk_drewN ?_ _ | refine blk_drew ?_ | refine blk_alloc ?_ _)); refine blk_far ?_ NB166_171.out _; (with_reducible repeat (first | refine blk_drewN ?_ _ | refine blk_drew ?_ | refine blk_alloc ?_ _)); refine blk_far ?_ NB166_171.out _; exact qK BK166⟩, ⟨by (with_reducible repeat (first | refine blk_drewN ?_ _ | refine blk_drew ?_ | refine blk_alloc ?_ _)); refine blk_put (cs := #[.string ((rd_T60 l0_0 x10_1).f0), .int .i64 ((rd_T60 l0_0 x10_1).f1), .int .i64 ((rd_T60 l0_0 x10_1).f2), .int .i64 0]) ?_ 3 _ rfl; (with_reducible repeat (first | refine blk_drewN ?_ _ | refine blk_drew ?_ | refine blk_alloc ?_ _)); refine blk_put (cs := #[.string ((rd_T60 l0_0 x10_1).f0), .int .i64 ((rd_T60 l0_0 x10_1).f1), .int .i64 0, .int .i64 0]) ?_ 2 _ rfl; (with_reducible repeat (first | refine blk_drewN ?_ _ | refine blk_drew ?_ | refine blk_alloc ?_ _)); refine blk_put (cs := #[.string ((rd_T60 l0_0 x10_1).f0), .int .i64 0, .int .i64 0, .int .i64 0]) ?_ 1 _ rfl; (with_reducible repeat (first | refine blk_drewN ?_ _ | refine blk_drew ?_ | refine blk_alloc ?_ _)); refine blk_put (cs := #[.string (⟨#[]⟩ : ByteArray), .int .i64 0, .int .i64 0, .int .i64 0]) ?_ 0 _ rfl; exact qK BK171⟩, ⟨qB⟩⟩
        ·rw [if_neg c18] at H
         have c18b0 : decide (((rd_T60 l0_0 x10_1).f1) < 0) = false := decide_eq_false c18
         clear c18
         (first | rw [c18b0] | (simp only [i64_w, i32_w]; rw [c18b0]) | skip)
         have H' := Aside0.mk H
         clear H
         go_wp2
         repeat (go_quiet (fail); try go_wp2)
         go_meet
         case rel => exact ⟨_, ((rd_T60 l0_0 x10_1).f1), qF, H', ⟨by have := HK1.out; first | omega | exact Nat.le_refl _⟩, ⟨by (with_reducible repeat (first | apply Kd.R_alloc | apply Kd.R_drewN | apply Kd.R_drew)); exact Kd.R_mono (Kd.R_far (p := ⟨gb171, 3, none⟩) (Kd.R_far (p := ⟨gb171, 2, none⟩) (Kd.R_far (p := ⟨gb171, 1, none⟩) (Kd.R_far (p := ⟨gb171, 0, none⟩) (Kd.R_types HO_7.out BK171.out (by decide)) (fun _ hk => hk.2) (.string ((rd_T60 l0_0 x10_1).f0))) (fun _ hk => hk.2) (.int .i64 ((rd_T60 l0_0 x10_1).f1))) (fun _ hk => hk.2) (.int .i64 ((rd_T60 l0_0 x10_1).f2))) (fun _ hk => hk.2) (.int .i64 ((rd_T60 l0_0 x10_1).f3))) (fun _ hk => trivial)⟩, ⟨by (with_reducible repeat (first | apply Kd.R_alloc | apply Kd.R_drewN | apply Kd.R_drew)); exact Kd.R_mono (Kd.R_far (p := ⟨gb171, 3, none⟩) (Kd.R_far (p := ⟨gb171, 2, none⟩) (Kd.R_far (p := ⟨gb171, 1, none⟩) (Kd.R_far (p := ⟨gb171, 0, none⟩) (Kd.R_types HO_8.out BK171.out (by decide)) (fun _ hk => hk.2) (.string ((rd_T60 l0_0 x10_1).f0))) (fun _ hk => hk.2) (.int .i64 ((rd_T60 l0_0 x10_1).f1))) (fun _ hk => hk.2) (.int .i64 ((rd_T60 l0_0 x10_1).f2))) (fun _ hk => hk.2) (.int .i64 ((rd_T60 l0_0 x10_1).f3))) (fun _ hk => trivial)⟩, ⟨by (with_reducible repeat (first | refine blk_drewN ?_ _ | refine blk_drew ?_ | refine blk_alloc ?_ _)); refine blk_far ?_ NB165_171.out _; (with_reducible repeat (first | refine blk_drewN ?_ _ | refine blk_drew ?_ | refine blk_alloc ?_ _)); refine blk_far ?_ NB165_171.out _; (with_reducible repeat (first | refine blk_drewN ?_ _ | refine blk_drew ?_ | refine blk_alloc ?_ _)); refine blk_far ?_ NB165_171.out _; (with_reducible repeat (first | refine blk_drewN ?_ _ | refine blk_drew ?_ | refine blk_alloc ?_ _)); refine blk_far ?_ NB165_171.out _; exact qK BK165⟩, ⟨by (with_reducible repeat (first | refine blk_drewN ?_ _ | refine blk_drew ?_ | refine blk_alloc ?_ _)); refine blk_far ?_ NB166_171.out _; (with_reducible repeat (first | refine blk_drewN ?_ _ | refine blk_drew ?_ | refine blk_alloc ?_ _)); refine blk_far ?_ NB166_171.out _; (with_reducible repeat (first | refine blk_drewN ?_ _ | refine blk_drew ?_ | refine blk_alloc ?_ _)); refine blk_far ?_ NB166_171.out _; (with_reducible repeat (first | refine blk_drewN ?_ _ | refine blk_drew ?_ | refine blk_alloc ?_ _)); refine blk_far ?_ NB166_171.out _; exact qK BK166⟩, ⟨by (with_reducible repeat (first | refine blk_drewN ?_ _ | refine blk_drew ?_ | refine blk_alloc ?_ _)); refine blk_put (cs := #[.string ((rd_T60 l0_0 x10_1).f0), .int .i64 ((rd_T60 l0_0 x10_1).f1), .int .i64 ((rd_T60 l0_0 x10_1).f2), .int .i64 0]) ?_ 3 _ rfl; (with_reducible repeat (first | refine blk_drewN ?_ _ | refine blk_drew ?_ | refine blk_alloc ?_ _)); refine blk_put (cs := #[.string ((rd_T60 l0_0 x10_1).f0), .int .i64 ((rd_T60 l0_0 x10_1).f1), .int .i64 0, .int .i64 0]) ?_ 2 _ rfl; (with_reducible repeat (first | refine blk_drewN ?_ _ | refine blk_drew ?_ | refine blk_alloc ?_ _)); refine blk_put (cs := #[.string ((rd_T60 l0_0 x10_1).f0), .int .i64 0, .int .i64 0, .int .i64 0]) ?_ 1 _ rfl; (with_reducible repeat (first | refine blk_drewN ?_ _ | refine blk_drew ?_ | refine blk_alloc ?_ _)); refine blk_put (cs := #[.string (⟨#[]⟩ : ByteArray), .int .i64 0, .int .i64 0, .int .i64 0]) ?_ 0 _ rfl; exact qK BK171⟩, ⟨qB⟩⟩
       case rest =>
        clear HC11
        try clear c1
        try clear p1
        try clear q1
        try clear hx1
        try clear c2
        try clear p2
        try clear c3
        try clear c3b0
        try clear c3b1
        try clear c4
        try clear c4b0
        try clear c4b1
        try clear c9
        try clear c9b0
        try clear c10
        try clear c10b0
        try clear c12
        try clear c15
        try clear c16
        try clear p17
        try clear q17
        try clear hx17
        try clear c18
        try clear c18b0
        try clear c21
        try clear c22
        try clear hcz13_0
        try clear hcz13_1
        try clear hcz17_0
        try clear hcz17_1
        try clear hcz17_2
        try clear hcz17_3
        try clear hcz23_0
        try clear hcz23_1
        try clear hcz23_2
        try clear hcz23_3
        try clear hfz13_0
        try clear hfz13_1
        try clear hfz17_0
        try clear hfz17_1
        try clear hfz17_2
        try clear hfz17_3
        try clear hfz23_0
        try clear hfz23_1
        try clear hfz23_2
        try clear hfz23_3
        try clear hx170_0
        try clear hx170_1
        try clear hx170_2
        try clear hx170_3
        try clear p170
        try clear p2
        try clear q170
        obtain ⟨kq, x12_10, rfl, HA, HJ10, HO_7, HO_8, BK165, BK166, BK171, HB⟩ := hcut
        cases kq with
        | zero => exact absurd HA.out (by simp [ref_Placed.j1])
        | succ kj10 =>
         have H := HA.out
         clear HA
         simp only [ref_Placed.j1] at H
         have HC24 := Aside0.mk H
         clear H
         go_upto_region 11 with (fail)
         repeat (go_quiet (fail); go_upto_region 11 with (fail))
         go_cut [48] (fun v48 wc => ∃ (kq : Nat) (x48_23 : Bool), v48 = .bool x48_23 ∧ Aside0 (ref_Placed.j2 kq l1 x7_1 x8_1 x10_1 x12_10 x48_23 l0_0 l0_1 = some (r1, r2, r3, r4)) ∧ Aside0 (kq ≤ kj10) ∧ Aside0 (Kd.R (Kd.int .i64) 3 wc w.heap.size (fun _ => True) v168 x7_1) ∧ Aside0 (Kd.R k58 58 wc w.heap.size (fun _ => True) u8 x8_1) ∧ Aside0 (wc.heap[gb165]? = some (.cells #[(.slice (some ad170) l0_0.length c0_0), (.slice A0_1 l0_1.length c0_1)] 46 (0, 0))) ∧ Aside0 (wc.heap[gb166]? = some (.cells #[.int .i64 x167000_1, .int .i64 x167001_1] 26 (0, 0))) ∧ Aside0 (wc.heap[gb171]? = some (.cells #[.string ((rd_T60 l0_0 x10_1).f0), .int .i64 ((rd_T60 l0_0 x10_1).f1), .int .i64 ((rd_T60 l0_0 x10_1).f2), .int .i64 ((rd_T60 l0_0 x10_1).f3)] 60 (0, 0))) ∧ Aside0 (Below w.heap.size w wc))
         case first =>
          have H := HC24.out
          clear HC24
          by_cases c25 : x12_10 < x9_1
          ·rw [if_pos c25] at H
           have c25b0 : decide (x12_10 < x9_1) = true := decide_eq_true c25
           clear c25
           (first | rw [c25b0] | (simp only [i64_w, i32_w]; rw [c25b0]) | skip)
           have H' := Aside0.mk H
           clear H
           go_wp2
           repeat (go_quiet (fail); try go_wp2)
           go_meet
           case rel => exact ⟨_, (true), qF, H', ⟨by have := HK1.out; have := HJ10.out; first | omega | exact Nat.le_refl _⟩, ⟨qR HO_7⟩, ⟨qR HO_8⟩, ⟨qK BK165⟩, ⟨qK BK166⟩, ⟨qK BK171⟩, ⟨qB⟩⟩
          ·rw [if_neg c25] at H
           have c25b0 : decide (x12_10 < x9_1) = false := decide_eq_false c25
           clear c25
           (first | rw [c25b0] | (simp only [i64_w, i32_w]; rw [c25b0]) | skip)
           by_cases c26 : ((rd_T60 l0_0 x10_1).f2) = 0
           ·rw [if_pos c26] at H
            exact absurd H (by simp)
           ·rw [if_neg c26] at H
            have c26b0 : (((rd_T60 l0_0 x10_1).f2) == 0) = false := beq_eq_false_iff_ne.mpr c26
            have c26b1 : (((rd_T60 l0_0 x10_1).f2) != 0) = true := bne_iff_ne.mpr c26
            have H' := Aside0.mk H
            clear H
            have hnb27 := NB171_165.out
            have hnc27 := NB165_171.out
            have hnb28 := NB171_166.out
            have hnc28 := NB166_171.out
            have hcz29_0 : wc.cell? ⟨gb171, 0, none⟩ = some (.string ((rd_T60 l0_0 x10_1).f0)) := (blk_cell BK171.out 0).trans rfl
            have hcz29_1 : wc.cell? ⟨gb171, 1, none⟩ = some (.int .i64 ((rd_T60 l0_0 x10_1).f1)) := (blk_cell BK171.out 1).trans rfl
            have hcz29_2 : wc.cell? ⟨gb171, 2, none⟩ = some (.int .i64 ((rd_T60 l0_0 x10_1).f2)) := (blk_cell BK171.out 2).trans rfl
            have hcz29_3 : wc.cell? ⟨gb171, 3, none⟩ = some (.int .i64 ((rd_T60 l0_0 x10_1).f3)) := (blk_cell BK171.out 3).trans rfl
            have hfz29_0 := blk_frozen BK171.out 0
            have hfz29_1 := blk_frozen BK171.out 1
            have hfz29_2 := blk_frozen BK171.out 2
            have hfz29_3 := blk_frozen BK171.out 3
            go_wp2
            repeat (go_quiet (fail); try go_wp2)
            go_meet
            case rel => exact ⟨_, (((Int.tmod x12_10 ((rd_T60 l0_0 x10_1).f2)) != 0)), qF, H', ⟨by have := HK1.out; have := HJ10.out; first | omega | exact Nat.le_refl _⟩, ⟨qR HO_7⟩, ⟨qR HO_8⟩, ⟨qK BK165⟩, ⟨qK BK166⟩, ⟨qK BK171⟩, ⟨qB⟩⟩
         case rest =>
          clear HC24
          try clear c1
          try clear p1
          try clear q1
          try clear hx1
          try clear c2
          try clear p2
          try clear c3
          try clear c3b0
          try clear c3b1
          try clear c4
          try clear c4b0
          try clear c4b1
          try clear c9
          try clear c9b0
          try clear c10
          try clear c10b0
          try clear c12
          try clear c15
          try clear c16
          try clear p17
          try clear q17
          try clear hx17
          try clear c18
          try clear c18b0
          try clear c21
          try clear c22
          try clear c25
          try clear c25b0
          try clear c26
          try clear c26b0
          try clear c26b1
          try clear c27
          try clear c28
          try clear hcz13_0
          try clear hcz13_1
          try clear hcz17_0
          try clear hcz17_1
          try clear hcz17_2
          try clear hcz17_3
          try clear hcz23_0
          try clear hcz23_1
          try clear hcz23_2
          try clear hcz23_3
          try clear hcz29_0
          try clear hcz29_1
          try clear hcz29_2
          try clear hcz29_3
          try clear hfz13_0
          try clear hfz13_1
          try clear hfz17_0
          try clear hfz17_1
          try clear hfz17_2
          try clear hfz17_3
          try clear hfz23_0
          try clear hfz23_1
          try clear hfz23_2
          try clear hfz23_3
          try clear hfz29_0
          try clear hfz29_1
          try clear hfz29_2
          try clear hfz29_3
          try clear hx170_0
          try clear hx170_1
          try clear hx170_2
          try clear hx170_3
          try clear p1
          try clear p17
          try clear p170
          try clear p2
          try clear q1
          try clear q17
          try clear q170
          obtain ⟨kq, x48_23, rfl, HA, HJ23, HO_7, HO_8, BK165, BK166, BK171, HB⟩ := hcut
          cases kq with
          | zero => exact absurd HA.out (by simp [ref_Placed.j2])
          | succ kj23 =>
           have H := HA.out
           clear HA
           simp only [ref_Placed.j2] at H
           by_cases c30 : x48_23 = true
           ·subst c30
            have H1 : ((ref_At.f 13 x10_1).bind fun bt174 => (some (([] : List Int), ([] : List (S58)), bt174.1, bt174.2))) = some (r1, r2, r3, r4) := by rw [if_pos rfl] at H; exact H
            clear H
            have H := H1
            clear H1
            replace H := Option.bind_eq_some_iff.mp H
            obtain ⟨⟨t174, t175⟩, A310, H⟩ := H
            replace H : (some (([] : List Int), ([] : List (S58)), t174, t175)) = some (r1, r2, r3, r4) := H
            have A31 := Aside0.mk A310
            clear A310
            simp only [Option.some.injEq, Prod.mk.injEq] at H
            obtain ⟨rfl, rfl, rfl, rfl⟩ := H
            go_wp2_with (first | (go_at_call 14; (with_reducible refine (ref_At.calls 13 x10_1 t174 t175 _ A31.out).mono ?_); rintro e w32 ⟨rfl, hb⟩; have n0_ := Aside0.mk (Kd.R_below (qR HO_7) hb); have n1_ := Aside0.mk (Kd.R_below (qR HO_8) hb); have n2_ := Aside0.mk (blk_below (g := gb165) (o := .cells #[.slice (some ad170) l0_0.length c0_0, .slice A0_1 l0_1.length c0_1] 46 (0, 0)) (qK BK165) hb); have n3_ := Aside0.mk (blk_below (g := gb166) (o := .cells #[.int .i64 x167000_1, .int .i64 x167001_1] 26 (0, 0)) (qK BK166) hb); have n4_ := Aside0.mk (blk_below (g := gb171) (o := .cells #[.string ((rd_T60 l0_0 x10_1).f0), .int .i64 ((rd_T60 l0_0 x10_1).f1), .int .i64 ((rd_T60 l0_0 x10_1).f2), .int .i64 ((rd_T60 l0_0 x10_1).f3)] 60 (0, 0)) (qK BK171) hb); have n5_ := Aside0.mk (below_step qB hb); clear HO_7; clear HO_8; clear BK165; clear BK166; clear BK171; clear HB; have HO_7 := n0_; have HO_8 := n1_; have BK165 := n2_; have BK166 := n3_; have BK171 := n4_; have HB := n5_; clear n0_ n1_ n2_ n3_ n4_ n5_; (try clear hb); (try clear hb2); (try clear hk); (try clear hi); have hnb33 := NB166_165.out; have hnc33 := NB165_166.out; have hnb34 := NB166_171.out; have hnc34 := NB171_166.out; have hcz35_0 : w32.cell? ⟨gb166, 0, none⟩ = some (.int .i64 x167000_1) := (blk_cell BK166.out 0).trans rfl; have hcz35_1 : w32.cell? ⟨gb166, 1, none⟩ = some (.int .i64 x167001_1) := (blk_cell BK166.out 1).trans rfl; have hfz35_0 := blk_frozen BK166.out 0; have hfz35_1 := blk_frozen BK166.out 1))
            repeat (go_quiet (first | (go_at_call 14; (with_reducible refine (ref_At.calls 13 x10_1 t174 t175 _ A31.out).mono ?_); rintro e w32 ⟨rfl, hb⟩; have n0_ := Aside0.mk (Kd.R_below (qR HO_7) hb); have n1_ := Aside0.mk (Kd.R_below (qR HO_8) hb); have n2_ := Aside0.mk (blk_below (g := gb165) (o := .cells #[.slice (some ad170) l0_0.length c0_0, .slice A0_1 l0_1.length c0_1] 46 (0, 0)) (qK BK165) hb); have n3_ := Aside0.mk (blk_below (g := gb166) (o := .cells #[.int .i64 x167000_1, .int .i64 x167001_1] 26 (0, 0)) (qK BK166) hb); have n4_ := Aside0.mk (blk_below (g := gb171) (o := .cells #[.string ((rd_T60 l0_0 x10_1).f0), .int .i64 ((rd_T60 l0_0 x10_1).f1), .int .i64 ((rd_T60 l0_0 x10_1).f2), .int .i64 ((rd_T60 l0_0 x10_1).f3)] 60 (0, 0)) (qK BK171) hb); have n5_ := Aside0.mk (below_step qB hb); clear HO_7; clear HO_8; clear BK165; clear BK166; clear BK171; clear HB; have HO_7 := n0_; have HO_8 := n1_; have BK165 := n2_; have BK166 := n3_; have BK171 := n4_; have HB := n5_; clear n0_ n1_ n2_ n3_ n4_ n5_; (try clear hb); (try clear hb2); (try clear hk); (try clear hi); have hnb33 := NB166_165.out; have hnc33 := NB165_166.out; have hnb34 := NB166_171.out; have hnc34 := NB171_166.out; have hcz35_0 : w32.cell? ⟨gb166, 0, none⟩ = some (.int .i64 x167000_1) := (blk_cell BK166.out 0).trans rfl; have hcz35_1 : w32.cell? ⟨gb166, 1, none⟩ = some (.int .i64 x167001_1) := (blk_cell BK166.out 1).trans rfl; have hfz35_0 := blk_frozen BK166.out 0; have hfz35_1 := blk_frozen BK166.out 1)); try go_wp2_with (first | (go_at_call 14; (with_reducible refine (ref_At.calls 13 x10_1 t174 t175 _ A31.out).mono ?_); rintro e w32 ⟨rfl, hb⟩; have n0_ := Aside0.mk (Kd.R_below (qR HO_7) hb); have n1_ := Aside0.mk (Kd.R_below (qR HO_8) hb); have n2_ := Aside0.mk (blk_below (g := gb165) (o := .cells #[.slice (some ad170) l0_0.length c0_0, .slice A0_1 l0_1.length c0_1] 46 (0, 0)) (qK BK165) hb); have n3_ := Aside0.mk (blk_below (g := gb166) (o := .cells #[.int .i64 x167000_1, .int .i64 x167001_1] 26 (0, 0)) (qK BK166) hb); have n4_ := Aside0.mk (blk_below (g := gb171) (o := .cells #[.string ((rd_T60 l0_0 x10_1).f0), .int .i64 ((rd_T60 l0_0 x10_1).f1), .int .i64 ((rd_T60 l0_0 x10_1).f2), .int .i64 ((rd_T60 l0_0 x10_1).f3)] 60 (0, 0)) (qK BK171) hb); have n5_ := Aside0.mk (below_step qB hb); clear HO_7; clear HO_8; clear BK165; clear BK166; clear BK171; clear HB; have HO_7 := n0_; have HO_8 := n1_; have BK165 := n2_; have BK166 := n3_; have BK171 := n4_; have HB := n5_; clear n0_ n1_ n2_ n3_ n4_ n5_; (try clear hb); (try clear hb2); (try clear hk); (try clear hi); have hnb33 := NB166_165.out; have hnc33 := NB165_166.out; have hnb34 := NB166_171.out; have hnc34 := NB171_166.out; have hcz35_0 : w32.cell? ⟨gb166, 0, none⟩ = some (.int .i64 x167000_1) := (blk_cell BK166.out 0).trans rfl; have hcz35_1 : w32.cell? ⟨gb166, 1, none⟩ = some (.int .i64 x167001_1) := (blk_cell BK166.out 1).trans rfl; have hfz35_0 := blk_frozen BK166.out 0; have hfz35_1 := blk_frozen BK166.out 1)))
            refine bodyPost_ret (results_list (rs := [.tmp 4, .tmp 5, .cell 6 26]) rfl (by simp) (.tmp (.tmp (.cell gb166 26 #[.int .i64 t174, .int .i64 t175] (0, 0) _ rfl (by (with_reducible repeat (first | refine blk_drewN ?_ _ | refine blk_drew ?_ | refine blk_alloc ?_ _)); refine blk_put (cs := #[.int .i64 t174, .int .i64 x167001_1]) ?_ 1 _ rfl; (with_reducible repeat (first | refine blk_drewN ?_ _ | refine blk_drew ?_ | refine blk_alloc ?_ _)); refine blk_put (cs := #[.int .i64 x167000_1, .int .i64 x167001_1]) ?_ 0 _ rfl; exact qK BK166) Try.underlying26 rfl (by kernel_rfl) .nil)))) rfl ?_
            exact ⟨_, _, qE, qL, qL, qB⟩
           ·replace c30 := Bool.eq_false_iff.mpr c30
            subst c30
            have H1 : (ref_Placed.l1 kj23 l1 x7_1 x8_1 x10_1 x12_10 x12_10 0 l0_0 l0_1) = some (r1, r2, r3, r4) := by rw [if_neg (show ¬ (false = true) by decide)] at H; exact H
            clear H
            have H := H1
            clear H1
            have H' := Aside0.mk H
            clear H
            go_wp2
            repeat (go_quiet (fail); try go_wp2)
            go_loopg [12, 14] kj23 (fun kq v12 v14 w' => ∃ (x7_4 : List Int) (x12_4 : Int) (x14_4 : Int), v12 = .int .i64 x12_4 ∧ v14 = .int .i64 x14_4 ∧ Aside0 (ref_Placed.l1 kq l1 x7_4 x8_1 x10_1 x12_4 x12_10 x14_4 l0_0 l0_1 = some (r1, r2, r3, r4)) ∧ Aside0 (kq ≤ kj23) ∧ Aside0 (Kd.R (Kd.int .i64) 3 w' w.heap.size (fun _ => True) v168 x7_4) ∧ Aside0 (Kd.R k58 58 w' w.heap.size (fun _ => True) u8 x8_1) ∧ Aside0 (w'.heap[gb165]? = some (.cells #[(.slice (some ad170) l0_0.length c0_0), (.slice A0_1 l0_1.length c0_1)] 46 (0, 0))) ∧ Aside0 (w'.heap[gb166]? = some (.cells #[.int .i64 x167000_1, .int .i64 x167001_1] 26 (0, 0))) ∧ Aside0 (w'.heap[gb171]? = some (.cells #[.string ((rd_T60 l0_0 x10_1).f0), .int .i64 ((rd_T60 l0_0 x10_1).f1), .int .i64 ((rd_T60 l0_0 x10_1).f2), .int .i64 ((rd_T60 l0_0 x10_1).f3)] 60 (0, 0))) ∧ Aside0 (Below w.heap.size w w'))
            case atStart => exact ⟨(x7_1), (x12_10), (0), qF, qF, H', ⟨Nat.le_refl _⟩, ⟨qR HO_7⟩, ⟨qR HO_8⟩, ⟨qK BK165⟩, ⟨qK BK166⟩, ⟨qK BK171⟩, ⟨qB⟩⟩
            case round =>
             clear H'
             try clear c1
             try clear p1
             try clear q1
             try clear hx1
             try clear c2
             try clear p2
             try clear c3
             try clear c3b0
             try clear c3b1
             try clear c4
             try clear c4b0
             try clear c4b1
             try clear c9
             try clear c9b0
             try clear c10
             try clear c10b0
             try clear c12
             try clear c15
             try clear c16
             try clear p17
             try clear q17
             try clear hx17
             try clear c18
             try clear c18b0
             try clear c21
             try clear c22
             try clear c25
             try clear c25b0
             try clear c26
             try clear c26b0
             try clear c26b1
             try clear c27
             try clear c28
             try clear c30
             try clear c33
             try clear c34
             try clear hcz13_0
             try clear hcz13_1
             try clear hcz17_0
             try clear hcz17_1
             try clear hcz17_2
             try clear hcz17_3
             try clear hcz23_0
             try clear hcz23_1
             try clear hcz23_2
             try clear hcz23_3
             try clear hcz29_0
             try clear hcz29_1
             try clear hcz29_2
             try clear hcz29_3
             try clear hcz35_0
             try clear hcz35_1
             try clear hfz13_0
             try clear hfz13_1
             try clear hfz17_0
             try clear hfz17_1
             try clear hfz17_2
             try clear hfz17_3
             try clear hfz23_0
             try clear hfz23_1
             try clear hfz23_2
             try clear hfz23_3
             try clear hfz29_0
             try clear hfz29_1
             try clear hfz29_2
             try clear hfz29_3
             try clear hfz35_0
             try clear hfz35_1
             try clear hx170_0
             try clear hx170_1
             try clear hx170_2
             try clear hx170_3
             try clear p1
             try clear p17
             try clear p170
             try clear p2
             try clear q1
             try clear q17
             try clear q170
             obtain ⟨x7_4, x12_4, x14_4, rfl, rfl, HA, HK4, HO_7, HO_8, BK165, BK166, BK171, HB⟩ := hrel
             cases gk with
             | zero => exact absurd HA.out (by simp [ref_Placed.l1])
             | succ k4 =>
              have H := HA.out
              clear HA
              simp only [ref_Placed.l1] at H
              by_cases c36 : x14_4 < (l1.length : Int)
              ·rw [if_pos c36] at H
               have c36b0 : decide (x14_4 < (l1.length : Int)) = true := decide_eq_true c36
               clear c36
               by_cases c37 : 0 ≤ x14_4
               ·rw [if_pos c37] at H
                have c37b0 : decide (0 ≤ x14_4) = true := decide_eq_true c37
                clear c37
                by_cases c38 : ((rd_T62 l1 x14_4).f0) = x10_1
                ·rw [if_pos c38] at H
                 have c38b0 : (((rd_T62 l1 x14_4).f0) == x10_1) = true := beq_iff_eq.mpr c38
                 have c38b1 : (((rd_T62 l1 x14_4).f0) != x10_1) = false := bne_eq_false_iff_eq.mpr c38
                 clear c38
                 replace H := Option.bind_eq_some_iff.mp H
                 obtain ⟨t178, A390, H⟩ := H
                 replace H : (if x14_4 < (x7_4.length : Int) then (ref_Placed.l1 k4 l1 (x7_4.set (x14_4 : Int).toNat t178) x8_1 x10_1 (wrap64 (t178 + ((rd_T62 l1 x14_4).f1))) x12_10 (wrap64 (x14_4 + 1)) l0_0 l0_1) else (none)) = some (r1, r2, r3, r4) := H
                 have A39 := Aside0.mk A390
                 clear A390
                 by_cases c40 : x14_4 < (x7_4.length : Int)
                 ·rw [if_pos c40] at H
                  have c40b0 : decide (x14_4 < (x7_4.length : Int)) = true := decide_eq_true c40
                  clear c40
                  obtain ⟨y179, hy179⟩ : ∃ y_ : List Int, y_ = (x7_4.set (x14_4 : Int).toNat t178) := ⟨_, rfl⟩
                  replace H : (ref_Placed.l1 k4 l1 y179 x8_1 x10_1 (wrap64 (t178 + ((rd_T62 l1 x14_4).f1))) x12_10 (wrap64 (x14_4 + 1)) l0_0 l0_1) = some (r1, r2, r3, r4) := by first | (rw [hy179]; with_reducible exact H) | (have H2_ := (Option.bind_some _ _).symm.trans H; rw [hy179]; with_reducible exact H2_) | (have H2_ := (Option.bind_some _ _).symm.trans H; with_reducible exact H2_) | with_reducible exact H | (rw [hy179]; exact H) | exact H
                  have Ny179 := Aside0.mk hy179
                  clear hy179
                  have H' := Aside0.mk H
                  clear H
                  have p176 : 0 ≤ (x14_4 : Int) := of_decide_eq_true qO
                  have q176 : x14_4 < (l1.length : Int) := of_decide_eq_true qO
                  obtain ⟨ad176, e176, hx176_0, hx176_1, hx176_2⟩ := at_T62 HR1.out x14_4 p176 q176
                  cases e176
                  replace hx176_0 := (HB.out.cell (World.block_lt_of_cell? w _ hx176_0)).trans hx176_0
                  replace hx176_1 := (HB.out.cell (World.block_lt_of_cell? w _ hx176_1)).trans hx176_1
                  replace hx176_2 := (HB.out.cell (World.block_lt_of_cell? w _ hx176_2)).trans hx176_2
                  replace p176 := eq_true p176
                  replace q176 := eq_true q176
                  have p177 : 0 ≤ (x14_4 : Int) := of_decide_eq_true qO
                  have q177 : x14_4 < (l1.length : Int) := of_decide_eq_true qO
                  obtain ⟨ad177, e177, hx177_0, hx177_1, hx177_2⟩ := at_T62 HR1.out x14_4 p177 q177
                  obtain rfl : ad176 = ad177 := (by injection e177)
                  replace hx177_0 := (HB.out.cell (World.block_lt_of_cell? w _ hx177_0)).trans hx177_0
                  replace hx177_1 := (HB.out.cell (World.block_lt_of_cell? w _ hx177_1)).trans hx177_1
                  replace hx177_2 := (HB.out.cell (World.block_lt_of_cell? w _ hx177_2)).trans hx177_2
                  replace p177 := eq_true p177
                  replace q177 := eq_true q177
                  go_wp2_with (first | (go_at_call 37; (with_reducible refine (ref_Round.calls k4 x12_4 ((rd_T62 l1 x14_4).f2) t178 _ A39.out).mono ?_); rintro e w' ⟨rfl, ⟨nd, rfl⟩⟩; (try exact qD); have p41 : 0 ≤ (x14_4 : Int) := of_decide_eq_true qO; have q41 : (x14_4 : Int) < ((x7_4.length : Int) : Int) := of_decide_eq_true qO; obtain ⟨go41, co41, eo41, gb41, gl41, cl41, HG41⟩ := Kd.R_form HO_7.out (by omega); (first | cases eo41 | (injection eo41 with ea_ en_ ec_; (first | subst ea_ | (injection ea_ with ea_; subst ea_)); subst ec_; clear en_)); have GB41 := Aside0.mk gb41; have GG41 := Aside0.mk HG41; clear gb41 gl41 HG41; obtain ⟨hx41_0, hf41_0⟩ := Kd.R_celln 0 HO_7.out (x14_4 : Int) p41 q41; replace p41 := eq_true p41; replace q41 := eq_true q41; obtain ⟨hy42_, hz42_⟩ := Kd.R_celln 0 HO_7.out (x14_4 : Int) (of_decide_eq_true qO) (of_decide_eq_true qO); have HP42 := Kd.R_putg HO_7.out (x14_4 : Int) t178) | ((with_reducible refine gate_store (t := 3) (p := 75) rfl ?_); (try (rw [drewN_self wr]; generalize hq_ : World.drewN wr _ = wr; have n0_ := Aside0.mk (Kd.R_at hq_ HO_7.out); have n1_ := Aside0.mk (Kd.R_at hq_ HO_8.out); have n2_ := Aside0.mk (blk_at hq_ BK165.out); have n3_ := Aside0.mk (blk_at hq_ BK166.out); have n4_ := Aside0.mk (blk_at hq_ BK171.out); have n5_ := Aside0.mk (below_at hq_ HB.out); clear hq_ HO_7 HO_8 BK165 BK166 BK171 HB; have HO_7 := n0_; have HO_8 := n1_; have BK165 := n2_; have BK166 := n3_; have BK171 := n4_; have HB := n5_; clear n0_ n1_ n2_ n3_ n4_ n5_; (try (obtain ⟨hy42_, hz42_⟩ := Kd.R_celln 0 HO_7.out (x14_4 : Int) (of_decide_eq_true qO) (of_decide_eq_true qO))); (try (have HP42 := Kd.R_putg HO_7.out (x14_4 : Int) t178)))); refine store_event (t := 3) (p := 75) (v := ?vo_w43) (w1 := (wr.setCell ⟨go41, (x14_4 : Int).toNat, none⟩ (.int .i64 t178))) ?hg ?ho ?hn ?hr ?_; (case ho => rfl); (case hg => rfl); (case hn => rfl); (case hr => first | (go_simp; done) | (go_simp; rfl)); intro w43 hw; have hg : wr.grownBy w43 (some go41) := (by rw [hw]; exact HP42.2); have hp_ : Kd.R (Kd.int .i64) 3 w43 w.heap.size (fun _ => True) (.slice (some ⟨go41, 0, none⟩) x7_4.length co41) y179 := (by rw [hw, Ny179.out]; exact HP42.1); clear HP42; have n0_ := Aside0.mk (hp_); have n1_ := Aside0.mk (Kd.R_over' (v := (.slice (some ⟨go41, 0, none⟩) x7_4.length co41)) (qR HO_8) (Kd.R_typed HO_7.out) (by decide) hg); have n2_ := Aside0.mk (blk_grown (g := gb165) (o := .cells #[.slice (some ad170) l0_0.length c0_0, .slice A0_1 l0_1.length c0_1] 46 (0, 0)) (qK BK165) hg (Kd.R_ne HO_7.out BK165.out (by decide))); have n3_ := Aside0.mk (blk_grown (g := gb166) (o := .cells #[.int .i64 x167000_1, .int .i64 x167001_1] 26 (0, 0)) (qK BK166) hg (Kd.R_ne HO_7.out BK166.out (by decide))); have n4_ := Aside0.mk (blk_grown (g := gb171) (o := .cells #[.string ((rd_T60 l0_0 x10_1).f0), .int .i64 ((rd_T60 l0_0 x10_1).f1), .int .i64 ((rd_T60 l0_0 x10_1).f2), .int .i64 ((rd_T60 l0_0 x10_1).f3)] 60 (0, 0)) (qK BK171) hg (Kd.R_ne HO_7.out BK171.out (by decide))); have n5_ := Aside0.mk ((by rw [hw]; exact below_set (HB.out) GB41.out : Below w.heap.size w w43)); clear HO_7; clear HO_8; clear BK165; clear BK166; clear BK171; clear HB; have HO_7 := n0_; have HO_8 := n1_; have BK165 := n2_; have BK166 := n3_; have BK171 := n4_; have HB := n5_; clear n0_ n1_ n2_ n3_ n4_ n5_; clear hg hw hp_; have p180 : 0 ≤ (x14_4 : Int) := of_decide_eq_true qO; have q180 : x14_4 < (l1.length : Int) := of_decide_eq_true qO; obtain ⟨ad180, e180, hx180_0, hx180_1, hx180_2⟩ := at_T62 HR1.out x14_4 p180 q180; obtain rfl : ad176 = ad180 := (by injection e180); replace hx180_0 := (HB.out.cell (World.block_lt_of_cell? w _ hx180_0)).trans hx180_0; replace hx180_1 := (HB.out.cell (World.block_lt_of_cell? w _ hx180_1)).trans hx180_1; replace hx180_2 := (HB.out.cell (World.block_lt_of_cell? w _ hx180_2)).trans hx180_2; replace p180 := eq_true p180; replace q180 := eq_true q180))
                  repeat (go_quiet (first | (go_at_call 37; (with_reducible refine (ref_Round.calls k4 x12_4 ((rd_T62 l1 x14_4).f2) t178 _ A39.out).mono ?_); rintro e w' ⟨rfl, ⟨nd, rfl⟩⟩; (try exact qD); have p41 : 0 ≤ (x14_4 : Int) := of_decide_eq_true qO; have q41 : (x14_4 : Int) < ((x7_4.length : Int) : Int) := of_decide_eq_true qO; obtain ⟨go41, co41, eo41, gb41, gl41, cl41, HG41⟩ := Kd.R_form HO_7.out (by omega); (first | cases eo41 | (injection eo41 with ea_ en_ ec_; (first | subst ea_ | (injection ea_ with ea_; subst ea_)); subst ec_; clear en_)); have GB41 := Aside0.mk gb41; have GG41 := Aside0.mk HG41; clear gb41 gl41 HG41; obtain ⟨hx41_0, hf41_0⟩ := Kd.R_celln 0 HO_7.out (x14_4 : Int) p41 q41; replace p41 := eq_true p41; replace q41 := eq_true q41; obtain ⟨hy42_, hz42_⟩ := Kd.R_celln 0 HO_7.out (x14_4 : Int) (of_decide_eq_true qO) (of_decide_eq_true qO); have HP42 := Kd.R_putg HO_7.out (x14_4 : Int) t178) | ((with_reducible refine gate_store (t := 3) (p := 75) rfl ?_); (try (rw [drewN_self wr]; generalize hq_ : World.drewN wr _ = wr; have n0_ := Aside0.mk (Kd.R_at hq_ HO_7.out); have n1_ := Aside0.mk (Kd.R_at hq_ HO_8.out); have n2_ := Aside0.mk (blk_at hq_ BK165.out); have n3_ := Aside0.mk (blk_at hq_ BK166.out); have n4_ := Aside0.mk (blk_at hq_ BK171.out); have n5_ := Aside0.mk (below_at hq_ HB.out); clear hq_ HO_7 HO_8 BK165 BK166 BK171 HB; have HO_7 := n0_; have HO_8 := n1_; have BK165 := n2_; have BK166 := n3_; have BK171 := n4_; have HB := n5_; clear n0_ n1_ n2_ n3_ n4_ n5_; (try (obtain ⟨hy42_, hz42_⟩ := Kd.R_celln 0 HO_7.out (x14_4 : Int) (of_decide_eq_true qO) (of_decide_eq_true qO))); (try (have HP42 := Kd.R_putg HO_7.out (x14_4 : Int) t178)))); refine store_event (t := 3) (p := 75) (v := ?vo_w43) (w1 := (wr.setCell ⟨go41, (x14_4 : Int).toNat, none⟩ (.int .i64 t178))) ?hg ?ho ?hn ?hr ?_; (case ho => rfl); (case hg => rfl); (case hn => rfl); (case hr => first | (go_simp; done) | (go_simp; rfl)); intro w43 hw; have hg : wr.grownBy w43 (some go41) := (by rw [hw]; exact HP42.2); have hp_ : Kd.R (Kd.int .i64) 3 w43 w.heap.size (fun _ => True) (.slice (some ⟨go41, 0, none⟩) x7_4.length co41) y179 := (by rw [hw, Ny179.out]; exact HP42.1); clear HP42; have n0_ := Aside0.mk (hp_); have n1_ := Aside0.mk (Kd.R_over' (v := (.slice (some ⟨go41, 0, none⟩) x7_4.length co41)) (qR HO_8) (Kd.R_typed HO_7.out) (by decide) hg); have n2_ := Aside0.mk (blk_grown (g := gb165) (o := .cells #[.slice (some ad170) l0_0.length c0_0, .slice A0_1 l0_1.length c0_1] 46 (0, 0)) (qK BK165) hg (Kd.R_ne HO_7.out BK165.out (by decide))); have n3_ := Aside0.mk (blk_grown (g := gb166) (o := .cells #[.int .i64 x167000_1, .int .i64 x167001_1] 26 (0, 0)) (qK BK166) hg (Kd.R_ne HO_7.out BK166.out (by decide))); have n4_ := Aside0.mk (blk_grown (g := gb171) (o := .cells #[.string ((rd_T60 l0_0 x10_1).f0), .int .i64 ((rd_T60 l0_0 x10_1).f1), .int .i64 ((rd_T60 l0_0 x10_1).f2), .int .i64 ((rd_T60 l0_0 x10_1).f3)] 60 (0, 0)) (qK BK171) hg (Kd.R_ne HO_7.out BK171.out (by decide))); have n5_ := Aside0.mk ((by rw [hw]; exact below_set (HB.out) GB41.out : Below w.heap.size w w43)); clear HO_7; clear HO_8; clear BK165; clear BK166; clear BK171; clear HB; have HO_7 := n0_; have HO_8 := n1_; have BK165 := n2_; have BK166 := n3_; have BK171 := n4_; have HB := n5_; clear n0_ n1_ n2_ n3_ n4_ n5_; clear hg hw hp_; have p180 : 0 ≤ (x14_4 : Int) := of_decide_eq_true qO; have q180 : x14_4 < (l1.length : Int) := of_decide_eq_true qO; obtain ⟨ad180, e180, hx180_0, hx180_1, hx180_2⟩ := at_T62 HR1.out x14_4 p180 q180; obtain rfl : ad176 = ad180 := (by injection e180); replace hx180_0 := (HB.out.cell (World.block_lt_of_cell? w _ hx180_0)).trans hx180_0; replace hx180_1 := (HB.out.cell (World.block_lt_of_cell? w _ hx180_1)).trans hx180_1; replace hx180_2 := (HB.out.cell (World.block_lt_of_cell? w _ hx180_2)).trans hx180_2; replace p180 := eq_true p180; replace q180 := eq_true q180)); try go_wp2_with (first | (go_at_call 37; (with_reducible refine (ref_Round.calls k4 x12_4 ((rd_T62 l1 x14_4).f2) t178 _ A39.out).mono ?_); rintro e w' ⟨rfl, ⟨nd, rfl⟩⟩; (try exact qD); have p41 : 0 ≤ (x14_4 : Int) := of_decide_eq_true qO; have q41 : (x14_4 : Int) < ((x7_4.length : Int) : Int) := of_decide_eq_true qO; obtain ⟨go41, co41, eo41, gb41, gl41, cl41, HG41⟩ := Kd.R_form HO_7.out (by omega); (first | cases eo41 | (injection eo41 with ea_ en_ ec_; (first | subst ea_ | (injection ea_ with ea_; subst ea_)); subst ec_; clear en_)); have GB41 := Aside0.mk gb41; have GG41 := Aside0.mk HG41; clear gb41 gl41 HG41; obtain ⟨hx41_0, hf41_0⟩ := Kd.R_celln 0 HO_7.out (x14_4 : Int) p41 q41; replace p41 := eq_true p41; replace q41 := eq_true q41; obtain ⟨hy42_, hz42_⟩ := Kd.R_celln 0 HO_7.out (x14_4 : Int) (of_decide_eq_true qO) (of_decide_eq_true qO); have HP42 := Kd.R_putg HO_7.out (x14_4 : Int) t178) | ((with_reducible refine gate_store (t := 3) (p := 75) rfl ?_); (try (rw [drewN_self wr]; generalize hq_ : World.drewN wr _ = wr; have n0_ := Aside0.mk (Kd.R_at hq_ HO_7.out); have n1_ := Aside0.mk (Kd.R_at hq_ HO_8.out); have n2_ := Aside0.mk (blk_at hq_ BK165.out); have n3_ := Aside0.mk (blk_at hq_ BK166.out); have n4_ := Aside0.mk (blk_at hq_ BK171.out); have n5_ := Aside0.mk (below_at hq_ HB.out); clear hq_ HO_7 HO_8 BK165 BK166 BK171 HB; have HO_7 := n0_; have HO_8 := n1_; have BK165 := n2_; have BK166 := n3_; have BK171 := n4_; have HB := n5_; clear n0_ n1_ n2_ n3_ n4_ n5_; (try (obtain ⟨hy42_, hz42_⟩ := Kd.R_celln 0 HO_7.out (x14_4 : Int) (of_decide_eq_true qO) (of_decide_eq_true qO))); (try (have HP42 := Kd.R_putg HO_7.out (x14_4 : Int) t178)))); refine store_event (t := 3) (p := 75) (v := ?vo_w43) (w1 := (wr.setCell ⟨go41, (x14_4 : Int).toNat, none⟩ (.int .i64 t178))) ?hg ?ho ?hn ?hr ?_; (case ho => rfl); (case hg => rfl); (case hn => rfl); (case hr => first | (go_simp; done) | (go_simp; rfl)); intro w43 hw; have hg : wr.grownBy w43 (some go41) := (by rw [hw]; exact HP42.2); have hp_ : Kd.R (Kd.int .i64) 3 w43 w.heap.size (fun _ => True) (.slice (some ⟨go41, 0, none⟩) x7_4.length co41) y179 := (by rw [hw, Ny179.out]; exact HP42.1); clear HP42; have n0_ := Aside0.mk (hp_); have n1_ := Aside0.mk (Kd.R_over' (v := (.slice (some ⟨go41, 0, none⟩) x7_4.length co41)) (qR HO_8) (Kd.R_typed HO_7.out) (by decide) hg); have n2_ := Aside0.mk (blk_grown (g := gb165) (o := .cells #[.slice (some ad170) l0_0.length c0_0, .slice A0_1 l0_1.length c0_1] 46 (0, 0)) (qK BK165) hg (Kd.R_ne HO_7.out BK165.out (by decide))); have n3_ := Aside0.mk (blk_grown (g := gb166) (o := .cells #[.int .i64 x167000_1, .int .i64 x167001_1] 26 (0, 0)) (qK BK166) hg (Kd.R_ne HO_7.out BK166.out (by decide))); have n4_ := Aside0.mk (blk_grown (g := gb171) (o := .cells #[.string ((rd_T60 l0_0 x10_1).f0), .int .i64 ((rd_T60 l0_0 x10_1).f1), .int .i64 ((rd_T60 l0_0 x10_1).f2), .int .i64 ((rd_T60 l0_0 x10_1).f3)] 60 (0, 0)) (qK BK171) hg (Kd.R_ne HO_7.out BK171.out (by decide))); have n5_ := Aside0.mk ((by rw [hw]; exact below_set (HB.out) GB41.out : Below w.heap.size w w43)); clear HO_7; clear HO_8; clear BK165; clear BK166; clear BK171; clear HB; have HO_7 := n0_; have HO_8 := n1_; have BK165 := n2_; have BK166 := n3_; have BK171 := n4_; have HB := n5_; clear n0_ n1_ n2_ n3_ n4_ n5_; clear hg hw hp_; have p180 : 0 ≤ (x14_4 : Int) := of_decide_eq_true qO; have q180 : x14_4 < (l1.length : Int) := of_decide_eq_true qO; obtain ⟨ad180, e180, hx180_0, hx180_1, hx180_2⟩ := at_T62 HR1.out x14_4 p180 q180; obtain rfl : ad176 = ad180 := (by injection e180); replace hx180_0 := (HB.out.cell (World.block_lt_of_cell? w _ hx180_0)).trans hx180_0; replace hx180_1 := (HB.out.cell (World.block_lt_of_cell? w _ hx180_1)).trans hx180_1; replace hx180_2 := (HB.out.cell (World.block_lt_of_cell? w _ hx180_2)).trans hx180_2; replace p180 := eq_true p180; replace q180 := eq_true q180)))
                  go_roundg k4
                  case measure => have := HK1.out; have := HJ10.out; have := HJ23.out; have := HK4.out; omega
                  case rel => exact ⟨(y179), (wrap64 (t178 + ((rd_T62 l1 x14_4).f1))), (wrap64 (x14_4 + 1)), qF, qF, H', ⟨by have := HK1.out; have := HJ10.out; have := HJ23.out; have := HK4.out; omega⟩, ⟨qR HO_7⟩, ⟨qR HO_8⟩, ⟨qK BK165⟩, ⟨qK BK166⟩, ⟨qK BK171⟩, ⟨qB⟩⟩
                 ·rw [if_neg c40] at H
                  exact absurd H (by simp)
                ·rw [if_neg c38] at H
                 have c38b0 : (((rd_T62 l1 x14_4).f0) == x10_1) = false := beq_eq_false_iff_ne.mpr c38
                 have c38b1 : (((rd_T62 l1 x14_4).f0) != x10_1) = true := bne_iff_ne.mpr c38
                 have H' := Aside0.mk H
                 clear H
                 have p176 : 0 ≤ (x14_4 : Int) := of_decide_eq_true qO
                 have q176 : x14_4 < (l1.length : Int) := of_decide_eq_true qO
                 obtain ⟨ad176, e176, hx176_0, hx176_1, hx176_2⟩ := at_T62 HR1.out x14_4 p176 q176
                 cases e176
                 replace hx176_0 := (HB.out.cell (World.block_lt_of_cell? w _ hx176_0)).trans hx176_0
                 replace hx176_1 := (HB.out.cell (World.block_lt_of_cell? w _ hx176_1)).trans hx176_1
                 replace hx176_2 := (HB.out.cell (World.block_lt_of_cell? w _ hx176_2)).trans hx176_2
                 replace p176 := eq_true p176
                 replace q176 := eq_true q176
                 go_wp2
                 repeat (go_quiet (fail); try go_wp2)
                 go_roundg k4
                 case measure => have := HK1.out; have := HJ10.out; have := HJ23.out; have := HK4.out; omega
                 case rel => exact ⟨(x7_4), (x12_4), (wrap64 (x14_4 + 1)), qF, qF, H', ⟨by have := HK1.out; have := HJ10.out; have := HJ23.out; have := HK4.out; omega⟩, ⟨qR HO_7⟩, ⟨qR HO_8⟩, ⟨qK BK165⟩, ⟨qK BK166⟩, ⟨qK BK171⟩, ⟨qB⟩⟩
               ·rw [if_neg c37] at H
                exact absurd H (by simp)
              ·rw [if_neg c36] at H
               have c36b0 : decide (x14_4 < (l1.length : Int)) = false := decide_eq_false c36
               clear c36
               by_cases c44 : x12_4 > 1048576
               ·rw [if_pos c44] at H
                have c44b0 : decide (1048576 < x12_4) = true := decide_eq_true c44
                clear c44
                replace H := Option.bind_eq_some_iff.mp H
                obtain ⟨⟨t181, t182⟩, A450, H⟩ := H
                replace H : (some (([] : List Int), ([] : List (S58)), t181, t182)) = some (r1, r2, r3, r4) := H
                have A45 := Aside0.mk A450
                clear A450
                simp only [Option.some.injEq, Prod.mk.injEq] at H
                obtain ⟨rfl, rfl, rfl, rfl⟩ := H
                go_wp2_with (first | (go_at_call 14; (with_reducible refine (ref_At.calls 10 x10_1 t181 t182 _ A45.out).mono ?_); rintro e w46 ⟨rfl, hb⟩; have n0_ := Aside0.mk (Kd.R_below (qR HO_7) hb); have n1_ := Aside0.mk (Kd.R_below (qR HO_8) hb); have n2_ := Aside0.mk (blk_below (g := gb165) (o := .cells #[.slice (some ad170) l0_0.length c0_0, .slice A0_1 l0_1.length c0_1] 46 (0, 0)) (qK BK165) hb); have n3_ := Aside0.mk (blk_below (g := gb166) (o := .cells #[.int .i64 x167000_1, .int .i64 x167001_1] 26 (0, 0)) (qK BK166) hb); have n4_ := Aside0.mk (blk_below (g := gb171) (o := .cells #[.string ((rd_T60 l0_0 x10_1).f0), .int .i64 ((rd_T60 l0_0 x10_1).f1), .int .i64 ((rd_T60 l0_0 x10_1).f2), .int .i64 ((rd_T60 l0_0 x10_1).f3)] 60 (0, 0)) (qK BK171) hb); have n5_ := Aside0.mk (below_step qB hb); clear HO_7; clear HO_8; clear BK165; clear BK166; clear BK171; clear HB; have HO_7 := n0_; have HO_8 := n1_; have BK165 := n2_; have BK166 := n3_; have BK171 := n4_; have HB := n5_; clear n0_ n1_ n2_ n3_ n4_ n5_; (try clear hb); (try clear hb2); (try clear hk); (try clear hi); have hnb47 := NB166_165.out; have hnc47 := NB165_166.out; have hnb48 := NB166_171.out; have hnc48 := NB171_166.out; have hcz49_0 : w46.cell? ⟨gb166, 0, none⟩ = some (.int .i64 x167000_1) := (blk_cell BK166.out 0).trans rfl; have hcz49_1 : w46.cell? ⟨gb166, 1, none⟩ = some (.int .i64 x167001_1) := (blk_cell BK166.out 1).trans rfl; have hfz49_0 := blk_frozen BK166.out 0; have hfz49_1 := blk_frozen BK166.out 1))
                repeat (go_quiet (first | (go_at_call 14; (with_reducible refine (ref_At.calls 10 x10_1 t181 t182 _ A45.out).mono ?_); rintro e w46 ⟨rfl, hb⟩; have n0_ := Aside0.mk (Kd.R_below (qR HO_7) hb); have n1_ := Aside0.mk (Kd.R_below (qR HO_8) hb); have n2_ := Aside0.mk (blk_below (g := gb165) (o := .cells #[.slice (some ad170) l0_0.length c0_0, .slice A0_1 l0_1.length c0_1] 46 (0, 0)) (qK BK165) hb); have n3_ := Aside0.mk (blk_below (g := gb166) (o := .cells #[.int .i64 x167000_1, .int .i64 x167001_1] 26 (0, 0)) (qK BK166) hb); have n4_ := Aside0.mk (blk_below (g := gb171) (o := .cells #[.string ((rd_T60 l0_0 x10_1).f0), .int .i64 ((rd_T60 l0_0 x10_1).f1), .int .i64 ((rd_T60 l0_0 x10_1).f2), .int .i64 ((rd_T60 l0_0 x10_1).f3)] 60 (0, 0)) (qK BK171) hb); have n5_ := Aside0.mk (below_step qB hb); clear HO_7; clear HO_8; clear BK165; clear BK166; clear BK171; clear HB; have HO_7 := n0_; have HO_8 := n1_; have BK165 := n2_; have BK166 := n3_; have BK171 := n4_; have HB := n5_; clear n0_ n1_ n2_ n3_ n4_ n5_; (try clear hb); (try clear hb2); (try clear hk); (try clear hi); have hnb47 := NB166_165.out; have hnc47 := NB165_166.out; have hnb48 := NB166_171.out; have hnc48 := NB171_166.out; have hcz49_0 : w46.cell? ⟨gb166, 0, none⟩ = some (.int .i64 x167000_1) := (blk_cell BK166.out 0).trans rfl; have hcz49_1 : w46.cell? ⟨gb166, 1, none⟩ = some (.int .i64 x167001_1) := (blk_cell BK166.out 1).trans rfl; have hfz49_0 := blk_frozen BK166.out 0; have hfz49_1 := blk_frozen BK166.out 1)); try go_wp2_with (first | (go_at_call 14; (with_reducible refine (ref_At.calls 10 x10_1 t181 t182 _ A45.out).mono ?_); rintro e w46 ⟨rfl, hb⟩; have n0_ := Aside0.mk (Kd.R_below (qR HO_7) hb); have n1_ := Aside0.mk (Kd.R_below (qR HO_8) hb); have n2_ := Aside0.mk (blk_below (g := gb165) (o := .cells #[.slice (some ad170) l0_0.length c0_0, .slice A0_1 l0_1.length c0_1] 46 (0, 0)) (qK BK165) hb); have n3_ := Aside0.mk (blk_below (g := gb166) (o := .cells #[.int .i64 x167000_1, .int .i64 x167001_1] 26 (0, 0)) (qK BK166) hb); have n4_ := Aside0.mk (blk_below (g := gb171) (o := .cells #[.string ((rd_T60 l0_0 x10_1).f0), .int .i64 ((rd_T60 l0_0 x10_1).f1), .int .i64 ((rd_T60 l0_0 x10_1).f2), .int .i64 ((rd_T60 l0_0 x10_1).f3)] 60 (0, 0)) (qK BK171) hb); have n5_ := Aside0.mk (below_step qB hb); clear HO_7; clear HO_8; clear BK165; clear BK166; clear BK171; clear HB; have HO_7 := n0_; have HO_8 := n1_; have BK165 := n2_; have BK166 := n3_; have BK171 := n4_; have HB := n5_; clear n0_ n1_ n2_ n3_ n4_ n5_; (try clear hb); (try clear hb2); (try clear hk); (try clear hi); have hnb47 := NB166_165.out; have hnc47 := NB165_166.out; have hnb48 := NB166_171.out; have hnc48 := NB171_166.out; have hcz49_0 : w46.cell? ⟨gb166, 0, none⟩ = some (.int .i64 x167000_1) := (blk_cell BK166.out 0).trans rfl; have hcz49_1 : w46.cell? ⟨gb166, 1, none⟩ = some (.int .i64 x167001_1) := (blk_cell BK166.out 1).trans rfl; have hfz49_0 := blk_frozen BK166.out 0; have hfz49_1 := blk_frozen BK166.out 1)))
                refine bodyPost_ret (results_list (rs := [.tmp 4, .tmp 5, .cell 6 26]) rfl (by simp) (.tmp (.tmp (.cell gb166 26 #[.int .i64 t181, .int .i64 t182] (0, 0) _ rfl (by (with_reducible repeat (first | refine blk_drewN ?_ _ | refine blk_drew ?_ | refine blk_alloc ?_ _)); refine blk_put (cs := #[.int .i64 t181, .int .i64 x167001_1]) ?_ 1 _ rfl; (with_reducible repeat (first | refine blk_drewN ?_ _ | refine blk_drew ?_ | refine blk_alloc ?_ _)); refine blk_put (cs := #[.int .i64 x167000_1, .int .i64 x167001_1]) ?_ 0 _ rfl; exact qK BK166) Try.underlying26 rfl (by kernel_rfl) .nil)))) rfl ?_
                exact ⟨_, _, qE, qL, qL, qB⟩
               ·rw [if_neg c44] at H
                have c44b0 : decide (1048576 < x12_4) = false := decide_eq_false c44
                clear c44
                by_cases c50 : x8_1.length < 8796093022208
                ·rw [if_pos c50] at H
                 have LMc50 := Aside0.mk c50
                 clear c50
                 obtain ⟨y183, hy183⟩ : ∃ y_ : List (S58), y_ = (x8_1 ++ [(⟨x12_10, wrap64 (x12_4 - x12_10)⟩ : S58)]) := ⟨_, rfl⟩
                 replace H : (ref_Placed.l0 k4 l1 x7_4 y183 x12_4 (wrap64 (x10_1 + 1)) l0_0 l0_1) = some (r1, r2, r3, r4) := by first | (rw [hy183]; with_reducible exact H) | (have H2_ := (Option.bind_some _ _).symm.trans H; rw [hy183]; with_reducible exact H2_) | (have H2_ := (Option.bind_some _ _).symm.trans H; with_reducible exact H2_) | with_reducible exact H | (rw [hy183]; exact H) | exact H
                 have Ny183 := Aside0.mk hy183
                 clear hy183
                 have H' := Aside0.mk H
                 clear H
                 go_wp2_with (first | ((with_reducible refine gate_builtin (b := .append) (xs := #[.tmp 87, .tmp 93]) rfl ?_); at_builtin; refine Kd.R_append k58 (w0 := w) w.heap.size rfl (.tmp 87) (.tmp 93) 51 58 (.agg #[(.int .i64 0), (.int .i64 0)]) 16 rfl Try.underlying51 info58 rfl (by decide) (by omega) u8 x8_1 (⟨x12_10, wrap64 (x12_4 - x12_10)⟩ : S58) [.int .i64 x12_10, .int .i64 (wrap64 (x12_4 - x12_10))] (fun _ => True) (fun _ => False) rfl rfl ?aP (fun _ hk => hk.elim) ?aF ?aO ?aB ?aS ?aL ?_; (case aP => exact k58_mkM _ _ _ (⟨x12_10, wrap64 (x12_4 - x12_10)⟩ : S58)); (case aB => exact qB); (case aF => exact (fun _ _ => trivial)); (case aO => exact (qR HO_8)); (case aS => exact (below_size qB)); (case aL => have := LMc50.out; omega); intro v184 w51 ho hb hg hat; rw [← Ny183.out] at ho; have n0_ := Aside0.mk (Kd.R_over' (qR HO_7) (Kd.R_typed (qR HO_8)) (by decide) hg); have n1_ := Aside0.mk (blk_grown (g := gb165) (o := .cells #[.slice (some ad170) l0_0.length c0_0, .slice A0_1 l0_1.length c0_1] 46 (0, 0)) (qK BK165) hg (Kd.R_ne HO_8.out BK165.out (by decide))); have n2_ := Aside0.mk (blk_grown (g := gb166) (o := .cells #[.int .i64 x167000_1, .int .i64 x167001_1] 26 (0, 0)) (qK BK166) hg (Kd.R_ne HO_8.out BK166.out (by decide))); have n3_ := Aside0.mk (blk_grown (g := gb171) (o := .cells #[.string ((rd_T60 l0_0 x10_1).f0), .int .i64 ((rd_T60 l0_0 x10_1).f1), .int .i64 ((rd_T60 l0_0 x10_1).f2), .int .i64 ((rd_T60 l0_0 x10_1).f3)] 60 (0, 0)) (qK BK171) hg (Kd.R_ne HO_8.out BK171.out (by decide))); have n4_ := Aside0.mk (hb); have n5_ := Aside0.mk (ho); clear HO_7; clear BK165; clear BK166; clear BK171; clear HB; clear HO_8; have HO_7 := n0_; have BK165 := n1_; have BK166 := n2_; have BK171 := n3_; have HB := n4_; have HO185 := n5_; clear n0_ n1_ n2_ n3_ n4_ n5_; clear ho hb hg hat))
                 repeat (go_quiet (first | ((with_reducible refine gate_builtin (b := .append) (xs := #[.tmp 87, .tmp 93]) rfl ?_); at_builtin; refine Kd.R_append k58 (w0 := w) w.heap.size rfl (.tmp 87) (.tmp 93) 51 58 (.agg #[(.int .i64 0), (.int .i64 0)]) 16 rfl Try.underlying51 info58 rfl (by decide) (by omega) u8 x8_1 (⟨x12_10, wrap64 (x12_4 - x12_10)⟩ : S58) [.int .i64 x12_10, .int .i64 (wrap64 (x12_4 - x12_10))] (fun _ => True) (fun _ => False) rfl rfl ?aP (fun _ hk => hk.elim) ?aF ?aO ?aB ?aS ?aL ?_; (case aP => exact k58_mkM _ _ _ (⟨x12_10, wrap64 (x12_4 - x12_10)⟩ : S58)); (case aB => exact qB); (case aF => exact (fun _ _ => trivial)); (case aO => exact (qR HO_8)); (case aS => exact (below_size qB)); (case aL => have := LMc50.out; omega); intro v184 w51 ho hb hg hat; rw [← Ny183.out] at ho; have n0_ := Aside0.mk (Kd.R_over' (qR HO_7) (Kd.R_typed (qR HO_8)) (by decide) hg); have n1_ := Aside0.mk (blk_grown (g := gb165) (o := .cells #[.slice (some ad170) l0_0.length c0_0, .slice A0_1 l0_1.length c0_1] 46 (0, 0)) (qK BK165) hg (Kd.R_ne HO_8.out BK165.out (by decide))); have n2_ := Aside0.mk (blk_grown (g := gb166) (o := .cells #[.int .i64 x167000_1, .int .i64 x167001_1] 26 (0, 0)) (qK BK166) hg (Kd.R_ne HO_8.out BK166.out (by decide))); have n3_ := Aside0.mk (blk_grown (g := gb171) (o := .cells #[.string ((rd_T60 l0_0 x10_1).f0), .int .i64 ((rd_T60 l0_0 x10_1).f1), .int .i64 ((rd_T60 l0_0 x10_1).f2), .int .i64 ((rd_T60 l0_0 x10_1).f3)] 60 (0, 0)) (qK BK171) hg (Kd.R_ne HO_8.out BK171.out (by decide))); have n4_ := Aside0.mk (hb); have n5_ := Aside0.mk (ho); clear HO_7; clear BK165; clear BK166; clear BK171; clear HB; clear HO_8; have HO_7 := n0_; have BK165 := n1_; have BK166 := n2_; have BK171 := n3_; have HB := n4_; have HO185 := n5_; clear n0_ n1_ n2_ n3_ n4_ n5_; clear ho hb hg hat)); try go_wp2_with (first | ((with_reducible refine gate_builtin (b := .append) (xs := #[.tmp 87, .tmp 93]) rfl ?_); at_builtin; refine Kd.R_append k58 (w0 := w) w.heap.size rfl (.tmp 87) (.tmp 93) 51 58 (.agg #[(.int .i64 0), (.int .i64 0)]) 16 rfl Try.underlying51 info58 rfl (by decide) (by omega) u8 x8_1 (⟨x12_10, wrap64 (x12_4 - x12_10)⟩ : S58) [.int .i64 x12_10, .int .i64 (wrap64 (x12_4 - x12_10))] (fun _ => True) (fun _ => False) rfl rfl ?aP (fun _ hk => hk.elim) ?aF ?aO ?aB ?aS ?aL ?_; (case aP => exact k58_mkM _ _ _ (⟨x12_10, wrap64 (x12_4 - x12_10)⟩ : S58)); (case aB => exact qB); (case aF => exact (fun _ _ => trivial)); (case aO => exact (qR HO_8)); (case aS => exact (below_size qB)); (case aL => have := LMc50.out; omega); intro v184 w51 ho hb hg hat; rw [← Ny183.out] at ho; have n0_ := Aside0.mk (Kd.R_over' (qR HO_7) (Kd.R_typed (qR HO_8)) (by decide) hg); have n1_ := Aside0.mk (blk_grown (g := gb165) (o := .cells #[.slice (some ad170) l0_0.length c0_0, .slice A0_1 l0_1.length c0_1] 46 (0, 0)) (qK BK165) hg (Kd.R_ne HO_8.out BK165.out (by decide))); have n2_ := Aside0.mk (blk_grown (g := gb166) (o := .cells #[.int .i64 x167000_1, .int .i64 x167001_1] 26 (0, 0)) (qK BK166) hg (Kd.R_ne HO_8.out BK166.out (by decide))); have n3_ := Aside0.mk (blk_grown (g := gb171) (o := .cells #[.string ((rd_T60 l0_0 x10_1).f0), .int .i64 ((rd_T60 l0_0 x10_1).f1), .int .i64 ((rd_T60 l0_0 x10_1).f2), .int .i64 ((rd_T60 l0_0 x10_1).f3)] 60 (0, 0)) (qK BK171) hg (Kd.R_ne HO_8.out BK171.out (by decide))); have n4_ := Aside0.mk (hb); have n5_ := Aside0.mk (ho); clear HO_7; clear BK165; clear BK166; clear BK171; clear HB; clear HO_8; have HO_7 := n0_; have BK165 := n1_; have BK166 := n2_; have BK171 := n3_; have HB := n4_; have HO185 := n5_; clear n0_ n1_ n2_ n3_ n4_ n5_; clear ho hb hg hat)))
                 go_roundg k4
                 case measure => have := HK1.out; have := HJ10.out; have := HJ23.out; have := HK4.out; omega
                 case rel => exact ⟨(x7_4), (y183), (x12_4), (wrap64 (x10_1 + 1)), (x167000_1), (x167001_1), qF, qF, H', ⟨by have := HK1.out; have := HJ10.out; have := HJ23.out; have := HK4.out; omega⟩, ⟨qR HO_7⟩, ⟨qR HO185⟩, ⟨qK BK165⟩, ⟨qK BK166⟩, ⟨qB⟩⟩
                ·rw [if_neg c50] at H
                 exact absurd H (by simp)
      ·rw [if_neg c10] at H
       exact absurd H (by simp)
     ·rw [if_neg c9] at H
      have c9b0 : decide (x10_1 < (l0_0.length : Int)) = false := decide_eq_false c9
      clear c9
      simp only [Option.some.injEq, Prod.mk.injEq] at H
      obtain ⟨rfl, rfl, rfl, rfl⟩ := H
      have hnb52 := NB165_166.out
      have hnc52 := NB166_165.out
      have hcz53_0 : wr.cell? ⟨gb165, 0, none⟩ = some (.slice A0_0 l0_0.length c0_0) := (blk_cell BK165.out 0).trans rfl
      have hcz53_1 : wr.cell? ⟨gb165, 1, none⟩ = some (.slice A0_1 l0_1.length c0_1) := (blk_cell BK165.out 1).trans rfl
      have hfz53_0 := blk_frozen BK165.out 0
      have hfz53_1 := blk_frozen BK165.out 1
      have hcz54_0 : wr.cell? ⟨gb166, 0, none⟩ = some (.int .i64 x167000_1) := (blk_cell BK166.out 0).trans rfl
      have hcz54_1 : wr.cell? ⟨gb166, 1, none⟩ = some (.int .i64 x167001_1) := (blk_cell BK166.out 1).trans rfl
      have hfz54_0 := blk_frozen BK166.out 0
      have hfz54_1 := blk_frozen BK166.out 1
      go_wp2
      repeat (go_quiet (fail); try go_wp2)
      refine bodyPost_ret (results_list (rs := [.tmp 4, .tmp 5, .cell 6 26]) rfl (by simp) (.tmp (.tmp (.cell gb166 26 #[.int .i64 0, .int .i64 0] (0, 0) _ rfl (by (with_reducible repeat (first | refine blk_drewN ?_ _ | refine blk_drew ?_ | refine blk_alloc ?_ _)); refine blk_put (cs := #[.int .i64 0, .int .i64 x167001_1]) ?_ 1 _ rfl; (with_reducible repeat (first | refine blk_drewN ?_ _ | refine blk_drew ?_ | refine blk_alloc ?_ _)); refine blk_put (cs := #[.int .i64 x167000_1, .int .i64 x167001_1]) ?_ 0 _ rfl; exact qK BK166) Try.underlying26 rfl (by kernel_rfl) .nil)))) rfl ?_
      exact ⟨_, _, qE, by (with_reducible repeat (first | apply Kd.R_alloc | apply Kd.R_drewN | apply Kd.R_drew)); exact Kd.R_mono (Kd.R_far (p := ⟨gb166, 1, none⟩) (Kd.R_far (p := ⟨gb166, 0, none⟩) (Kd.R_types HO_7.out BK166.out (by decide)) (fun _ hk => hk.2) (.int .i64 0)) (fun _ hk => hk.2) (.int .i64 0)) (fun _ hk => trivial), by (with_reducible repeat (first | apply Kd.R_alloc | apply Kd.R_drewN | apply Kd.R_drew)); exact Kd.R_mono (Kd.R_far (p := ⟨gb166, 1, none⟩) (Kd.R_far (p := ⟨gb166, 0, none⟩) (Kd.R_types HO_8.out BK166.out (by decide)) (fun _ hk => hk.2) (.int .i64 0)) (fun _ hk => hk.2) (.int .i64 0)) (fun _ hk => trivial), qB⟩
  ·rw [if_neg c4] at H
   exact absurd H (by simp)
 ·rw [if_neg c3] at H
  exact absurd H (by simp)

end Go.Proofs.Ytnbeamaoblmbhaa.PPlace
