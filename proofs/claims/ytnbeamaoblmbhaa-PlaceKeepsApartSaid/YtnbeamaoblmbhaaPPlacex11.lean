/- Written by a program of this session, for the law(s) Place: contracts of the Go functions that the law reaches, each against a plain Lean function. No condition. -/
import Derived.Test.YtnbeamaoblmbhaaPPlacex0
import Derived.Test.YtnbeamaoblmbhaaPPlacex10
namespace Go.Proofs.Ytnbeamaoblmbhaa.PPlace
open Go.RowKit Go.Proofs.YtnbeamaoblmbhaaW.PrintWords Go.Proofs.YtnbeamaoblmbhaaW.PrintLast Go.Proofs.YtnbeamaoblmbhaaW.PrintMore
attribute [local go_sem] max2_int min2_int max_two min_two max_three min_three max_four min_four   -- for this text's walks alone
set_option linter.unusedVariables false
set_option linter.unusedSimpArgs false

/-! ### place_Assign: function 40 -/
mutual
def place_Assign.l0 : Nat → List (S62) → List Int → List (S58) → Int → List (S60) → Int → Int → Option (List Int × (List (S58)) × Int × Int)
 | 0, _, _, _, _, _, _, _ => none
 | k + 1, x1, x7, x8, x9, x24, x25, x26 => if x26 < x25 then (if 0 ≤ x26 then (if x26 < (x24.length : Int) then (if ((rd_T60 x24 x26).f1) < 0 then ((thread_Up.f x9 256).bind fun t218 => ((thread_Up.f t218 ((rd_T60 x24 x26).f2)).bind fun t219 => (place_Assign.j1 k x1 x7 x8 x9 x26 t219 x24 x25 x26 ((rd_T60 x24 x26).f0) ((rd_T60 x24 x26).f1) ((rd_T60 x24 x26).f2) ((rd_T60 x24 x26).f3)))) else (place_Assign.j1 k x1 x7 x8 x9 x26 ((rd_T60 x24 x26).f1) x24 x25 x26 ((rd_T60 x24 x26).f0) ((rd_T60 x24 x26).f1) ((rd_T60 x24 x26).f2) ((rd_T60 x24 x26).f3))) else (none)) else (none)) else (some (x7, x8, 0, 0))
def place_Assign.j1 : Nat → List (S62) → List Int → List (S58) → Int → Int → Int → List (S60) → Int → Int → ByteArray → Int → Int → Int → Option (List Int × (List (S58)) × Int × Int)
 | 0, _, _, _, _, _, _, _, _, _, _, _, _, _ => none
 | k + 1, x1, x7, x8, x9, x10, x12, x24, x25, x26, x218000, x218001, x218002, x218003 => if x12 < x9 then (place_Assign.j2 k x1 x7 x8 x10 x12 x24 x25 x26 true) else (if x218002 = 0 then (none) else (place_Assign.j2 k x1 x7 x8 x10 x12 x24 x25 x26 ((Int.tmod x12 x218002) != 0)))
def place_Assign.j2 : Nat → List (S62) → List Int → List (S58) → Int → Int → List (S60) → Int → Int → Bool → Option (List Int × (List (S58)) × Int × Int)
 | 0, _, _, _, _, _, _, _, _, _ => none
 | k + 1, x1, x7, x8, x10, x12, x24, x25, x26, x49 => if x49 = true then (some (([] : List Int), ([] : List (S58)), 13, x10)) else (place_Assign.l1 k x1 x7 x8 x10 x12 x12 x24 x25 x26 x1 (x1.length : Int) 0)
def place_Assign.l1 : Nat → List (S62) → List Int → List (S58) → Int → Int → Int → List (S60) → Int → Int → List (S62) → Int → Int → Option (List Int × (List (S58)) × Int × Int)
 | 0, _, _, _, _, _, _, _, _, _, _, _, _ => none
 | k + 1, x1, x7, x8, x10, x12, x13, x24, x25, x26, x53, x54, x55 => if x55 < x54 then (if 0 ≤ x55 then (if x55 < (x53.length : Int) then (if ((rd_T62 x53 x55).f0) = x10 then ((thread_Up.f x13 ((rd_T62 x53 x55).f2)).bind fun t222 => (if x55 < (x7.length : Int) then ((some (x7.set (x55 : Int).toNat t222 : List Int)).bind fun y223 => (place_Assign.l1 k x1 y223 x8 x10 x12 (wrap64 ((rd y223 x55) + ((rd_T62 x53 x55).f1))) x24 x25 x26 x53 x54 (wrap64 (x55 + 1)))) else (none))) else (place_Assign.l1 k x1 x7 x8 x10 x12 x13 x24 x25 x26 x53 x54 (wrap64 (x55 + 1)))) else (none)) else (none)) else (if x13 > 1048576 then (some (([] : List Int), ([] : List (S58)), 10, x10)) else (if 0 ≤ x10 then (if x10 < (x8.length : Int) then (place_Assign.l0 k x1 x7 (x8.set (x10 : Int).toNat (⟨x12, wrap64 (x13 - x12)⟩ : S58)) x13 x24 x25 (wrap64 (x26 + 1))) else (none)) else (none)))
end
def place_Assign.f (k : Nat) (l0_0 : List (S60)) (l0_1 : List (S72)) (l1 : List (S62)) : Option (List Int × (List (S58)) × Int × Int) := if 0 ≤ (l1.length : Int) then (if ((l1.length : Int) : Int).toNat ≤ 35184372088832 then (if 0 ≤ (l0_0.length : Int) then (if ((l0_0.length : Int) : Int).toNat ≤ 17592186044416 then (place_Assign.l0 k l1 (List.replicate ((l1.length : Int) : Int).toNat 0) (List.replicate ((l0_0.length : Int) : Int).toNat z58) 256 l0_0 (l0_0.length : Int) 0) else (none)) else (none)) else (none)) else (none)
theorem place_Assign.mono_l : ∀ k, (∀ y0 y1 y2 y3 y4 y5 y6, LeO (place_Assign.l0 k y0 y1 y2 y3 y4 y5 y6) (place_Assign.l0 (k + 1) y0 y1 y2 y3 y4 y5 y6)) ∧ (∀ y0 y1 y2 y3 y4 y5 y6 y7 y8 y9 y10 y11 y12, LeO (place_Assign.j1 k y0 y1 y2 y3 y4 y5 y6 y7 y8 y9 y10 y11 y12) (place_Assign.j1 (k + 1) y0 y1 y2 y3 y4 y5 y6 y7 y8 y9 y10 y11 y12)) ∧ (∀ y0 y1 y2 y3 y4 y5 y6 y7 y8, LeO (place_Assign.j2 k y0 y1 y2 y3 y4 y5 y6 y7 y8) (place_Assign.j2 (k + 1) y0 y1 y2 y3 y4 y5 y6 y7 y8)) ∧ (∀ y0 y1 y2 y3 y4 y5 y6 y7 y8 y9 y10 y11, LeO (place_Assign.l1 k y0 y1 y2 y3 y4 y5 y6 y7 y8 y9 y10 y11) (place_Assign.l1 (k + 1) y0 y1 y2 y3 y4 y5 y6 y7 y8 y9 y10 y11))
 | 0 => ⟨fun _ _ _ _ _ _ _ r h => by simp [place_Assign.l0] at h, fun _ _ _ _ _ _ _ _ _ _ _ _ _ r h => by simp [place_Assign.j1] at h, fun _ _ _ _ _ _ _ _ _ r h => by simp [place_Assign.j2] at h, fun _ _ _ _ _ _ _ _ _ _ _ _ r h => by simp [place_Assign.l1] at h⟩
 | k + 1 => by
  obtain ⟨ih0, ih1, ih2, ih3⟩ := place_Assign.mono_l k
  refine ⟨?_, ?_, ?_, ?_⟩
  ·intro y0 y1 y2 y3 y4 y5 y6
   unfold place_Assign.l0
   repeat' first
   | (with_reducible exact ih0 _ _ _ _ _ _ _)
   | (with_reducible exact ih1 _ _ _ _ _ _ _ _ _ _ _ _ _)
   | (with_reducible exact ih2 _ _ _ _ _ _ _ _ _)
   | (with_reducible exact ih3 _ _ _ _ _ _ _ _ _ _ _ _)
   | (with_reducible exact LeO.refl _)
   | (with_reducible exact LeO.none _)
   | (with_reducible refine LeO.ite ?_ ?_)
   | (with_reducible refine LeO.bind ?_ (fun _ => ?_))
   | exact ih0 _ _ _ _ _ _ _
   | exact ih1 _ _ _ _ _ _ _ _ _ _ _ _ _
   | exact ih2 _ _ _ _ _ _ _ _ _
   | exact ih3 _ _ _ _ _ _ _ _ _ _ _ _
   | exact LeO.none _
   | refine LeO.ite ?_ ?_
   | refine LeO.bind ?_ (fun _ => ?_)
  ·intro y0 y1 y2 y3 y4 y5 y6 y7 y8 y9 y10 y11 y12
   unfold place_Assign.j1
   repeat' first
   | (with_reducible exact ih0 _ _ _ _ _ _ _)
   | (with_reducible exact ih1 _ _ _ _ _ _ _ _ _ _ _ _ _)
   | (with_reducible exact ih2 _ _ _ _ _ _ _ _ _)
   | (with_reducible exact ih3 _ _ _ _ _ _ _ _ _ _ _ _)
   | (with_reducible exact LeO.refl _)
   | (with_reducible exact LeO.none _)
   | (with_reducible refine LeO.ite ?_ ?_)
   | (with_reducible refine LeO.bind ?_ (fun _ => ?_))
   | exact ih0 _ _ _ _ _ _ _
   | exact ih1 _ _ _ _ _ _ _ _ _ _ _ _ _
   | exact ih2 _ _ _ _ _ _ _ _ _
   | exact ih3 _ _ _ _ _ _ _ _ _ _ _ _
   | exact LeO.none _
   | refine LeO.ite ?_ ?_
   | refine LeO.bind ?_ (fun _ => ?_)
  ·intro y0 y1 y2 y3 y4 y5 y6 y7 y8
   unfold place_Assign.j2
   repeat' first
   | (with_reducible exact ih0 _ _ _ _ _ _ _)
   | (with_reducible exact ih1 _ _ _ _ _ _ _ _ _ _ _ _ _)
   | (with_reducible exact ih2 _ _ _ _ _ _ _ _ _)
   | (with_reducible exact ih3 _ _ _ _ _ _ _ _ _ _ _ _)
   | (with_reducible exact LeO.refl _)
   | (with_reducible exact LeO.none _)
   | (with_reducible refine LeO.ite ?_ ?_)
   | (with_reducible refine LeO.bind ?_ (fun _ => ?_))
   | exact ih0 _ _ _ _ _ _ _
   | exact ih1 _ _ _ _ _ _ _ _ _ _ _ _ _
   | exact ih2 _ _ _ _ _ _ _ _ _
   | exact ih3 _ _ _ _ _ _ _ _ _ _ _ _
   | exact LeO.none _
   | refine LeO.ite ?_ ?_
   | refine LeO.bind ?_ (fun _ => ?_)
  ·intro y0 y1 y2 y3 y4 y5 y6 y7 y8 y9 y10 y11
   unfold place_Assign.l1
   repeat' first
   | (with_reducible exact ih0 _ _ _ _ _ _ _)
   | (with_reducible exact ih1 _ _ _ _ _ _ _ _ _ _ _ _ _)
   | (with_reducible exact ih2 _ _ _ _ _ _ _ _ _)
   | (with_reducible exact ih3 _ _ _ _ _ _ _ _ _ _ _ _)
   | (with_reducible exact LeO.refl _)
   | (with_reducible exact LeO.none _)
   | (with_reducible refine LeO.ite ?_ ?_)
   | (with_reducible refine LeO.bind ?_ (fun _ => ?_))
   | exact ih0 _ _ _ _ _ _ _
   | exact ih1 _ _ _ _ _ _ _ _ _ _ _ _ _
   | exact ih2 _ _ _ _ _ _ _ _ _
   | exact ih3 _ _ _ _ _ _ _ _ _ _ _ _
   | exact LeO.none _
   | refine LeO.ite ?_ ?_
   | refine LeO.bind ?_ (fun _ => ?_)
theorem place_Assign.mono : ∀ a0 a1 a2 k, LeO (place_Assign.f k a0 a1 a2) (place_Assign.f (k + 1) a0 a1 a2) := by
 intro a0 a1 a2 k
 obtain ⟨ih0, ih1, ih2, ih3⟩ := place_Assign.mono_l k
 unfold place_Assign.f
 repeat' first
   | (with_reducible exact ih0 _ _ _ _ _ _ _)
   | (with_reducible exact ih1 _ _ _ _ _ _ _ _ _ _ _ _ _)
   | (with_reducible exact ih2 _ _ _ _ _ _ _ _ _)
   | (with_reducible exact ih3 _ _ _ _ _ _ _ _ _ _ _ _)
   | (with_reducible exact LeO.refl _)
   | (with_reducible exact LeO.none _)
   | (with_reducible refine LeO.ite ?_ ?_)
   | (with_reducible refine LeO.bind ?_ (fun _ => ?_))
   | exact ih0 _ _ _ _ _ _ _
   | exact ih1 _ _ _ _ _ _ _ _ _ _ _ _ _
   | exact ih2 _ _ _ _ _ _ _ _ _
   | exact ih3 _ _ _ _ _ _ _ _ _ _ _ _
   | exact LeO.none _
   | refine LeO.ite ?_ ?_
   | refine LeO.bind ?_ (fun _ => ?_)
set_option maxHeartbeats 8000000 in
set_option maxRecDepth 100000 in
theorem place_Assign.calls (k : Nat) (A0_0 : Option Addr) (c0_0 : Nat) (l0_0 : List (S60)) (A0_1 : Option Addr) (c0_1 : Nat) (l0_1 : List (S72)) (A1 : Option Addr) (c1 : Nat) (l1 : List (S62)) (r1 : List Int) (r2 : List (S58)) (r3 : Int) (r4 : Int) (w : World) (hr0_0 : Kd.C k60 w A0_0 l0_0.length l0_0) (hc0_0 : l0_0.length ≤ c0_0) (hr0_1 : Kd.C k72 w A0_1 l0_1.length l0_1) (hc0_1 : l0_1.length ≤ c0_1) (hr1 : Kd.C k62 w A1 l1.length l1) (hc1 : l1.length ≤ c1) (h : place_Assign.f k l0_0 l0_1 l1 = some (r1, r2, r3, r4)) :
  Calls Try.prog 40 #[.agg #[.slice A0_0 l0_0.length c0_0, .slice A0_1 l0_1.length c0_1], .slice A1 l1.length c1] w fun e w' => ∃ v0_ v1_ : Value, e = .returned (.tuple #[v0_, v1_, .agg #[.int .i64 r3, .int .i64 r4]]) ∧ Kd.R (Kd.int .i64) 3 w' w.heap.size (fun _ => True) v0_ r1 ∧ Kd.R k58 58 w' w.heap.size (fun _ => True) v1_ r2 ∧ Below w.heap.size w w' := by
 have hu46 := Try.underlying46
 have hu26 := Try.underlying26
 have hu60 := Try.underlying60
 have hu62 := Try.underlying62
 have hu58 := Try.underlying58
 have HR0_0 := Aside0.mk hr0_0
 have HC0_0 := Aside0.mk hc0_0
 clear hr0_0 hc0_0
 have HR0_1 := Aside0.mk hr0_1
 have HC0_1 := Aside0.mk hc0_1
 clear hr0_1 hc0_1
 have HR1 := Aside0.mk hr1
 have HC1 := Aside0.mk hc1
 clear hr1 hc1
 have HB := Aside0.mk (Below.refl w.heap.size w)
 have H : (if 0 ≤ (l1.length : Int) then (if ((l1.length : Int) : Int).toNat ≤ 35184372088832 then (if 0 ≤ (l0_0.length : Int) then (if ((l0_0.length : Int) : Int).toNat ≤ 17592186044416 then (place_Assign.l0 k l1 (List.replicate ((l1.length : Int) : Int).toNat 0) (List.replicate ((l0_0.length : Int) : Int).toNat z58) 256 l0_0 (l0_0.length : Int) 0) else (none)) else (none)) else (none)) else (none)) = some (r1, r2, r3, r4) := h
 clear h
 by_cases c3 : 0 ≤ (l1.length : Int)
 ·rw [if_pos c3] at H
  have c3b0 := eq_true c3
  have c3b1 : decide (0 ≤ (l1.length : Int)) = true := decide_eq_true c3
  clear c3
  by_cases c4 : ((l1.length : Int) : Int).toNat ≤ 35184372088832
  ·rw [if_pos c4] at H
   have c4b0 := eq_true c4
   have c4b1 : decide (((l1.length : Int) : Int).toNat ≤ 35184372088832) = true := decide_eq_true c4
   clear c4
   obtain ⟨y210, hy210⟩ : ∃ y_ : List Int, y_ = (List.replicate ((l1.length : Int) : Int).toNat 0) := ⟨_, rfl⟩
   replace H : (if 0 ≤ (l0_0.length : Int) then (if ((l0_0.length : Int) : Int).toNat ≤ 17592186044416 then (place_Assign.l0 k l1 y210 (List.replicate ((l0_0.length : Int) : Int).toNat z58) 256 l0_0 (l0_0.length : Int) 0) else (none)) else (none)) = some (r1, r2, r3, r4) := by first | (rw [hy210]; with_reducible exact H) | (have H2_ := (Option.bind_some _ _).symm.trans H; rw [hy210]; with_reducible exact H2_) | (have H2_ := (Option.bind_some _ _).symm.trans H; with_reducible exact H2_) | with_reducible exact H | (rw [hy210]; exact H) | exact H
   have Ny210 := Aside0.mk hy210
   clear hy210
   by_cases c5 : 0 ≤ (l0_0.length : Int)
   ·rw [if_pos c5] at H
    have c5b0 := eq_true c5
    have c5b1 : decide (0 ≤ (l0_0.length : Int)) = true := decide_eq_true c5
    clear c5
    by_cases c6 : ((l0_0.length : Int) : Int).toNat ≤ 17592186044416
    ·rw [if_pos c6] at H
     have c6b0 := eq_true c6
     have c6b1 : decide (((l0_0.length : Int) : Int).toNat ≤ 17592186044416) = true := decide_eq_true c6
     clear c6
     obtain ⟨y213, hy213⟩ : ∃ y_ : List (S58), y_ = (List.replicate ((l0_0.length : Int) : Int).toNat z58) := ⟨_, rfl⟩
     replace H : (place_Assign.l0 k l1 y210 y213 256 l0_0 (l0_0.length : Int) 0) = some (r1, r2, r3, r4) := by first | (rw [hy213]; with_reducible exact H) | (have H2_ := (Option.bind_some _ _).symm.trans H; rw [hy213]; with_reducible exact H2_) | (have H2_ := (Option.bind_some _ _).symm.trans H; with_reducible exact H2_) | with_reducible exact H | (rw [hy213]; exact H) | exact H
     have Ny213 := Aside0.mk hy213
     clear hy213
     have H' := Aside0.mk H
     clear H
     go_enter Try.func40, Try.ntmps40
     go_wp2_with (first | ((with_reducible refine gate_dst (N := 2) rfl ?_); refine qX (N := 2) (cs := #[.slice A0_0 l0_0.length c0_0, .slice A0_1 l0_1.length c0_1]) (t := 46) ?_; intro gb208 hg w7 hbox hb; have n0_ := Aside0.mk (below_step qB hb); have n1_ := Aside0.mk (hbox); have n2_ := Aside0.mk ((qG hg : w.heap.size ≤ gb208)); have n3_ := Aside0.mk ((qG hg : w.heap.size ≤ gb208)); clear HB; have HB := n0_; have BK208 := n1_; have GW208 := n2_; have GE208 := n3_; clear n0_ n1_ n2_ n3_; clear hb hbox hg) | ((with_reducible refine gate_dst (N := 6) rfl ?_); refine qX (N := 6) (cs := #[.int .i64 0, .int .i64 0]) (t := 26) ?_; intro gb209 hg w8 hbox hb; have n0_ := Aside0.mk (blk_below (g := gb208) (o := .cells #[.slice A0_0 l0_0.length c0_0, .slice A0_1 l0_1.length c0_1] 46 (0, 0)) (qK BK208) hb); have n1_ := Aside0.mk (below_step qB hb); have n2_ := Aside0.mk (hbox); have n3_ := Aside0.mk ((qG hg : w.heap.size ≤ gb209)); have n4_ := Aside0.mk ((qG hg : w.heap.size ≤ gb209)); have n5_ := Aside0.mk ((by rw [hg]; exact Nat.ne_of_lt (blk_lt (g := gb208) (o := .cells #[.slice A0_0 l0_0.length c0_0, .slice A0_1 l0_1.length c0_1] 46 (0, 0)) (qK BK208)) : gb208 ≠ gb209)); have n6_ := Aside0.mk ((by rw [hg]; exact Nat.ne_of_gt (blk_lt (g := gb208) (o := .cells #[.slice A0_0 l0_0.length c0_0, .slice A0_1 l0_1.length c0_1] 46 (0, 0)) (qK BK208)) : gb209 ≠ gb208)); clear BK208; clear HB; have BK208 := n0_; have HB := n1_; have BK209 := n2_; have GW209 := n3_; have GE209 := n4_; have NB208_209 := n5_; have NB209_208 := n6_; clear n0_ n1_ n2_ n3_ n4_ n5_ n6_; clear hb hbox hg) | ((with_reducible refine gate_dst (N := 18) rfl ?_); refine Kd.R_make (Kd.int .i64) _ 3 rfl (N := 18) rfl 50 _ _ rfl (l1.length : Int) rfl rfl Try.underlying50 (.int .i64 0) 8 info3 rfl (by decide) (by omega) 0 (ok := fun _ => True) (okp := fun _ => True) rfl (fun _ hk => hk) trivial (of_decide_eq_true qO) (Nat.le_trans (Nat.mul_le_mul_right _ (of_decide_eq_true qO : (l1.length : Int).toNat ≤ 35184372088832)) (by omega)) (Below.refl _ _) (Nat.le_refl _) ?_; intro v211 w9 ho10 hb hg_ hnew_; clear hg_ hnew_; (first | rw [← Ny210.out] at ho10 | (simp only [Int.reduceToNat] at ho10; rw [← Ny210.out] at ho10)); have n0_ := Aside0.mk (Kd.R_lower ho10 (below_size qB)); have n1_ := Aside0.mk (blk_below (g := gb208) (o := .cells #[.slice A0_0 l0_0.length c0_0, .slice A0_1 l0_1.length c0_1] 46 (0, 0)) (qK BK208) hb); have n2_ := Aside0.mk (blk_below (g := gb209) (o := .cells #[.int .i64 0, .int .i64 0] 26 (0, 0)) (qK BK209) hb); have n3_ := Aside0.mk (below_step qB hb); clear BK208; clear BK209; clear HB; have HO212 := n0_; have BK208 := n1_; have BK209 := n2_; have HB := n3_; clear n0_ n1_ n2_ n3_; clear hb ho10; have hnb11 := NB208_209.out; have hnc11 := NB209_208.out; have hcz12_0 : w9.cell? ⟨gb208, 0, none⟩ = some (.slice A0_0 l0_0.length c0_0) := (blk_cell BK208.out 0).trans rfl; have hcz12_1 : w9.cell? ⟨gb208, 1, none⟩ = some (.slice A0_1 l0_1.length c0_1) := (blk_cell BK208.out 1).trans rfl; have hfz12_0 := blk_frozen BK208.out 0; have hfz12_1 := blk_frozen BK208.out 1) | ((with_reducible refine gate_dst (N := 22) rfl ?_); refine Kd.R_make k58 _ 58 rfl (N := 22) rfl 51 _ _ rfl (l0_0.length : Int) rfl rfl Try.underlying51 (.agg #[(.int .i64 0), (.int .i64 0)]) 16 info58 rfl (by decide) (by omega) z58 (ok := fun _ => True) (okp := fun _ => True) (k58_mkM _ _ _ z58 ) (fun _ hk => hk) trivial (of_decide_eq_true qO) (Nat.le_trans (Nat.mul_le_mul_right _ (of_decide_eq_true qO : (l0_0.length : Int).toNat ≤ 17592186044416)) (by omega)) (Below.refl _ _) (Nat.le_refl _) ?_; intro v214 w13 ho14 hb hg_ hnew_; clear hg_ hnew_; (first | rw [← Ny213.out] at ho14 | (simp only [Int.reduceToNat] at ho14; rw [← Ny213.out] at ho14)); have n0_ := Aside0.mk (Kd.R_below (qR HO212) hb); have n1_ := Aside0.mk (Kd.R_lower ho14 (below_size qB)); have n2_ := Aside0.mk (blk_below (g := gb208) (o := .cells #[.slice A0_0 l0_0.length c0_0, .slice A0_1 l0_1.length c0_1] 46 (0, 0)) (qK BK208) hb); have n3_ := Aside0.mk (blk_below (g := gb209) (o := .cells #[.int .i64 0, .int .i64 0] 26 (0, 0)) (qK BK209) hb); have n4_ := Aside0.mk (below_step qB hb); clear HO212; clear BK208; clear BK209; clear HB; have HO212 := n0_; have HO215 := n1_; have BK208 := n2_; have BK209 := n3_; have HB := n4_; clear n0_ n1_ n2_ n3_ n4_; clear hb ho14; have hcz15_0 : w13.cell? ⟨gb208, 0, none⟩ = some (.slice A0_0 l0_0.length c0_0) := (blk_cell BK208.out 0).trans rfl; have hcz15_1 : w13.cell? ⟨gb208, 1, none⟩ = some (.slice A0_1 l0_1.length c0_1) := (blk_cell BK208.out 1).trans rfl; have hfz15_0 := blk_frozen BK208.out 0; have hfz15_1 := blk_frozen BK208.out 1))
     repeat (go_quiet (first | ((with_reducible refine gate_dst (N := 2) rfl ?_); refine qX (N := 2) (cs := #[.slice A0_0 l0_0.length c0_0, .slice A0_1 l0_1.length c0_1]) (t := 46) ?_; intro gb208 hg w7 hbox hb; have n0_ := Aside0.mk (below_step qB hb); have n1_ := Aside0.mk (hbox); have n2_ := Aside0.mk ((qG hg : w.heap.size ≤ gb208)); have n3_ := Aside0.mk ((qG hg : w.heap.size ≤ gb208)); clear HB; have HB := n0_; have BK208 := n1_; have GW208 := n2_; have GE208 := n3_; clear n0_ n1_ n2_ n3_; clear hb hbox hg) | ((with_reducible refine gate_dst (N := 6) rfl ?_); refine qX (N := 6) (cs := #[.int .i64 0, .int .i64 0]) (t := 26) ?_; intro gb209 hg w8 hbox hb; have n0_ := Aside0.mk (blk_below (g := gb208) (o := .cells #[.slice A0_0 l0_0.length c0_0, .slice A0_1 l0_1.length c0_1] 46 (0, 0)) (qK BK208) hb); have n1_ := Aside0.mk (below_step qB hb); have n2_ := Aside0.mk (hbox); have n3_ := Aside0.mk ((qG hg : w.heap.size ≤ gb209)); have n4_ := Aside0.mk ((qG hg : w.heap.size ≤ gb209)); have n5_ := Aside0.mk ((by rw [hg]; exact Nat.ne_of_lt (blk_lt (g := gb208) (o := .cells #[.slice A0_0 l0_0.length c0_0, .slice A0_1 l0_1.length c0_1] 46 (0, 0)) (qK BK208)) : gb208 ≠ gb209)); have n6_ := Aside0.mk ((by rw [hg]; exact Nat.ne_of_gt (blk_lt (g := gb208) (o := .cells #[.slice A0_0 l0_0.length c0_0, .slice A0_1 l0_1.length c0_1] 46 (0, 0)) (qK BK208)) : gb209 ≠ gb208)); clear BK208; clear HB; have BK208 := n0_; have HB := n1_; have BK209 := n2_; have GW209 := n3_; have GE209 := n4_; have NB208_209 := n5_; have NB209_208 := n6_; clear n0_ n1_ n2_ n3_ n4_ n5_ n6_; clear hb hbox hg) | ((with_reducible refine gate_dst (N := 18) rfl ?_); refine Kd.R_make (Kd.int .i64) _ 3 rfl (N := 18) rfl 50 _ _ rfl (l1.length : Int) rfl rfl Try.underlying50 (.int .i64 0) 8 info3 rfl (by decide) (by omega) 0 (ok := fun _ => True) (okp := fun _ => True) rfl (fun _ hk => hk) trivial (of_decide_eq_true qO) (Nat.le_trans (Nat.mul_le_mul_right _ (of_decide_eq_true qO : (l1.length : Int).toNat ≤ 35184372088832)) (by omega)) (Below.refl _ _) (Nat.le_refl _) ?_; intro v211 w9 ho10 hb hg_ hnew_; clear hg_ hnew_; (first | rw [← Ny210.out] at ho10 | (simp only [Int.reduceToNat] at ho10; rw [← Ny210.out] at ho10)); have n0_ := Aside0.mk (Kd.R_lower ho10 (below_size qB)); have n1_ := Aside0.mk (blk_below (g := gb208) (o := .cells #[.slice A0_0 l0_0.length c0_0, .slice A0_1 l0_1.length c0_1] 46 (0, 0)) (qK BK208) hb); have n2_ := Aside0.mk (blk_below (g := gb209) (o := .cells #[.int .i64 0, .int .i64 0] 26 (0, 0)) (qK BK209) hb); have n3_ := Aside0.mk (below_step qB hb); clear BK208; clear BK209; clear HB; have HO212 := n0_; have BK208 := n1_; have BK209 := n2_; have HB := n3_; clear n0_ n1_ n2_ n3_; clear hb ho10; have hnb11 := NB208_209.out; have hnc11 := NB209_208.out; have hcz12_0 : w9.cell? ⟨gb208, 0, none⟩ = some (.slice A0_0 l0_0.length c0_0) := (blk_cell BK208.out 0).trans rfl; have hcz12_1 : w9.cell? ⟨gb208, 1, none⟩ = some (.slice A0_1 l0_1.length c0_1) := (blk_cell BK208.out 1).trans rfl; have hfz12_0 := blk_frozen BK208.out 0; have hfz12_1 := blk_frozen BK208.out 1) | ((with_reducible refine gate_dst (N := 22) rfl ?_); refine Kd.R_make k58 _ 58 rfl (N := 22) rfl 51 _ _ rfl (l0_0.length : Int) rfl rfl Try.underlying51 (.agg #[(.int .i64 0), (.int .i64 0)]) 16 info58 rfl (by decide) (by omega) z58 (ok := fun _ => True) (okp := fun _ => True) (k58_mkM _ _ _ z58 ) (fun _ hk => hk) trivial (of_decide_eq_true qO) (Nat.le_trans (Nat.mul_le_mul_right _ (of_decide_eq_true qO : (l0_0.length : Int).toNat ≤ 17592186044416)) (by omega)) (Below.refl _ _) (Nat.le_refl _) ?_; intro v214 w13 ho14 hb hg_ hnew_; clear hg_ hnew_; (first | rw [← Ny213.out] at ho14 | (simp only [Int.reduceToNat] at ho14; rw [← Ny213.out] at ho14)); have n0_ := Aside0.mk (Kd.R_below (qR HO212) hb); have n1_ := Aside0.mk (Kd.R_lower ho14 (below_size qB)); have n2_ := Aside0.mk (blk_below (g := gb208) (o := .cells #[.slice A0_0 l0_0.length c0_0, .slice A0_1 l0_1.length c0_1] 46 (0, 0)) (qK BK208) hb); have n3_ := Aside0.mk (blk_below (g := gb209) (o := .cells #[.int .i64 0, .int .i64 0] 26 (0, 0)) (qK BK209) hb); have n4_ := Aside0.mk (below_step qB hb); clear HO212; clear BK208; clear BK209; clear HB; have HO212 := n0_; have HO215 := n1_; have BK208 := n2_; have BK209 := n3_; have HB := n4_; clear n0_ n1_ n2_ n3_ n4_; clear hb ho14; have hcz15_0 : w13.cell? ⟨gb208, 0, none⟩ = some (.slice A0_0 l0_0.length c0_0) := (blk_cell BK208.out 0).trans rfl; have hcz15_1 : w13.cell? ⟨gb208, 1, none⟩ = some (.slice A0_1 l0_1.length c0_1) := (blk_cell BK208.out 1).trans rfl; have hfz15_0 := blk_frozen BK208.out 0; have hfz15_1 := blk_frozen BK208.out 1)); try go_wp2_with (first | ((with_reducible refine gate_dst (N := 2) rfl ?_); refine qX (N := 2) (cs := #[.slice A0_0 l0_0.length c0_0, .slice A0_1 l0_1.length c0_1]) (t := 46) ?_; intro gb208 hg w7 hbox hb; have n0_ := Aside0.mk (below_step qB hb); have n1_ := Aside0.mk (hbox); have n2_ := Aside0.mk ((qG hg : w.heap.size ≤ gb208)); have n3_ := Aside0.mk ((qG hg : w.heap.size ≤ gb208)); clear HB; have HB := n0_; have BK208 := n1_; have GW208 := n2_; have GE208 := n3_; clear n0_ n1_ n2_ n3_; clear hb hbox hg) | ((with_reducible refine gate_dst (N := 6) rfl ?_); refine qX (N := 6) (cs := #[.int .i64 0, .int .i64 0]) (t := 26) ?_; intro gb209 hg w8 hbox hb; have n0_ := Aside0.mk (blk_below (g := gb208) (o := .cells #[.slice A0_0 l0_0.length c0_0, .slice A0_1 l0_1.length c0_1] 46 (0, 0)) (qK BK208) hb); have n1_ := Aside0.mk (below_step qB hb); have n2_ := Aside0.mk (hbox); have n3_ := Aside0.mk ((qG hg : w.heap.size ≤ gb209)); have n4_ := Aside0.mk ((qG hg : w.heap.size ≤ gb209)); have n5_ := Aside0.mk ((by rw [hg]; exact Nat.ne_of_lt (blk_lt (g := gb208) (o := .cells #[.slice A0_0 l0_0.length c0_0, .slice A0_1 l0_1.length c0_1] 46 (0, 0)) (qK BK208)) : gb208 ≠ gb209)); have n6_ := Aside0.mk ((by rw [hg]; exact Nat.ne_of_gt (blk_lt (g := gb208) (o := .cells #[.slice A0_0 l0_0.length c0_0, .slice A0_1 l0_1.length c0_1] 46 (0, 0)) (qK BK208)) : gb209 ≠ gb208)); clear BK208; clear HB; have BK208 := n0_; have HB := n1_; have BK209 := n2_; have GW209 := n3_; have GE209 := n4_; have NB208_209 := n5_; have NB209_208 := n6_; clear n0_ n1_ n2_ n3_ n4_ n5_ n6_; clear hb hbox hg) | ((with_reducible refine gate_dst (N := 18) rfl ?_); refine Kd.R_make (Kd.int .i64) _ 3 rfl (N := 18) rfl 50 _ _ rfl (l1.length : Int) rfl rfl Try.underlying50 (.int .i64 0) 8 info3 rfl (by decide) (by omega) 0 (ok := fun _ => True) (okp := fun _ => True) rfl (fun _ hk => hk) trivial (of_decide_eq_true qO) (Nat.le_trans (Nat.mul_le_mul_right _ (of_decide_eq_true qO : (l1.length : Int).toNat ≤ 35184372088832)) (by omega)) (Below.refl _ _) (Nat.le_refl _) ?_; intro v211 w9 ho10 hb hg_ hnew_; clear hg_ hnew_; (first | rw [← Ny210.out] at ho10 | (simp only [Int.reduceToNat] at ho10; rw [← Ny210.out] at ho10)); have n0_ := Aside0.mk (Kd.R_lower ho10 (below_size qB)); have n1_ := Aside0.mk (blk_below (g := gb208) (o := .cells #[.slice A0_0 l0_0.length c0_0, .slice A0_1 l0_1.length c0_1] 46 (0, 0)) (qK BK208) hb); have n2_ := Aside0.mk (blk_below (g := gb209) (o := .cells #[.int .i64 0, .int .i64 0] 26 (0, 0)) (qK BK209) hb); have n3_ := Aside0.mk (below_step qB hb); clear BK208; clear BK209; clear HB; have HO212 := n0_; have BK208 := n1_; have BK209 := n2_; have HB := n3_; clear n0_ n1_ n2_ n3_; clear hb ho10; have hnb11 := NB208_209.out; have hnc11 := NB209_208.out; have hcz12_0 : w9.cell? ⟨gb208, 0, none⟩ = some (.slice A0_0 l0_0.length c0_0) := (blk_cell BK208.out 0).trans rfl; have hcz12_1 : w9.cell? ⟨gb208, 1, none⟩ = some (.slice A0_1 l0_1.length c0_1) := (blk_cell BK208.out 1).trans rfl; have hfz12_0 := blk_frozen BK208.out 0; have hfz12_1 := blk_frozen BK208.out 1) | ((with_reducible refine gate_dst (N := 22) rfl ?_); refine Kd.R_make k58 _ 58 rfl (N := 22) rfl 51 _ _ rfl (l0_0.length : Int) rfl rfl Try.underlying51 (.agg #[(.int .i64 0), (.int .i64 0)]) 16 info58 rfl (by decide) (by omega) z58 (ok := fun _ => True) (okp := fun _ => True) (k58_mkM _ _ _ z58 ) (fun _ hk => hk) trivial (of_decide_eq_true qO) (Nat.le_trans (Nat.mul_le_mul_right _ (of_decide_eq_true qO : (l0_0.length : Int).toNat ≤ 17592186044416)) (by omega)) (Below.refl _ _) (Nat.le_refl _) ?_; intro v214 w13 ho14 hb hg_ hnew_; clear hg_ hnew_; (first | rw [← Ny213.out] at ho14 | (simp only [Int.reduceToNat] at ho14; rw [← Ny213.out] at ho14)); have n0_ := Aside0.mk (Kd.R_below (qR HO212) hb); have n1_ := Aside0.mk (Kd.R_lower ho14 (below_size qB)); have n2_ := Aside0.mk (blk_below (g := gb208) (o := .cells #[.slice A0_0 l0_0.length c0_0, .slice A0_1 l0_1.length c0_1] 46 (0, 0)) (qK BK208) hb); have n3_ := Aside0.mk (blk_below (g := gb209) (o := .cells #[.int .i64 0, .int .i64 0] 26 (0, 0)) (qK BK209) hb); have n4_ := Aside0.mk (below_step qB hb); clear HO212; clear BK208; clear BK209; clear HB; have HO212 := n0_; have HO215 := n1_; have BK208 := n2_; have BK209 := n3_; have HB := n4_; clear n0_ n1_ n2_ n3_ n4_; clear hb ho14; have hcz15_0 : w13.cell? ⟨gb208, 0, none⟩ = some (.slice A0_0 l0_0.length c0_0) := (blk_cell BK208.out 0).trans rfl; have hcz15_1 : w13.cell? ⟨gb208, 1, none⟩ = some (.slice A0_1 l0_1.length c0_1) := (blk_cell BK208.out 1).trans rfl; have hfz15_0 := blk_frozen BK208.out 0; have hfz15_1 := blk_frozen BK208.out 1)))
     go_loopg [9, 26] k (fun kq v9 v26 w' => ∃ (x7_1 : List Int) (x8_1 : List (S58)) (x9_1 : Int) (x26_1 : Int) (x210000_1 : Int) (x210001_1 : Int), v9 = .int .i64 x9_1 ∧ v26 = .int .i64 x26_1 ∧ Aside0 (place_Assign.l0 kq l1 x7_1 x8_1 x9_1 l0_0 (l0_0.length : Int) x26_1 = some (r1, r2, r3, r4)) ∧ Aside0 (kq ≤ k) ∧ Aside0 (Kd.R (Kd.int .i64) 3 w' w.heap.size (fun _ => True) v211 x7_1) ∧ Aside0 (Kd.R k58 58 w' w.heap.size (fun _ => True) v214 x8_1) ∧ Aside0 (w'.heap[gb208]? = some (.cells #[(.slice A0_0 l0_0.length c0_0), (.slice A0_1 l0_1.length c0_1)] 46 (0, 0))) ∧ Aside0 (w'.heap[gb209]? = some (.cells #[.int .i64 x210000_1, .int .i64 x210001_1] 26 (0, 0))) ∧ Aside0 (Below w.heap.size w w'))
     case atStart => exact ⟨(y210), (y213), (256), (0), (0), (0), qF, qF, H', ⟨Nat.le_refl _⟩, ⟨qR HO212⟩, ⟨qR HO215⟩, ⟨qK BK208⟩, ⟨qK BK209⟩, ⟨qB⟩⟩
     case round =>
      clear H'
      try clear c1
      try clear p2
      try clear c3
      try clear c3b0
      try clear c3b1
      try clear c4
      try clear c4b0
      try clear c4b1
      try clear c5
      try clear c5b0
      try clear c5b1
      try clear c6
      try clear c6b0
      try clear c6b1
      try clear c11
      try clear hcz12_0
      try clear hcz12_1
      try clear hcz15_0
      try clear hcz15_1
      try clear hfz12_0
      try clear hfz12_1
      try clear hfz15_0
      try clear hfz15_1
      obtain ⟨x7_1, x8_1, x9_1, x26_1, x210000_1, x210001_1, rfl, rfl, HA, HK1, HO_7, HO_8, BK208, BK209, HB⟩ := hrel
      cases gk with
      | zero => exact absurd HA.out (by simp [place_Assign.l0])
      | succ k1 =>
       have H := HA.out
       clear HA
       simp only [place_Assign.l0] at H
       by_cases c16 : x26_1 < (l0_0.length : Int)
       ·rw [if_pos c16] at H
        have c16b0 : decide (x26_1 < (l0_0.length : Int)) = true := decide_eq_true c16
        clear c16
        by_cases c17 : 0 ≤ x26_1
        ·rw [if_pos c17] at H
         have c17b0 : decide (0 ≤ x26_1) = true := decide_eq_true c17
         clear c17
         by_cases c18 : x26_1 < (l0_0.length : Int)
         ·rw [if_pos c18] at H
          have c18b0 : decide (x26_1 < (l0_0.length : Int)) = true := decide_eq_true c18
          clear c18
          have HC19 := Aside0.mk H
          clear H
          have p216 : 0 ≤ (x26_1 : Int) := of_decide_eq_true qO
          have q216 : x26_1 < (l0_0.length : Int) := of_decide_eq_true qO
          obtain ⟨ad216, e216, hx216_0, hx216_1, hx216_2, hx216_3⟩ := at_T60 HR0_0.out x26_1 p216 q216
          cases e216
          replace hx216_0 := (HB.out.cell (World.block_lt_of_cell? w _ hx216_0)).trans hx216_0
          replace hx216_1 := (HB.out.cell (World.block_lt_of_cell? w _ hx216_1)).trans hx216_1
          replace hx216_2 := (HB.out.cell (World.block_lt_of_cell? w _ hx216_2)).trans hx216_2
          replace hx216_3 := (HB.out.cell (World.block_lt_of_cell? w _ hx216_3)).trans hx216_3
          replace p216 := eq_true p216
          replace q216 := eq_true q216
          go_upto_if 34 with (first | ((with_reducible refine gate_dst (N := 11) rfl ?_); refine qX (N := 11) (cs := #[.string (⟨#[]⟩ : ByteArray), .int .i64 0, .int .i64 0, .int .i64 0]) (t := 60) ?_; intro gb217 hg w20 hbox hb; have n0_ := Aside0.mk (Kd.R_below (qR HO_7) hb); have n1_ := Aside0.mk (Kd.R_below (qR HO_8) hb); have n2_ := Aside0.mk (blk_below (g := gb208) (o := .cells #[.slice (some ad216) l0_0.length c0_0, .slice A0_1 l0_1.length c0_1] 46 (0, 0)) (qK BK208) hb); have n3_ := Aside0.mk (blk_below (g := gb209) (o := .cells #[.int .i64 x210000_1, .int .i64 x210001_1] 26 (0, 0)) (qK BK209) hb); have n4_ := Aside0.mk (below_step qB hb); have n5_ := Aside0.mk (hbox); have n6_ := Aside0.mk ((qG hg : w.heap.size ≤ gb217)); have n7_ := Aside0.mk ((qG hg : w.heap.size ≤ gb217)); have n8_ := Aside0.mk ((by rw [hg]; exact Nat.ne_of_lt (blk_lt (g := gb208) (o := .cells #[.slice (some ad216) l0_0.length c0_0, .slice A0_1 l0_1.length c0_1] 46 (0, 0)) (qK BK208)) : gb208 ≠ gb217)); have n9_ := Aside0.mk ((by rw [hg]; exact Nat.ne_of_gt (blk_lt (g := gb208) (o := .cells #[.slice (some ad216) l0_0.length c0_0, .slice A0_1 l0_1.length c0_1] 46 (0, 0)) (qK BK208)) : gb217 ≠ gb208)); have n10_ := Aside0.mk ((by rw [hg]; exact Nat.ne_of_lt (blk_lt (g := gb209) (o := .cells #[.int .i64 x210000_1, .int .i64 x210001_1] 26 (0, 0)) (qK BK209)) : gb209 ≠ gb217)); have n11_ := Aside0.mk ((by rw [hg]; exact Nat.ne_of_gt (blk_lt (g := gb209) (o := .cells #[.int .i64 x210000_1, .int .i64 x210001_1] 26 (0, 0)) (qK BK209)) : gb217 ≠ gb209)); clear HO_7; clear HO_8; clear BK208; clear BK209; clear HB; have HO_7 := n0_; have HO_8 := n1_; have BK208 := n2_; have BK209 := n3_; have HB := n4_; have BK217 := n5_; have GW217 := n6_; have GE217 := n7_; have NB208_217 := n8_; have NB217_208 := n9_; have NB209_217 := n10_; have NB217_209 := n11_; clear n0_ n1_ n2_ n3_ n4_ n5_ n6_ n7_ n8_ n9_ n10_ n11_; clear hb hbox hg; have hnb21 := NB217_208.out; have hnc21 := NB208_217.out; have hnb22 := NB217_209.out; have hnc22 := NB209_217.out; have hcz23_0 : w20.cell? ⟨gb217, 0, none⟩ = some (.string (⟨#[]⟩ : ByteArray)) := (blk_cell BK217.out 0).trans rfl; have hcz23_1 : w20.cell? ⟨gb217, 1, none⟩ = some (.int .i64 0) := (blk_cell BK217.out 1).trans rfl; have hcz23_2 : w20.cell? ⟨gb217, 2, none⟩ = some (.int .i64 0) := (blk_cell BK217.out 2).trans rfl; have hcz23_3 : w20.cell? ⟨gb217, 3, none⟩ = some (.int .i64 0) := (blk_cell BK217.out 3).trans rfl; have hfz23_0 := blk_frozen BK217.out 0; have hfz23_1 := blk_frozen BK217.out 1; have hfz23_2 := blk_frozen BK217.out 2; have hfz23_3 := blk_frozen BK217.out 3))
          repeat (go_quiet (first | ((with_reducible refine gate_dst (N := 11) rfl ?_); refine qX (N := 11) (cs := #[.string (⟨#[]⟩ : ByteArray), .int .i64 0, .int .i64 0, .int .i64 0]) (t := 60) ?_; intro gb217 hg w20 hbox hb; have n0_ := Aside0.mk (Kd.R_below (qR HO_7) hb); have n1_ := Aside0.mk (Kd.R_below (qR HO_8) hb); have n2_ := Aside0.mk (blk_below (g := gb208) (o := .cells #[.slice (some ad216) l0_0.length c0_0, .slice A0_1 l0_1.length c0_1] 46 (0, 0)) (qK BK208) hb); have n3_ := Aside0.mk (blk_below (g := gb209) (o := .cells #[.int .i64 x210000_1, .int .i64 x210001_1] 26 (0, 0)) (qK BK209) hb); have n4_ := Aside0.mk (below_step qB hb); have n5_ := Aside0.mk (hbox); have n6_ := Aside0.mk ((qG hg : w.heap.size ≤ gb217)); have n7_ := Aside0.mk ((qG hg : w.heap.size ≤ gb217)); have n8_ := Aside0.mk ((by rw [hg]; exact Nat.ne_of_lt (blk_lt (g := gb208) (o := .cells #[.slice (some ad216) l0_0.length c0_0, .slice A0_1 l0_1.length c0_1] 46 (0, 0)) (qK BK208)) : gb208 ≠ gb217)); have n9_ := Aside0.mk ((by rw [hg]; exact Nat.ne_of_gt (blk_lt (g := gb208) (o := .cells #[.slice (some ad216) l0_0.length c0_0, .slice A0_1 l0_1.length c0_1] 46 (0, 0)) (qK BK208)) : gb217 ≠ gb208)); have n10_ := Aside0.mk ((by rw [hg]; exact Nat.ne_of_lt (blk_lt (g := gb209) (o := .cells #[.int .i64 x210000_1, .int .i64 x210001_1] 26 (0, 0)) (qK BK209)) : gb209 ≠ gb217)); have n11_ := Aside0.mk ((by rw [hg]; exact Nat.ne_of_gt (blk_lt (g := gb209) (o := .cells #[.int .i64 x210000_1, .int .i64 x210001_1] 26 (0, 0)) (qK BK209)) : gb217 ≠ gb209)); clear HO_7; clear HO_8; clear BK208; clear BK209; clear HB; have HO_7 := n0_; have HO_8 := n1_; have BK208 := n2_; have BK209 := n3_; have HB := n4_; have BK217 := n5_; have GW217 := n6_; have GE217 := n7_; have NB208_217 := n8_; have NB217_208 := n9_; have NB209_217 := n10_; have NB217_209 := n11_; clear n0_ n1_ n2_ n3_ n4_ n5_ n6_ n7_ n8_ n9_ n10_ n11_; clear hb hbox hg; have hnb21 := NB217_208.out; have hnc21 := NB208_217.out; have hnb22 := NB217_209.out; have hnc22 := NB209_217.out; have hcz23_0 : w20.cell? ⟨gb217, 0, none⟩ = some (.string (⟨#[]⟩ : ByteArray)) := (blk_cell BK217.out 0).trans rfl; have hcz23_1 : w20.cell? ⟨gb217, 1, none⟩ = some (.int .i64 0) := (blk_cell BK217.out 1).trans rfl; have hcz23_2 : w20.cell? ⟨gb217, 2, none⟩ = some (.int .i64 0) := (blk_cell BK217.out 2).trans rfl; have hcz23_3 : w20.cell? ⟨gb217, 3, none⟩ = some (.int .i64 0) := (blk_cell BK217.out 3).trans rfl; have hfz23_0 := blk_frozen BK217.out 0; have hfz23_1 := blk_frozen BK217.out 1; have hfz23_2 := blk_frozen BK217.out 2; have hfz23_3 := blk_frozen BK217.out 3)); go_upto_if 34 with (first | ((with_reducible refine gate_dst (N := 11) rfl ?_); refine qX (N := 11) (cs := #[.string (⟨#[]⟩ : ByteArray), .int .i64 0, .int .i64 0, .int .i64 0]) (t := 60) ?_; intro gb217 hg w20 hbox hb; have n0_ := Aside0.mk (Kd.R_below (qR HO_7) hb); have n1_ := Aside0.mk (Kd.R_below (qR HO_8) hb); have n2_ := Aside0.mk (blk_below (g := gb208) (o := .cells #[.slice (some ad216) l0_0.length c0_0, .slice A0_1 l0_1.length c0_1] 46 (0, 0)) (qK BK208) hb); have n3_ := Aside0.mk (blk_below (g := gb209) (o := .cells #[.int .i64 x210000_1, .int .i64 x210001_1] 26 (0, 0)) (qK BK209) hb); have n4_ := Aside0.mk (below_step qB hb); have n5_ := Aside0.mk (hbox); have n6_ := Aside0.mk ((qG hg : w.heap.size ≤ gb217)); have n7_ := Aside0.mk ((qG hg : w.heap.size ≤ gb217)); have n8_ := Aside0.mk ((by rw [hg]; exact Nat.ne_of_lt (blk_lt (g := gb208) (o := .cells #[.slice (some ad216) l0_0.length c0_0, .slice A0_1 l0_1.length c0_1] 46 (0, 0)) (qK BK208)) : gb208 ≠ gb217)); have n9_ := Aside0.mk ((by rw [hg]; exact Nat.ne_of_gt (blk_lt (g := gb208) (o := .cells #[.slice (some ad216) l0_0.length c0_0, .slice A0_1 l0_1.length c0_1] 46 (0, 0)) (qK BK208)) : gb217 ≠ gb208)); have n10_ := Aside0.mk ((by rw [hg]; exact Nat.ne_of_lt (blk_lt (g := gb209) (o := .cells #[.int .i64 x210000_1, .int .i64 x210001_1] 26 (0, 0)) (qK BK209)) : gb209 ≠ gb217)); have n11_ := Aside0.mk ((by rw [hg]; exact Nat.ne_of_gt (blk_lt (g := gb209) (o := .cells #[.int .i64 x210000_1, .int .i64 x210001_1] 26 (0, 0)) (qK BK209)) : gb217 ≠ gb209)); clear HO_7; clear HO_8; clear BK208; clear BK209; clear HB; have HO_7 := n0_; have HO_8 := n1_; have BK208 := n2_; have BK209 := n3_; have HB := n4_; have BK217 := n5_; have GW217 := n6_; have GE217 := n7_; have NB208_217 := n8_; have NB217_208 := n9_; have NB209_217 := n10_; have NB217_209 := n11_; clear n0_ n1_ n2_ n3_ n4_ n5_ n6_ n7_ n8_ n9_ n10_ n11_; clear hb hbox hg; have hnb21 := NB217_208.out; have hnc21 := NB208_217.out; have hnb22 := NB217_209.out; have hnc22 := NB209_217.out; have hcz23_0 : w20.cell? ⟨gb217, 0, none⟩ = some (.string (⟨#[]⟩ : ByteArray)) := (blk_cell BK217.out 0).trans rfl; have hcz23_1 : w20.cell? ⟨gb217, 1, none⟩ = some (.int .i64 0) := (blk_cell BK217.out 1).trans rfl; have hcz23_2 : w20.cell? ⟨gb217, 2, none⟩ = some (.int .i64 0) := (blk_cell BK217.out 2).trans rfl; have hcz23_3 : w20.cell? ⟨gb217, 3, none⟩ = some (.int .i64 0) := (blk_cell BK217.out 3).trans rfl; have hfz23_0 := blk_frozen BK217.out 0; have hfz23_1 := blk_frozen BK217.out 1; have hfz23_2 := blk_frozen BK217.out 2; have hfz23_3 := blk_frozen BK217.out 3)))
          (try simp only [Act.put, List.setIfInBounds_toArray, List.set_cons_zero, List.set_cons_succ])
          go_cut [12] (fun v12 wc => ∃ (kq : Nat) (x12_18 : Int), v12 = .int .i64 x12_18 ∧ Aside0 (place_Assign.j1 kq l1 x7_1 x8_1 x9_1 x26_1 x12_18 l0_0 (l0_0.length : Int) x26_1 ((rd_T60 l0_0 x26_1).f0) ((rd_T60 l0_0 x26_1).f1) ((rd_T60 l0_0 x26_1).f2) ((rd_T60 l0_0 x26_1).f3) = some (r1, r2, r3, r4)) ∧ Aside0 (kq ≤ k1) ∧ Aside0 (Kd.R (Kd.int .i64) 3 wc w.heap.size (fun _ => True) v211 x7_1) ∧ Aside0 (Kd.R k58 58 wc w.heap.size (fun _ => True) v214 x8_1) ∧ Aside0 (wc.heap[gb208]? = some (.cells #[(.slice (some ad216) l0_0.length c0_0), (.slice A0_1 l0_1.length c0_1)] 46 (0, 0))) ∧ Aside0 (wc.heap[gb209]? = some (.cells #[.int .i64 x210000_1, .int .i64 x210001_1] 26 (0, 0))) ∧ Aside0 (wc.heap[gb217]? = some (.cells #[.string ((rd_T60 l0_0 x26_1).f0), .int .i64 ((rd_T60 l0_0 x26_1).f1), .int .i64 ((rd_T60 l0_0 x26_1).f2), .int .i64 ((rd_T60 l0_0 x26_1).f3)] 60 (0, 0))) ∧ Aside0 (Below w.heap.size w wc))
          case first =>
           have H := HC19.out
           clear HC19
           by_cases c24 : ((rd_T60 l0_0 x26_1).f1) < 0
           ·rw [if_pos c24] at H
            have c24b0 : decide (((rd_T60 l0_0 x26_1).f1) < 0) = true := decide_eq_true c24
            clear c24
            (first | rw [c24b0] | (simp only [i64_w, i32_w]; rw [c24b0]) | skip)
            replace H := Option.bind_eq_some_iff.mp H
            obtain ⟨t218, A250, H⟩ := H
            replace H : ((thread_Up.f t218 ((rd_T60 l0_0 x26_1).f2)).bind fun t219 => (place_Assign.j1 k1 l1 x7_1 x8_1 x9_1 x26_1 t219 l0_0 (l0_0.length : Int) x26_1 ((rd_T60 l0_0 x26_1).f0) ((rd_T60 l0_0 x26_1).f1) ((rd_T60 l0_0 x26_1).f2) ((rd_T60 l0_0 x26_1).f3))) = some (r1, r2, r3, r4) := H
            have A25 := Aside0.mk A250
            clear A250
            replace H := Option.bind_eq_some_iff.mp H
            obtain ⟨t219, A260, H⟩ := H
            replace H : (place_Assign.j1 k1 l1 x7_1 x8_1 x9_1 x26_1 t219 l0_0 (l0_0.length : Int) x26_1 ((rd_T60 l0_0 x26_1).f0) ((rd_T60 l0_0 x26_1).f1) ((rd_T60 l0_0 x26_1).f2) ((rd_T60 l0_0 x26_1).f3)) = some (r1, r2, r3, r4) := H
            have A26 := Aside0.mk A260
            clear A260
            have H' := Aside0.mk H
            clear H
            go_wp2_with (first | (go_at_call 45; (with_reducible refine (thread_Up.calls x9_1 256 t218 _ A25.out).mono ?_); rintro e w' ⟨rfl, ⟨nd, rfl⟩⟩; (try exact qD); have hnb27 := NB217_208.out; have hnc27 := NB208_217.out; have hnb28 := NB217_209.out; have hnc28 := NB209_217.out; have hcz29_0 : w20.cell? ⟨gb217, 0, none⟩ = some (.string (⟨#[]⟩ : ByteArray)) := (blk_cell BK217.out 0).trans rfl; have hcz29_1 : w20.cell? ⟨gb217, 1, none⟩ = some (.int .i64 0) := (blk_cell BK217.out 1).trans rfl; have hcz29_2 : w20.cell? ⟨gb217, 2, none⟩ = some (.int .i64 0) := (blk_cell BK217.out 2).trans rfl; have hcz29_3 : w20.cell? ⟨gb217, 3, none⟩ = some (.int .i64 0) := (blk_cell BK217.out 3).trans rfl; have hfz29_0 := blk_frozen BK217.out 0; have hfz29_1 := blk_frozen BK217.out 1; have hfz29_2 := blk_frozen BK217.out 2; have hfz29_3 := blk_frozen BK217.out 3) | (go_at_call 45; (with_reducible refine (thread_Up.calls t218 ((rd_T60 l0_0 x26_1).f2) t219 _ A26.out).mono ?_); rintro e w' ⟨rfl, ⟨nd, rfl⟩⟩; (try exact qD)))
            repeat (go_quiet (first | (go_at_call 45; (with_reducible refine (thread_Up.calls x9_1 256 t218 _ A25.out).mono ?_); rintro e w' ⟨rfl, ⟨nd, rfl⟩⟩; (try exact qD); have hnb27 := NB217_208.out; have hnc27 := NB208_217.out; have hnb28 := NB217_209.out; have hnc28 := NB209_217.out; have hcz29_0 : w20.cell? ⟨gb217, 0, none⟩ = some (.string (⟨#[]⟩ : ByteArray)) := (blk_cell BK217.out 0).trans rfl; have hcz29_1 : w20.cell? ⟨gb217, 1, none⟩ = some (.int .i64 0) := (blk_cell BK217.out 1).trans rfl; have hcz29_2 : w20.cell? ⟨gb217, 2, none⟩ = some (.int .i64 0) := (blk_cell BK217.out 2).trans rfl; have hcz29_3 : w20.cell? ⟨gb217, 3, none⟩ = some (.int .i64 0) := (blk_cell BK217.out 3).trans rfl; have hfz29_0 := blk_frozen BK217.out 0; have hfz29_1 := blk_frozen BK217.out 1; have hfz29_2 := blk_frozen BK217.out 2; have hfz29_3 := blk_frozen BK217.out 3) | (go_at_call 45; (with_reducible refine (thread_Up.calls t218 ((rd_T60 l0_0 x26_1).f2) t219 _ A26.out).mono ?_); rintro e w' ⟨rfl, ⟨nd, rfl⟩⟩; (try exact qD))); try go_wp2_with (first | (go_at_call 45; (with_reducible refine (thread_Up.calls x9_1 256 t218 _ A25.out).mono ?_); rintro e w' ⟨rfl, ⟨nd, rfl⟩⟩; (try exact qD); have hnb27 := NB217_208.out; have hnc27 := NB208_217.out; have hnb28 := NB217_209.out; have hnc28 := NB209_217.out; have hcz29_0 : w20.cell? ⟨gb217, 0, none⟩ = some (.string (⟨#[]⟩ : ByteArray)) := (blk_cell BK217.out 0).trans rfl; have hcz29_1 : w20.cell? ⟨gb217, 1, none⟩ = some (.int .i64 0) := (blk_cell BK217.out 1).trans rfl; have hcz29_2 : w20.cell? ⟨gb217, 2, none⟩ = some (.int .i64 0) := (blk_cell BK217.out 2).trans rfl; have hcz29_3 : w20.cell? ⟨gb217, 3, none⟩ = some (.int .i64 0) := (blk_cell BK217.out 3).trans rfl; have hfz29_0 := blk_frozen BK217.out 0; have hfz29_1 := blk_frozen BK217.out 1; have hfz29_2 := blk_frozen BK217.out 2; have hfz29_3 := blk_frozen BK217.out 3) | (go_at_call 45; (with_reducible refine (thread_Up.calls t218 ((rd_T60 l0_0 x26_1).f2) t219 _ A26.out).mono ?_); rintro e w' ⟨rfl, ⟨nd, rfl⟩⟩; (try exact qD))))
            go_meet
            case rel => exact ⟨_, (t219), qF, H', ⟨by have := HK1.out; first | omega | exact Nat.le_refl _⟩, ⟨by (with_reducible repeat (first | apply Kd.R_alloc | apply Kd.R_drewN | apply Kd.R_drew)); exact Kd.R_mono (Kd.R_far (p := ⟨gb217, 3, none⟩) (Kd.R_far (p := ⟨gb217, 2, none⟩) (Kd.R_far (p := ⟨gb217, 1, none⟩) (Kd.R_far (p := ⟨gb217, 0, none⟩) (Kd.R_types HO_7.out BK217.out (by decide)) (fun _ hk => hk.2) (.string ((rd_T60 l0_0 x26_1).f0))) (fun _ hk => hk.2) (.int .i64 ((rd_T60 l0_0 x26_1).f1))) (fun _ hk => hk.2) (.int .i64 ((rd_T60 l0_0 x26_1).f2))) (fun _ hk => hk.2) (.int .i64 ((rd_T60 l0_0 x26_1).f3))) (fun _ hk => trivial)⟩, ⟨by (with_reducible repeat (first | apply Kd.R_alloc | apply Kd.R_drewN | apply Kd.R_drew)); exact Kd.R_mono (Kd.R_far (p := ⟨gb217, 3, none⟩) (Kd.R_far (p := ⟨gb217, 2, none⟩) (Kd.R_far (p := ⟨gb217, 1, none⟩) (Kd.R_far (p := ⟨gb217, 0, none⟩) (Kd.R_types HO_8.out BK217.out (by decide)) (fun _ hk => hk.2) (.string ((rd_T60 l0_0 x26_1).f0))) (fun _ hk => hk.2) (.int .i64 ((rd_T60 l0_0 x26_1).f1))) (fun _ hk => hk.2) (.int .i64 ((rd_T60 l0_0 x26_1).f2))) (fun _ hk => hk.2) (.int .i64 ((rd_T60 l0_0 x26_1).f3))) (fun _ hk => trivial)⟩, ⟨by (with_reducible repeat (first | refine blk_drewN ?_ _ | refine blk_drew ?_ | refine blk_alloc ?_ _)); refine blk_far ?_ NB208_217.out _; (with_reducible repeat (first | refine blk_drewN ?_ _ | refine blk_drew ?_ | refine blk_alloc ?_ _)); refine blk_far ?_ NB208_217.out _; (with_reducible repeat (first | refine blk_drewN ?_ _ | refine blk_drew ?_ | refine blk_alloc ?_ _)); refine blk_far ?_ NB208_217.out _; (with_reducible repeat (first | refine blk_drewN ?_ _ | refine blk_drew ?_ | refine blk_alloc ?_ _)); refine blk_far ?_ NB208_217.out _; exact qK BK208⟩, ⟨by (with_reducible repeat (first | refine blk_drewN ?_ _ | refine blk_drew ?_ | refine blk_alloc ?_ _)); refine blk_far ?_ NB209_217.out _; (with_reducible repeat (first | refine blk_drewN ?_ _ | refine blk_drew ?_ | refine blk_alloc ?_ _)); refine blk_far ?_ NB209_217.out _; (with_reducible repeat (first | refine blk_drewN ?_ _ | refine blk_drew ?_ | refine blk_alloc ?_ _)); refine blk_far ?_ NB209_217.out _; (with_reducible repeat (first | refine blk_drewN ?_ _ | refine blk_drew ?_ | refine blk_alloc ?_ _)); refine blk_far ?_ NB209_217.out _; exact qK BK209⟩, ⟨by (with_reducible repeat (first | refine blk_drewN ?_ _ | refine blk_drew ?_ | refine blk_alloc ?_ _)); refine blk_put (cs := #[.string ((rd_T60 l0_0 x26_1).f0), .int .i64 ((rd_T60 l0_0 x26_1).f1), .int .i64 ((rd_T60 l0_0 x26_1).f2), .int .i64 0]) ?_ 3 _ rfl; (with_reducible repeat (first | refine blk_drewN ?_ _ | refine blk_drew ?_ | refine blk_alloc ?_ _)); refine blk_put (cs := #[.string ((rd_T60 l0_0 x26_1).f0), .int .i64 ((rd_T60 l0_0 x26_1).f1), .int .i64 0, .int .i64 0]) ?_ 2 _ rfl; (with_reducible repeat (first | refine blk_drewN ?_ _ | refine blk_drew ?_ | refine blk_alloc ?_ _)); refine blk_put (cs := #[.string ((rd_T60 l0_0 x26_1).f0), .int .i64 0, .int .i64 0, .int .i64 0]) ?_ 1 _ rfl; (with_reducible repeat (first | refine blk_drewN ?_ _ | refine blk_drew ?_ | refine blk_alloc ?_ _)); refine blk_put (cs := #[.string (⟨#[]⟩ : ByteArray), .int .i64 0, .int .i64 0, .int .i64 0]) ?_ 0 _ rfl; exact qK BK217⟩, ⟨qB⟩⟩
           ·rw [if_neg c24] at H
            have c24b0 : decide (((rd_T60 l0_0 x26_1).f1) < 0) = false := decide_eq_false c24
            clear c24
            (first | rw [c24b0] | (simp only [i64_w, i32_w]; rw [c24b0]) | skip)
            have H' := Aside0.mk H
            clear H
            go_wp2
            repeat (go_quiet (fail); try go_wp2)
            go_meet
            case rel => exact ⟨_, ((rd_T60 l0_0 x26_1).f1), qF, H', ⟨by have := HK1.out; first | omega | exact Nat.le_refl _⟩, ⟨by (with_reducible repeat (first | apply Kd.R_alloc | apply Kd.R_drewN | apply Kd.R_drew)); exact Kd.R_mono (Kd.R_far (p := ⟨gb217, 3, none⟩) (Kd.R_far (p := ⟨gb217, 2, none⟩) (Kd.R_far (p := ⟨gb217, 1, none⟩) (Kd.R_far (p := ⟨gb217, 0, none⟩) (Kd.R_types HO_7.out BK217.out (by decide)) (fun _ hk => hk.2) (.string ((rd_T60 l0_0 x26_1).f0))) (fun _ hk => hk.2) (.int .i64 ((rd_T60 l0_0 x26_1).f1))) (fun _ hk => hk.2) (.int .i64 ((rd_T60 l0_0 x26_1).f2))) (fun _ hk => hk.2) (.int .i64 ((rd_T60 l0_0 x26_1).f3))) (fun _ hk => trivial)⟩, ⟨by (with_reducible repeat (first | apply Kd.R_alloc | apply Kd.R_drewN | apply Kd.R_drew)); exact Kd.R_mono (Kd.R_far (p := ⟨gb217, 3, none⟩) (Kd.R_far (p := ⟨gb217, 2, none⟩) (Kd.R_far (p := ⟨gb217, 1, none⟩) (Kd.R_far (p := ⟨gb217, 0, none⟩) (Kd.R_types HO_8.out BK217.out (by decide)) (fun _ hk => hk.2) (.string ((rd_T60 l0_0 x26_1).f0))) (fun _ hk => hk.2) (.int .i64 ((rd_T60 l0_0 x26_1).f1))) (fun _ hk => hk.2) (.int .i64 ((rd_T60 l0_0 x26_1).f2))) (fun _ hk => hk.2) (.int .i64 ((rd_T60 l0_0 x26_1).f3))) (fun _ hk => trivial)⟩, ⟨by (with_reducible repeat (first | refine blk_drewN ?_ _ | refine blk_drew ?_ | refine blk_alloc ?_ _)); refine blk_far ?_ NB208_217.out _; (with_reducible repeat (first | refine blk_drewN ?_ _ | refine blk_drew ?_ | refine blk_alloc ?_ _)); refine blk_far ?_ NB208_217.out _; (with_reducible repeat (first | refine blk_drewN ?_ _ | refine blk_drew ?_ | refine blk_alloc ?_ _)); refine blk_far ?_ NB208_217.out _; (with_reducible repeat (first | refine blk_drewN ?_ _ | refine blk_drew ?_ | refine blk_alloc ?_ _)); refine blk_far ?_ NB208_217.out _; exact qK BK208⟩, ⟨by (with_reducible repeat (first | refine blk_drewN ?_ _ | refine blk_drew ?_ | refine blk_alloc ?_ _)); refine blk_far ?_ NB209_217.out _; (with_reducible repeat (first | refine blk_drewN ?_ _ | refine blk_drew ?_ | refine blk_alloc ?_ _)); refine blk_far ?_ NB209_217.out _; (with_reducible repeat (first | refine blk_drewN ?_ _ | refine blk_drew ?_ | refine blk_alloc ?_ _)); refine blk_far ?_ NB209_217.out _; (with_reducible repeat (first | refine blk_drewN ?_ _ | refine blk_drew ?_ | refine blk_alloc ?_ _)); refine blk_far ?_ NB209_217.out _; exact qK BK209⟩, ⟨by (with_reducible repeat (first | refine blk_drewN ?_ _ | refine blk_drew ?_ | refine blk_alloc ?_ _)); refine blk_put (cs := #[.string ((rd_T60 l0_0 x26_1).f0), .int .i64 ((rd_T60 l0_0 x26_1).f1), .int .i64 ((rd_T60 l0_0 x26_1).f2), .int .i64 0]) ?_ 3 _ rfl; (with_reducible repeat (first | refine blk_drewN ?_ _ | refine blk_drew ?_ | refine blk_alloc ?_ _)); refine blk_put (cs := #[.string ((rd_T60 l0_0 x26_1).f0), .int .i64 ((rd_T60 l0_0 x26_1).f1), .int .i64 0, .int .i64 0]) ?_ 2 _ rfl; (with_reducible repeat (first | refine blk_drewN ?_ _ | refine blk_drew ?_ | refine blk_alloc ?_ _)); refine blk_put (cs := #[.string ((rd_T60 l0_0 x26_1).f0), .int .i64 0, .int .i64 0, .int .i64 0]) ?_ 1 _ rfl; (with_reducible repeat (first | refine blk_drewN ?_ _ | refine blk_drew ?_ | refine blk_alloc ?_ _)); refine blk_put (cs := #[.string (⟨#[]⟩ : ByteArray), .int .i64 0, .int .i64 0, .int .i64 0]) ?_ 0 _ rfl; exact qK BK217⟩, ⟨qB⟩⟩
          case rest =>
           clear HC19
           try clear c1
           try clear c2
           try clear p2
           try clear q2
           try clear hx2
           try clear c3
           try clear c3b0
           try clear c3b1
           try clear c4
           try clear c4b0
           try clear c4b1
           try clear c5
           try clear c5b0
           try clear c5b1
           try clear c6
           try clear c6b0
           try clear c6b1
           try clear c11
           try clear c16
           try clear c16b0
           try clear c17
           try clear c17b0
           try clear c18
           try clear c18b0
           try clear c21
           try clear p21
           try clear q21
           try clear hx21
           try clear c22
           try clear c24
           try clear c24b0
           try clear c27
           try clear c28
           try clear hcz12_0
           try clear hcz12_1
           try clear hcz15_0
           try clear hcz15_1
           try clear hcz23_0
           try clear hcz23_1
           try clear hcz23_2
           try clear hcz23_3
           try clear hcz29_0
           try clear hcz29_1
           try clear hcz29_2
           try clear hcz29_3
           try clear hfz12_0
           try clear hfz12_1
           try clear hfz15_0
           try clear hfz15_1
           try clear hfz23_0
           try clear hfz23_1
           try clear hfz23_2
           try clear hfz23_3
           try clear hfz29_0
           try clear hfz29_1
           try clear hfz29_2
           try clear hfz29_3
           try clear hx216_0
           try clear hx216_1
           try clear hx216_2
           try clear hx216_3
           try clear p2
           try clear p216
           try clear q216
           obtain ⟨kq, x12_18, rfl, HA, HJ18, HO_7, HO_8, BK208, BK209, BK217, HB⟩ := hcut
           cases kq with
           | zero => exact absurd HA.out (by simp [place_Assign.j1])
           | succ kj18 =>
            have H := HA.out
            clear HA
            simp only [place_Assign.j1] at H
            have HC30 := Aside0.mk H
            clear H
            go_upto_region 10 with (fail)
            repeat (go_quiet (fail); go_upto_region 10 with (fail))
            go_cut [49] (fun v49 wc => ∃ (kq : Nat) (x49_29 : Bool), v49 = .bool x49_29 ∧ Aside0 (place_Assign.j2 kq l1 x7_1 x8_1 x26_1 x12_18 l0_0 (l0_0.length : Int) x26_1 x49_29 = some (r1, r2, r3, r4)) ∧ Aside0 (kq ≤ kj18) ∧ Aside0 (Kd.R (Kd.int .i64) 3 wc w.heap.size (fun _ => True) v211 x7_1) ∧ Aside0 (Kd.R k58 58 wc w.heap.size (fun _ => True) v214 x8_1) ∧ Aside0 (wc.heap[gb208]? = some (.cells #[(.slice (some ad216) l0_0.length c0_0), (.slice A0_1 l0_1.length c0_1)] 46 (0, 0))) ∧ Aside0 (wc.heap[gb209]? = some (.cells #[.int .i64 x210000_1, .int .i64 x210001_1] 26 (0, 0))) ∧ Aside0 (wc.heap[gb217]? = some (.cells #[.string ((rd_T60 l0_0 x26_1).f0), .int .i64 ((rd_T60 l0_0 x26_1).f1), .int .i64 ((rd_T60 l0_0 x26_1).f2), .int .i64 ((rd_T60 l0_0 x26_1).f3)] 60 (0, 0))) ∧ Aside0 (Below w.heap.size w wc))
            case first =>
             have H := HC30.out
             clear HC30
             by_cases c31 : x12_18 < x9_1
             ·rw [if_pos c31] at H
              have c31b0 : decide (x12_18 < x9_1) = true := decide_eq_true c31
              clear c31
              (first | rw [c31b0] | (simp only [i64_w, i32_w]; rw [c31b0]) | skip)
              have H' := Aside0.mk H
              clear H
              go_wp2
              repeat (go_quiet (fail); try go_wp2)
              go_meet
              case rel => exact ⟨_, (true), qF, H', ⟨by have := HK1.out; have := HJ18.out; first | omega | exact Nat.le_refl _⟩, ⟨qR HO_7⟩, ⟨qR HO_8⟩, ⟨qK BK208⟩, ⟨qK BK209⟩, ⟨qK BK217⟩, ⟨qB⟩⟩
             ·rw [if_neg c31] at H
              have c31b0 : decide (x12_18 < x9_1) = false := decide_eq_false c31
              clear c31
              (first | rw [c31b0] | (simp only [i64_w, i32_w]; rw [c31b0]) | skip)
              by_cases c32 : ((rd_T60 l0_0 x26_1).f2) = 0
              ·rw [if_pos c32] at H
               exact absurd H (by simp)
              ·rw [if_neg c32] at H
               have c32b0 : (((rd_T60 l0_0 x26_1).f2) == 0) = false := beq_eq_false_iff_ne.mpr c32
               have c32b1 : (((rd_T60 l0_0 x26_1).f2) != 0) = true := bne_iff_ne.mpr c32
               have H' := Aside0.mk H
               clear H
               have hnb33 := NB217_208.out
               have hnc33 := NB208_217.out
               have hnb34 := NB217_209.out
               have hnc34 := NB209_217.out
               have hcz35_0 : wc.cell? ⟨gb217, 0, none⟩ = some (.string ((rd_T60 l0_0 x26_1).f0)) := (blk_cell BK217.out 0).trans rfl
               have hcz35_1 : wc.cell? ⟨gb217, 1, none⟩ = some (.int .i64 ((rd_T60 l0_0 x26_1).f1)) := (blk_cell BK217.out 1).trans rfl
               have hcz35_2 : wc.cell? ⟨gb217, 2, none⟩ = some (.int .i64 ((rd_T60 l0_0 x26_1).f2)) := (blk_cell BK217.out 2).trans rfl
               have hcz35_3 : wc.cell? ⟨gb217, 3, none⟩ = some (.int .i64 ((rd_T60 l0_0 x26_1).f3)) := (blk_cell BK217.out 3).trans rfl
               have hfz35_0 := blk_frozen BK217.out 0
               have hfz35_1 := blk_frozen BK217.out 1
               have hfz35_2 := blk_frozen BK217.out 2
               have hfz35_3 := blk_frozen BK217.out 3
               go_wp2
               repeat (go_quiet (fail); try go_wp2)
               go_meet
               case rel => exact ⟨_, (((Int.tmod x12_18 ((rd_T60 l0_0 x26_1).f2)) != 0)), qF, H', ⟨by have := HK1.out; have := HJ18.out; first | omega | exact Nat.le_refl _⟩, ⟨qR HO_7⟩, ⟨qR HO_8⟩, ⟨qK BK208⟩, ⟨qK BK209⟩, ⟨qK BK217⟩, ⟨qB⟩⟩
            case rest =>
             clear HC30
             try clear c1
             try clear c2
             try clear p2
             try clear q2
             try clear hx2
             try clear c3
             try clear c3b0
             try clear c3b1
             try clear c4
             try clear c4b0
             try clear c4b1
             try clear c5
             try clear c5b0
             try clear c5b1
             try clear c6
             try clear c6b0
             try clear c6b1
             try clear c11
             try clear c16
             try clear c16b0
             try clear c17
             try clear c17b0
             try clear c18
             try clear c18b0
             try clear c21
             try clear p21
             try clear q21
             try clear hx21
             try clear c22
             try clear c24
             try clear c24b0
             try clear c27
             try clear c28
             try clear c31
             try clear c31b0
             try clear c32
             try clear c32b0
             try clear c32b1
             try clear c33
             try clear c34
             try clear hcz12_0
             try clear hcz12_1
             try clear hcz15_0
             try clear hcz15_1
             try clear hcz23_0
             try clear hcz23_1
             try clear hcz23_2
             try clear hcz23_3
             try clear hcz29_0
             try clear hcz29_1
             try clear hcz29_2
             try clear hcz29_3
             try clear hcz35_0
             try clear hcz35_1
             try clear hcz35_2
             try clear hcz35_3
             try clear hfz12_0
             try clear hfz12_1
             try clear hfz15_0
             try clear hfz15_1
             try clear hfz23_0
             try clear hfz23_1
             try clear hfz23_2
             try clear hfz23_3
             try clear hfz29_0
             try clear hfz29_1
             try clear hfz29_2
             try clear hfz29_3
             try clear hfz35_0
             try clear hfz35_1
             try clear hfz35_2
             try clear hfz35_3
             try clear hx216_0
             try clear hx216_1
             try clear hx216_2
             try clear hx216_3
             try clear p2
             try clear p21
             try clear p216
             try clear q2
             try clear q21
             try clear q216
             obtain ⟨kq, x49_29, rfl, HA, HJ29, HO_7, HO_8, BK208, BK209, BK217, HB⟩ := hcut
             cases kq with
             | zero => exact absurd HA.out (by simp [place_Assign.j2])
             | succ kj29 =>
              have H := HA.out
              clear HA
              simp only [place_Assign.j2] at H
              by_cases c36 : x49_29 = true
              ·subst c36
               have H1 : (some (([] : List Int), ([] : List (S58)), 13, x26_1)) = some (r1, r2, r3, r4) := by rw [if_pos rfl] at H; exact H
               clear H
               have H := H1
               clear H1
               simp only [Option.some.injEq, Prod.mk.injEq] at H
               obtain ⟨rfl, rfl, rfl, rfl⟩ := H
               have hnb37 := NB209_208.out
               have hnc37 := NB208_209.out
               have hnb38 := NB209_217.out
               have hnc38 := NB217_209.out
               have hcz39_0 : wc.cell? ⟨gb209, 0, none⟩ = some (.int .i64 x210000_1) := (blk_cell BK209.out 0).trans rfl
               have hcz39_1 : wc.cell? ⟨gb209, 1, none⟩ = some (.int .i64 x210001_1) := (blk_cell BK209.out 1).trans rfl
               have hfz39_0 := blk_frozen BK209.out 0
               have hfz39_1 := blk_frozen BK209.out 1
               go_wp2
               repeat (go_quiet (fail); try go_wp2)
               refine bodyPost_ret (results_list (rs := [.tmp 4, .tmp 5, .cell 6 26]) rfl (by simp) (.tmp (.tmp (.cell gb209 26 #[.int .i64 13, .int .i64 x26_1] (0, 0) _ rfl (by (with_reducible repeat (first | refine blk_drewN ?_ _ | refine blk_drew ?_ | refine blk_alloc ?_ _)); refine blk_put (cs := #[.int .i64 13, .int .i64 x210001_1]) ?_ 1 _ rfl; (with_reducible repeat (first | refine blk_drewN ?_ _ | refine blk_drew ?_ | refine blk_alloc ?_ _)); refine blk_put (cs := #[.int .i64 x210000_1, .int .i64 x210001_1]) ?_ 0 _ rfl; exact qK BK209) Try.underlying26 rfl (by kernel_rfl) .nil)))) rfl ?_
               exact ⟨_, _, qE, qL, qL, qB⟩
              ·replace c36 := Bool.eq_false_iff.mpr c36
               subst c36
               have H1 : (place_Assign.l1 kj29 l1 x7_1 x8_1 x26_1 x12_18 x12_18 l0_0 (l0_0.length : Int) x26_1 l1 (l1.length : Int) 0) = some (r1, r2, r3, r4) := by rw [if_neg (show ¬ (false = true) by decide)] at H; exact H
               clear H
               have H := H1
               clear H1
               have H' := Aside0.mk H
               clear H
               go_wp2
               repeat (go_quiet (fail); try go_wp2)
               go_loopg [13, 55] kj29 (fun kq v13 v55 w' => ∃ (x7_4 : List Int) (x13_4 : Int) (x55_4 : Int), v13 = .int .i64 x13_4 ∧ v55 = .int .i64 x55_4 ∧ Aside0 (place_Assign.l1 kq l1 x7_4 x8_1 x26_1 x12_18 x13_4 l0_0 (l0_0.length : Int) x26_1 l1 (l1.length : Int) x55_4 = some (r1, r2, r3, r4)) ∧ Aside0 (kq ≤ kj29) ∧ Aside0 (Kd.R (Kd.int .i64) 3 w' w.heap.size (fun _ => True) v211 x7_4) ∧ Aside0 (Kd.R k58 58 w' w.heap.size (fun _ => True) v214 x8_1) ∧ Aside0 (w'.heap[gb208]? = some (.cells #[(.slice (some ad216) l0_0.length c0_0), (.slice A0_1 l0_1.length c0_1)] 46 (0, 0))) ∧ Aside0 (w'.heap[gb209]? = some (.cells #[.int .i64 x210000_1, .int .i64 x210001_1] 26 (0, 0))) ∧ Aside0 (w'.heap[gb217]? = some (.cells #[.string ((rd_T60 l0_0 x26_1).f0), .int .i64 ((rd_T60 l0_0 x26_1).f1), .int .i64 ((rd_T60 l0_0 x26_1).f2), .int .i64 ((rd_T60 l0_0 x26_1).f3)] 60 (0, 0))) ∧ Aside0 (Below w.heap.size w w'))
               case atStart => exact ⟨(x7_1), (x12_18), (0), qF, qF, H', ⟨Nat.le_refl _⟩, ⟨qR HO_7⟩, ⟨qR HO_8⟩, ⟨qK BK208⟩, ⟨qK BK209⟩, ⟨qK BK217⟩, ⟨qB⟩⟩
               case round =>
                clear H'
                try clear c1
                try clear c2
                try clear p2
                try clear q2
                try clear hx2
                try clear c3
                try clear c3b0
                try clear c3b1
                try clear c4
                try clear c4b0
                try clear c4b1
                try clear c5
                try clear c5b0
                try clear c5b1
                try clear c6
                try clear c6b0
                try clear c6b1
                try clear c11
                try clear c16
                try clear c16b0
                try clear c17
                try clear c17b0
                try clear c18
                try clear c18b0
                try clear c21
                try clear p21
                try clear q21
                try clear hx21
                try clear c22
                try clear c24
                try clear c24b0
                try clear c27
                try clear c28
                try clear c31
                try clear c31b0
                try clear c32
                try clear c32b0
                try clear c32b1
                try clear c33
                try clear c34
                try clear c36
                try clear c37
                try clear c38
                try clear hcz12_0
                try clear hcz12_1
                try clear hcz15_0
                try clear hcz15_1
                try clear hcz23_0
                try clear hcz23_1
                try clear hcz23_2
                try clear hcz23_3
                try clear hcz29_0
                try clear hcz29_1
                try clear hcz29_2
                try clear hcz29_3
                try clear hcz35_0
                try clear hcz35_1
                try clear hcz35_2
                try clear hcz35_3
                try clear hcz39_0
                try clear hcz39_1
                try clear hfz12_0
                try clear hfz12_1
                try clear hfz15_0
                try clear hfz15_1
                try clear hfz23_0
                try clear hfz23_1
                try clear hfz23_2
                try clear hfz23_3
                try clear hfz29_0
                try clear hfz29_1
                try clear hfz29_2
                try clear hfz29_3
                try clear hfz35_0
                try clear hfz35_1
                try clear hfz35_2
                try clear hfz35_3
                try clear hfz39_0
                try clear hfz39_1
                try clear hx216_0
                try clear hx216_1
                try clear hx216_2
                try clear hx216_3
                try clear p2
                try clear p21
                try clear p216
                try clear q2
                try clear q21
                try clear q216
                obtain ⟨x7_4, x13_4, x55_4, rfl, rfl, HA, HK4, HO_7, HO_8, BK208, BK209, BK217, HB⟩ := hrel
                cases gk with
                | zero => exact absurd HA.out (by simp [place_Assign.l1])
                | succ k4 =>
                 have H := HA.out
                 clear HA
                 simp only [place_Assign.l1] at H
                 by_cases c40 : x55_4 < (l1.length : Int)
                 ·rw [if_pos c40] at H
                  have c40b0 : decide (x55_4 < (l1.length : Int)) = true := decide_eq_true c40
                  clear c40
                  by_cases c41 : 0 ≤ x55_4
                  ·rw [if_pos c41] at H
                   have c41b0 : decide (0 ≤ x55_4) = true := decide_eq_true c41
                   clear c41
                   by_cases c42 : x55_4 < (l1.length : Int)
                   ·rw [if_pos c42] at H
                    have c42b0 : decide (x55_4 < (l1.length : Int)) = true := decide_eq_true c42
                    clear c42
                    by_cases c43 : ((rd_T62 l1 x55_4).f0) = x26_1
                    ·rw [if_pos c43] at H
                     have c43b0 : (((rd_T62 l1 x55_4).f0) == x26_1) = true := beq_iff_eq.mpr c43
                     have c43b1 : (((rd_T62 l1 x55_4).f0) != x26_1) = false := bne_eq_false_iff_eq.mpr c43
                     clear c43
                     replace H := Option.bind_eq_some_iff.mp H
                     obtain ⟨t222, A440, H⟩ := H
                     replace H : (if x55_4 < (x7_4.length : Int) then ((some (x7_4.set (x55_4 : Int).toNat t222 : List Int)).bind fun y223 => (place_Assign.l1 k4 l1 y223 x8_1 x26_1 x12_18 (wrap64 ((rd y223 x55_4) + ((rd_T62 l1 x55_4).f1))) l0_0 (l0_0.length : Int) x26_1 l1 (l1.length : Int) (wrap64 (x55_4 + 1)))) else (none)) = some (r1, r2, r3, r4) := H
                     have A44 := Aside0.mk A440
                     clear A440
                     by_cases c45 : x55_4 < (x7_4.length : Int)
                     ·rw [if_pos c45] at H
                      have c45b0 : decide (x55_4 < (x7_4.length : Int)) = true := decide_eq_true c45
                      clear c45
                      obtain ⟨y223, hy223⟩ : ∃ y_ : List Int, y_ = (x7_4.set (x55_4 : Int).toNat t222) := ⟨_, rfl⟩
                      replace H : (place_Assign.l1 k4 l1 y223 x8_1 x26_1 x12_18 (wrap64 ((rd y223 x55_4) + ((rd_T62 l1 x55_4).f1))) l0_0 (l0_0.length : Int) x26_1 l1 (l1.length : Int) (wrap64 (x55_4 + 1))) = some (r1, r2, r3, r4) := by first | (rw [hy223]; with_reducible exact H) | (have H2_ := (Option.bind_some _ _).symm.trans H; rw [hy223]; with_reducible exact H2_) | (have H2_ := (Option.bind_some _ _).symm.trans H; with_reducible exact H2_) | with_reducible exact H | (rw [hy223]; exact H) | exact H
                      have Ny223 := Aside0.mk hy223
                      clear hy223
                      have H' := Aside0.mk H
                      clear H
                      have p220 : 0 ≤ (x55_4 : Int) := of_decide_eq_true qO
                      have q220 : x55_4 < (l1.length : Int) := of_decide_eq_true qO
                      obtain ⟨ad220, e220, hx220_0, hx220_1, hx220_2⟩ := at_T62 HR1.out x55_4 p220 q220
                      cases e220
                      replace hx220_0 := (HB.out.cell (World.block_lt_of_cell? w _ hx220_0)).trans hx220_0
                      replace hx220_1 := (HB.out.cell (World.block_lt_of_cell? w _ hx220_1)).trans hx220_1
                      replace hx220_2 := (HB.out.cell (World.block_lt_of_cell? w _ hx220_2)).trans hx220_2
                      replace p220 := eq_true p220
                      replace q220 := eq_true q220
                      go_wp2_with (first | ((with_reducible refine gate_dst (N := 15) rfl ?_); refine qX (N := 15) (cs := #[.int .i64 0, .int .i64 0, .int .i64 0]) (t := 62) ?_; intro gb221 hg w47 hbox hb; have n0_ := Aside0.mk (Kd.R_below (qR HO_7) hb); have n1_ := Aside0.mk (Kd.R_below (qR HO_8) hb); have n2_ := Aside0.mk (blk_below (g := gb208) (o := .cells #[.slice (some ad216) l0_0.length c0_0, .slice A0_1 l0_1.length c0_1] 46 (0, 0)) (qK BK208) hb); have n3_ := Aside0.mk (blk_below (g := gb209) (o := .cells #[.int .i64 x210000_1, .int .i64 x210001_1] 26 (0, 0)) (qK BK209) hb); have n4_ := Aside0.mk (blk_below (g := gb217) (o := .cells #[.string ((rd_T60 l0_0 x26_1).f0), .int .i64 ((rd_T60 l0_0 x26_1).f1), .int .i64 ((rd_T60 l0_0 x26_1).f2), .int .i64 ((rd_T60 l0_0 x26_1).f3)] 60 (0, 0)) (qK BK217) hb); have n5_ := Aside0.mk (below_step qB hb); have n6_ := Aside0.mk (hbox); have n7_ := Aside0.mk ((qG hg : w.heap.size ≤ gb221)); have n8_ := Aside0.mk ((qG hg : w.heap.size ≤ gb221)); have n9_ := Aside0.mk ((by rw [hg]; exact Nat.ne_of_lt (blk_lt (g := gb208) (o := .cells #[.slice (some ad216) l0_0.length c0_0, .slice A0_1 l0_1.length c0_1] 46 (0, 0)) (qK BK208)) : gb208 ≠ gb221)); have n10_ := Aside0.mk ((by rw [hg]; exact Nat.ne_of_gt (blk_lt (g := gb208) (o := .cells #[.slice (some ad216) l0_0.length c0_0, .slice A0_1 l0_1.length c0_1] 46 (0, 0)) (qK BK208)) : gb221 ≠ gb208)); have n11_ := Aside0.mk ((by rw [hg]; exact Nat.ne_of_lt (blk_lt (g := gb209) (o := .cells #[.int .i64 x210000_1, .int .i64 x210001_1] 26 (0, 0)) (qK BK209)) : gb209 ≠ gb221)); have n12_ := Aside0.mk ((by rw [hg]; exact Nat.ne_of_gt (blk_lt (g := gb209) (o := .cells #[.int .i64 x210000_1, .int .i64 x210001_1] 26 (0, 0)) (qK BK209)) : gb221 ≠ gb209)); have n13_ := Aside0.mk ((by rw [hg]; exact Nat.ne_of_lt (blk_lt (g := gb217) (o := .cells #[.string ((rd_T60 l0_0 x26_1).f0), .int .i64 ((rd_T60 l0_0 x26_1).f1), .int .i64 ((rd_T60 l0_0 x26_1).f2), .int .i64 ((rd_T60 l0_0 x26_1).f3)] 60 (0, 0)) (qK BK217)) : gb217 ≠ gb221)); have n14_ := Aside0.mk ((by rw [hg]; exact Nat.ne_of_gt (blk_lt (g := gb217) (o := .cells #[.string ((rd_T60 l0_0 x26_1).f0), .int .i64 ((rd_T60 l0_0 x26_1).f1), .int .i64 ((rd_T60 l0_0 x26_1).f2), .int .i64 ((rd_T60 l0_0 x26_1).f3)] 60 (0, 0)) (qK BK217)) : gb221 ≠ gb217)); clear HO_7; clear HO_8; clear BK208; clear BK209; clear BK217; clear HB; have HO_7 := n0_; have HO_8 := n1_; have BK208 := n2_; have BK209 := n3_; have BK217 := n4_; have HB := n5_; have BK221 := n6_; have GW221 := n7_; have GE221 := n8_; have NB208_221 := n9_; have NB221_208 := n10_; have NB209_221 := n11_; have NB221_209 := n12_; have NB217_221 := n13_; have NB221_217 := n14_; clear n0_ n1_ n2_ n3_ n4_ n5_ n6_ n7_ n8_ n9_ n10_ n11_ n12_ n13_ n14_; clear hb hbox hg; have hnb48 := NB221_208.out; have hnc48 := NB208_221.out; have hnb49 := NB221_209.out; have hnc49 := NB209_221.out; have hnb50 := NB221_217.out; have hnc50 := NB217_221.out; have hcz51_0 : w47.cell? ⟨gb221, 0, none⟩ = some (.int .i64 0) := (blk_cell BK221.out 0).trans rfl; have hcz51_1 : w47.cell? ⟨gb221, 1, none⟩ = some (.int .i64 0) := (blk_cell BK221.out 1).trans rfl; have hcz51_2 : w47.cell? ⟨gb221, 2, none⟩ = some (.int .i64 0) := (blk_cell BK221.out 2).trans rfl; have hfz51_0 := blk_frozen BK221.out 0; have hfz51_1 := blk_frozen BK221.out 1; have hfz51_2 := blk_frozen BK221.out 2) | ((with_reducible refine gate_store (t := 62) (p := 15) rfl ?_); (try (rw [drewN_self w47]; generalize hq_ : World.drewN w47 _ = w47; have n0_ := Aside0.mk (Kd.R_at hq_ HO_7.out); have n1_ := Aside0.mk (Kd.R_at hq_ HO_8.out); have n2_ := Aside0.mk (blk_at hq_ BK208.out); have n3_ := Aside0.mk (blk_at hq_ BK209.out); have n4_ := Aside0.mk (blk_at hq_ BK217.out); have n5_ := Aside0.mk (blk_at hq_ BK221.out); have n6_ := Aside0.mk (below_at hq_ HB.out); clear hq_ HO_7 HO_8 BK208 BK209 BK217 BK221 HB; have HO_7 := n0_; have HO_8 := n1_; have BK208 := n2_; have BK209 := n3_; have BK217 := n4_; have BK221 := n5_; have HB := n6_; clear n0_ n1_ n2_ n3_ n4_ n5_ n6_)); refine store_event (t := 62) (p := 15) (v := ?vo_w52) (w1 := (((w47.setCell ⟨gb221, 0, none⟩ (.int .i64 ((rd_T62 l1 x55_4).f0))).setCell ⟨gb221, 1, none⟩ (.int .i64 ((rd_T62 l1 x55_4).f1))).setCell ⟨gb221, 2, none⟩ (.int .i64 ((rd_T62 l1 x55_4).f2)))) ?hg ?ho ?hn ?hr ?_; (case ho => rfl); (case hg => rfl); (case hn => rfl); (case hr => first | (go_simp; done) | (go_simp; rfl)); intro w52 hw; have n0_ : Aside0 (Kd.R (Kd.int .i64) 3 w52 w.heap.size (fun _ => True) v211 x7_4) := ⟨(by rw [hw]; exact (by (with_reducible repeat (first | apply Kd.R_alloc | apply Kd.R_drewN | apply Kd.R_drew)); exact Kd.R_mono (Kd.R_far (p := ⟨gb221, 2, none⟩) (Kd.R_far (p := ⟨gb221, 1, none⟩) (Kd.R_far (p := ⟨gb221, 0, none⟩) (Kd.R_types HO_7.out BK221.out (by decide)) (fun _ hk => hk.2) (.int .i64 ((rd_T62 l1 x55_4).f0))) (fun _ hk => hk.2) (.int .i64 ((rd_T62 l1 x55_4).f1))) (fun _ hk => hk.2) (.int .i64 ((rd_T62 l1 x55_4).f2))) (fun _ hk => trivial)))⟩; have n1_ : Aside0 (Kd.R k58 58 w52 w.heap.size (fun _ => True) v214 x8_1) := ⟨(by rw [hw]; exact (by (with_reducible repeat (first | apply Kd.R_alloc | apply Kd.R_drewN | apply Kd.R_drew)); exact Kd.R_mono (Kd.R_far (p := ⟨gb221, 2, none⟩) (Kd.R_far (p := ⟨gb221, 1, none⟩) (Kd.R_far (p := ⟨gb221, 0, none⟩) (Kd.R_types HO_8.out BK221.out (by decide)) (fun _ hk => hk.2) (.int .i64 ((rd_T62 l1 x55_4).f0))) (fun _ hk => hk.2) (.int .i64 ((rd_T62 l1 x55_4).f1))) (fun _ hk => hk.2) (.int .i64 ((rd_T62 l1 x55_4).f2))) (fun _ hk => trivial)))⟩; have n2_ : Aside0 (w52.heap[gb208]? = some (.cells #[.slice (some ad216) l0_0.length c0_0, .slice A0_1 l0_1.length c0_1] 46 (0, 0))) := ⟨(by rw [hw]; exact (by (with_reducible repeat (first | refine blk_drewN ?_ _ | refine blk_drew ?_ | refine blk_alloc ?_ _)); refine blk_far ?_ NB208_221.out _; (with_reducible repeat (first | refine blk_drewN ?_ _ | refine blk_drew ?_ | refine blk_alloc ?_ _)); refine blk_far ?_ NB208_221.out _; (with_reducible repeat (first | refine blk_drewN ?_ _ | refine blk_drew ?_ | refine blk_alloc ?_ _)); refine blk_far ?_ NB208_221.out _; exact qK BK208))⟩; have n3_ : Aside0 (w52.heap[gb209]? = some (.cells #[.int .i64 x210000_1, .int .i64 x210001_1] 26 (0, 0))) := ⟨(by rw [hw]; exact (by (with_reducible repeat (first | refine blk_drewN ?_ _ | refine blk_drew ?_ | refine blk_alloc ?_ _)); refine blk_far ?_ NB209_221.out _; (with_reducible repeat (first | refine blk_drewN ?_ _ | refine blk_drew ?_ | refine blk_alloc ?_ _)); refine blk_far ?_ NB209_221.out _; (with_reducible repeat (first | refine blk_drewN ?_ _ | refine blk_drew ?_ | refine blk_alloc ?_ _)); refine blk_far ?_ NB209_221.out _; exact qK BK209))⟩; have n4_ : Aside0 (w52.heap[gb217]? = some (.cells #[.string ((rd_T60 l0_0 x26_1).f0), .int .i64 ((rd_T60 l0_0 x26_1).f1), .int .i64 ((rd_T60 l0_0 x26_1).f2), .int .i64 ((rd_T60 l0_0 x26_1).f3)] 60 (0, 0))) := ⟨(by rw [hw]; exact (by (with_reducible repeat (first | refine blk_drewN ?_ _ | refine blk_drew ?_ | refine blk_alloc ?_ _)); refine blk_far ?_ NB217_221.out _; (with_reducible repeat (first | refine blk_drewN ?_ _ | refine blk_drew ?_ | refine blk_alloc ?_ _)); refine blk_far ?_ NB217_221.out _; (with_reducible repeat (first | refine blk_drewN ?_ _ | refine blk_drew ?_ | refine blk_alloc ?_ _)); refine blk_far ?_ NB217_221.out _; exact qK BK217))⟩; have n5_ : Aside0 (w52.heap[gb221]? = some (.cells #[.int .i64 ((rd_T62 l1 x55_4).f0), .int .i64 ((rd_T62 l1 x55_4).f1), .int .i64 ((rd_T62 l1 x55_4).f2)] 62 (0, 0))) := ⟨(by rw [hw]; exact (by (with_reducible repeat (first | refine blk_drewN ?_ _ | refine blk_drew ?_ | refine blk_alloc ?_ _)); refine blk_put (cs := #[.int .i64 ((rd_T62 l1 x55_4).f0), .int .i64 ((rd_T62 l1 x55_4).f1), .int .i64 0]) ?_ 2 _ rfl; (with_reducible repeat (first | refine blk_drewN ?_ _ | refine blk_drew ?_ | refine blk_alloc ?_ _)); refine blk_put (cs := #[.int .i64 ((rd_T62 l1 x55_4).f0), .int .i64 0, .int .i64 0]) ?_ 1 _ rfl; (with_reducible repeat (first | refine blk_drewN ?_ _ | refine blk_drew ?_ | refine blk_alloc ?_ _)); refine blk_put (cs := #[.int .i64 0, .int .i64 0, .int .i64 0]) ?_ 0 _ rfl; exact qK BK221))⟩; have n6_ : Aside0 (Below w.heap.size w w52) := ⟨(by rw [hw]; exact qB)⟩; clear hw; clear HO_7; clear HO_8; clear BK208; clear BK209; clear BK217; clear BK221; clear HB; have HO_7 := n0_; have HO_8 := n1_; have BK208 := n2_; have BK209 := n3_; have BK217 := n4_; have BK221 := n5_; have HB := n6_; clear n0_ n1_ n2_ n3_ n4_ n5_ n6_; have hcz53_0 : w52.cell? ⟨gb221, 0, none⟩ = some (.int .i64 ((rd_T62 l1 x55_4).f0)) := (blk_cell BK221.out 0).trans rfl; have hcz53_1 : w52.cell? ⟨gb221, 1, none⟩ = some (.int .i64 ((rd_T62 l1 x55_4).f1)) := (blk_cell BK221.out 1).trans rfl; have hcz53_2 : w52.cell? ⟨gb221, 2, none⟩ = some (.int .i64 ((rd_T62 l1 x55_4).f2)) := (blk_cell BK221.out 2).trans rfl; have hfz53_0 := blk_frozen BK221.out 0; have hfz53_1 := blk_frozen BK221.out 1; have hfz53_2 := blk_frozen BK221.out 2) | (go_at_call 45; (with_reducible refine (thread_Up.calls x13_4 ((rd_T62 l1 x55_4).f2) t222 _ A44.out).mono ?_); rintro e w' ⟨rfl, ⟨nd, rfl⟩⟩; (try exact qD); have p46 : 0 ≤ (x55_4 : Int) := of_decide_eq_true qO; have q46 : (x55_4 : Int) < ((x7_4.length : Int) : Int) := of_decide_eq_true qO; obtain ⟨go46, co46, eo46, gb46, gl46, cl46, HG46⟩ := Kd.R_form HO_7.out (by omega); (first | cases eo46 | (injection eo46 with ea_ en_ ec_; (first | subst ea_ | (injection ea_ with ea_; subst ea_)); subst ec_; clear en_)); have GB46 := Aside0.mk gb46; have GG46 := Aside0.mk HG46; clear gb46 gl46 HG46; obtain ⟨hx46_0, hf46_0⟩ := Kd.R_celln 0 HO_7.out (x55_4 : Int) p46 q46; replace p46 := eq_true p46; replace q46 := eq_true q46; obtain ⟨hy54_, hz54_⟩ := Kd.R_celln 0 HO_7.out (x55_4 : Int) (of_decide_eq_true qO) (of_decide_eq_true qO); have HP54 := Kd.R_putg HO_7.out (x55_4 : Int) t222) | ((with_reducible refine gate_store (t := 3) (p := 70) rfl ?_); (try (rw [drewN_self w52]; generalize hq_ : World.drewN w52 _ = w52; have n0_ := Aside0.mk (Kd.R_at hq_ HO_7.out); have n1_ := Aside0.mk (Kd.R_at hq_ HO_8.out); have n2_ := Aside0.mk (blk_at hq_ BK208.out); have n3_ := Aside0.mk (blk_at hq_ BK209.out); have n4_ := Aside0.mk (blk_at hq_ BK217.out); have n5_ := Aside0.mk (blk_at hq_ BK221.out); have n6_ := Aside0.mk (below_at hq_ HB.out); clear hq_ HO_7 HO_8 BK208 BK209 BK217 BK221 HB; have HO_7 := n0_; have HO_8 := n1_; have BK208 := n2_; have BK209 := n3_; have BK217 := n4_; have BK221 := n5_; have HB := n6_; clear n0_ n1_ n2_ n3_ n4_ n5_ n6_; (try (obtain ⟨hy54_, hz54_⟩ := Kd.R_celln 0 HO_7.out (x55_4 : Int) (of_decide_eq_true qO) (of_decide_eq_true qO))); (try (have HP54 := Kd.R_putg HO_7.out (x55_4 : Int) t222)))); refine store_event (t := 3) (p := 70) (v := ?vo_w55) (w1 := (w52.setCell ⟨go46, (x55_4 : Int).toNat, none⟩ (.int .i64 t222))) ?hg ?ho ?hn ?hr ?_; (case ho => rfl); (case hg => rfl); (case hn => rfl); (case hr => first | (go_simp; done) | (go_simp; rfl)); intro w55 hw; have hg : w52.grownBy w55 (some go46) := (by rw [hw]; exact HP54.2); have hp_ : Kd.R (Kd.int .i64) 3 w55 w.heap.size (fun _ => True) (.slice (some ⟨go46, 0, none⟩) x7_4.length co46) y223 := (by rw [hw, Ny223.out]; exact HP54.1); clear HP54; have n0_ := Aside0.mk (hp_); have n1_ := Aside0.mk (Kd.R_over' (v := (.slice (some ⟨go46, 0, none⟩) x7_4.length co46)) (qR HO_8) (Kd.R_typed HO_7.out) (by decide) hg); have n2_ := Aside0.mk (blk_grown (g := gb208) (o := .cells #[.slice (some ad216) l0_0.length c0_0, .slice A0_1 l0_1.length c0_1] 46 (0, 0)) (qK BK208) hg (Kd.R_ne HO_7.out BK208.out (by decide))); have n3_ := Aside0.mk (blk_grown (g := gb209) (o := .cells #[.int .i64 x210000_1, .int .i64 x210001_1] 26 (0, 0)) (qK BK209) hg (Kd.R_ne HO_7.out BK209.out (by decide))); have n4_ := Aside0.mk (blk_grown (g := gb217) (o := .cells #[.string ((rd_T60 l0_0 x26_1).f0), .int .i64 ((rd_T60 l0_0 x26_1).f1), .int .i64 ((rd_T60 l0_0 x26_1).f2), .int .i64 ((rd_T60 l0_0 x26_1).f3)] 60 (0, 0)) (qK BK217) hg (Kd.R_ne HO_7.out BK217.out (by decide))); have n5_ := Aside0.mk (blk_grown (g := gb221) (o := .cells #[.int .i64 ((rd_T62 l1 x55_4).f0), .int .i64 ((rd_T62 l1 x55_4).f1), .int .i64 ((rd_T62 l1 x55_4).f2)] 62 (0, 0)) (qK BK221) hg (Kd.R_ne HO_7.out BK221.out (by decide))); have n6_ := Aside0.mk ((by rw [hw]; exact below_set (HB.out) GB46.out : Below w.heap.size w w55)); clear HO_7; clear HO_8; clear BK208; clear BK209; clear BK217; clear BK221; clear HB; have HO_7 := n0_; have HO_8 := n1_; have BK208 := n2_; have BK209 := n3_; have BK217 := n4_; have BK221 := n5_; have HB := n6_; clear n0_ n1_ n2_ n3_ n4_ n5_ n6_; clear hg hw hp_; have p224 : 0 ≤ (x55_4 : Int) := of_decide_eq_true qO; have q224 : x55_4 < (y223.length : Int) := (by have h_ : (x55_4 : Int) < ((x7_4.length : Int) : Int) := of_decide_eq_true qO; first | (have e_ := (Kd.R_reads' HO_7.out).1; omega) | simpa only [Ny223.out, List.length_set] using h_); have ql224 : ((x55_4 : Int) < ((x7_4.length : Int) : Int)) = True := eq_true (of_decide_eq_true qO); obtain ⟨ad224, e224, hx224_0⟩ := Kd.at_int (Kd.R_reads' HO_7.out).2.2 x55_4 p224 q224; obtain rfl : (⟨go46, 0, none⟩ : Addr) = ad224 := (by injection e224); (first | simp only [add_plain] at hx224_0 | simp only [add_at] at hx224_0 | simp only [Addr.add, Nat.zero_add] at hx224_0 | skip); replace p224 := eq_true p224; replace q224 := eq_true q224; have hcz56_0 : w55.cell? ⟨gb221, 0, none⟩ = some (.int .i64 ((rd_T62 l1 x55_4).f0)) := (blk_cell BK221.out 0).trans rfl; have hcz56_1 : w55.cell? ⟨gb221, 1, none⟩ = some (.int .i64 ((rd_T62 l1 x55_4).f1)) := (blk_cell BK221.out 1).trans rfl; have hcz56_2 : w55.cell? ⟨gb221, 2, none⟩ = some (.int .i64 ((rd_T62 l1 x55_4).f2)) := (blk_cell BK221.out 2).trans rfl; have hfz56_0 := blk_frozen BK221.out 0; have hfz56_1 := blk_frozen BK221.out 1; have hfz56_2 := blk_frozen BK221.out 2))
                      repeat (go_quiet (first | ((with_reducible refine gate_dst (N := 15) rfl ?_); refine qX (N := 15) (cs := #[.int .i64 0, .int .i64 0, .int .i64 0]) (t := 62) ?_; intro gb221 hg w47 hbox hb; have n0_ := Aside0.mk (Kd.R_below (qR HO_7) hb); have n1_ := Aside0.mk (Kd.R_below (qR HO_8) hb); have n2_ := Aside0.mk (blk_below (g := gb208) (o := .cells #[.slice (some ad216) l0_0.length c0_0, .slice A0_1 l0_1.length c0_1] 46 (0, 0)) (qK BK208) hb); have n3_ := Aside0.mk (blk_below (g := gb209) (o := .cells #[.int .i64 x210000_1, .int .i64 x210001_1] 26 (0, 0)) (qK BK209) hb); have n4_ := Aside0.mk (blk_below (g := gb217) (o := .cells #[.string ((rd_T60 l0_0 x26_1).f0), .int .i64 ((rd_T60 l0_0 x26_1).f1), .int .i64 ((rd_T60 l0_0 x26_1).f2), .int .i64 ((rd_T60 l0_0 x26_1).f3)] 60 (0, 0)) (qK BK217) hb); have n5_ := Aside0.mk (below_step qB hb); have n6_ := Aside0.mk (hbox); have n7_ := Aside0.mk ((qG hg : w.heap.size ≤ gb221)); have n8_ := Aside0.mk ((qG hg : w.heap.size ≤ gb221)); have n9_ := Aside0.mk ((by rw [hg]; exact Nat.ne_of_lt (blk_lt (g := gb208) (o := .cells #[.slice (some ad216) l0_0.length c0_0, .slice A0_1 l0_1.length c0_1] 46 (0, 0)) (qK BK208)) : gb208 ≠ gb221)); have n10_ := Aside0.mk ((by rw [hg]; exact Nat.ne_of_gt (blk_lt (g := gb208) (o := .cells #[.slice (some ad216) l0_0.length c0_0, .slice A0_1 l0_1.length c0_1] 46 (0, 0)) (qK BK208)) : gb221 ≠ gb208)); have n11_ := Aside0.mk ((by rw [hg]; exact Nat.ne_of_lt (blk_lt (g := gb209) (o := .cells #[.int .i64 x210000_1, .int .i64 x210001_1] 26 (0, 0)) (qK BK209)) : gb209 ≠ gb221)); have n12_ := Aside0.mk ((by rw [hg]; exact Nat.ne_of_gt (blk_lt (g := gb209) (o := .cells #[.int .i64 x210000_1, .int .i64 x210001_1] 26 (0, 0)) (qK BK209)) : gb221 ≠ gb209)); have n13_ := Aside0.mk ((by rw [hg]; exact Nat.ne_of_lt (blk_lt (g := gb217) (o := .cells #[.string ((rd_T60 l0_0 x26_1).f0), .int .i64 ((rd_T60 l0_0 x26_1).f1), .int .i64 ((rd_T60 l0_0 x26_1).f2), .int .i64 ((rd_T60 l0_0 x26_1).f3)] 60 (0, 0)) (qK BK217)) : gb217 ≠ gb221)); have n14_ := Aside0.mk ((by rw [hg]; exact Nat.ne_of_gt (blk_lt (g := gb217) (o := .cells #[.string ((rd_T60 l0_0 x26_1).f0), .int .i64 ((rd_T60 l0_0 x26_1).f1), .int .i64 ((rd_T60 l0_0 x26_1).f2), .int .i64 ((rd_T60 l0_0 x26_1).f3)] 60 (0, 0)) (qK BK217)) : gb221 ≠ gb217)); clear HO_7; clear HO_8; clear BK208; clear BK209; clear BK217; clear HB; have HO_7 := n0_; have HO_8 := n1_; have BK208 := n2_; have BK209 := n3_; have BK217 := n4_; have HB := n5_; have BK221 := n6_; have GW221 := n7_; have GE221 := n8_; have NB208_221 := n9_; have NB221_208 := n10_; have NB209_221 := n11_; have NB221_209 := n12_; have NB217_221 := n13_; have NB221_217 := n14_; clear n0_ n1_ n2_ n3_ n4_ n5_ n6_ n7_ n8_ n9_ n10_ n11_ n12_ n13_ n14_; clear hb hbox hg; have hnb48 := NB221_208.out; have hnc48 := NB208_221.out; have hnb49 := NB221_209.out; have hnc49 := NB209_221.out; have hnb50 := NB221_217.out; have hnc50 := NB217_221.out; have hcz51_0 : w47.cell? ⟨gb221, 0, none⟩ = some (.int .i64 0) := (blk_cell BK221.out 0).trans rfl; have hcz51_1 : w47.cell? ⟨gb221, 1, none⟩ = some (.int .i64 0) := (blk_cell BK221.out 1).trans rfl; have hcz51_2 : w47.cell? ⟨gb221, 2, none⟩ = some (.int .i64 0) := (blk_cell BK221.out 2).trans rfl; have hfz51_0 := blk_frozen BK221.out 0; have hfz51_1 := blk_frozen BK221.out 1; have hfz51_2 := blk_frozen BK221.out 2) | ((with_reducible refine gate_store (t := 62) (p := 15) rfl ?_); (try (rw [drewN_self w47]; generalize hq_ : World.drewN w47 _ = w47; have n0_ := Aside0.mk (Kd.R_at hq_ HO_7.out); have n1_ := Aside0.mk (Kd.R_at hq_ HO_8.out); have n2_ := Aside0.mk (blk_at hq_ BK208.out); have n3_ := Aside0.mk (blk_at hq_ BK209.out); have n4_ := Aside0.mk (blk_at hq_ BK217.out); have n5_ := Aside0.mk (blk_at hq_ BK221.out); have n6_ := Aside0.mk (below_at hq_ HB.out); clear hq_ HO_7 HO_8 BK208 BK209 BK217 BK221 HB; have HO_7 := n0_; have HO_8 := n1_; have BK208 := n2_; have BK209 := n3_; have BK217 := n4_; have BK221 := n5_; have HB := n6_; clear n0_ n1_ n2_ n3_ n4_ n5_ n6_)); refine store_event (t := 62) (p := 15) (v := ?vo_w52) (w1 := (((w47.setCell ⟨gb221, 0, none⟩ (.int .i64 ((rd_T62 l1 x55_4).f0))).setCell ⟨gb221, 1, none⟩ (.int .i64 ((rd_T62 l1 x55_4).f1))).setCell ⟨gb221, 2, none⟩ (.int .i64 ((rd_T62 l1 x55_4).f2)))) ?hg ?ho ?hn ?hr ?_; (case ho => rfl); (case hg => rfl); (case hn => rfl); (case hr => first | (go_simp; done) | (go_simp; rfl)); intro w52 hw; have n0_ : Aside0 (Kd.R (Kd.int .i64) 3 w52 w.heap.size (fun _ => True) v211 x7_4) := ⟨(by rw [hw]; exact (by (with_reducible repeat (first | apply Kd.R_alloc | apply Kd.R_drewN | apply Kd.R_drew)); exact Kd.R_mono (Kd.R_far (p := ⟨gb221, 2, none⟩) (Kd.R_far (p := ⟨gb221, 1, none⟩) (Kd.R_far (p := ⟨gb221, 0, none⟩) (Kd.R_types HO_7.out BK221.out (by decide)) (fun _ hk => hk.2) (.int .i64 ((rd_T62 l1 x55_4).f0))) (fun _ hk => hk.2) (.int .i64 ((rd_T62 l1 x55_4).f1))) (fun _ hk => hk.2) (.int .i64 ((rd_T62 l1 x55_4).f2))) (fun _ hk => trivial)))⟩; have n1_ : Aside0 (Kd.R k58 58 w52 w.heap.size (fun _ => True) v214 x8_1) := ⟨(by rw [hw]; exact (by (with_reducible repeat (first | apply Kd.R_alloc | apply Kd.R_drewN | apply Kd.R_drew)); exact Kd.R_mono (Kd.R_far (p := ⟨gb221, 2, none⟩) (Kd.R_far (p := ⟨gb221, 1, none⟩) (Kd.R_far (p := ⟨gb221, 0, none⟩) (Kd.R_types HO_8.out BK221.out (by decide)) (fun _ hk => hk.2) (.int .i64 ((rd_T62 l1 x55_4).f0))) (fun _ hk => hk.2) (.int .i64 ((rd_T62 l1 x55_4).f1))) (fun _ hk => hk.2) (.int .i64 ((rd_T62 l1 x55_4).f2))) (fun _ hk => trivial)))⟩; have n2_ : Aside0 (w52.heap[gb208]? = some (.cells #[.slice (some ad216) l0_0.length c0_0, .slice A0_1 l0_1.length c0_1] 46 (0, 0))) := ⟨(by rw [hw]; exact (by (with_reducible repeat (first | refine blk_drewN ?_ _ | refine blk_drew ?_ | refine blk_alloc ?_ _)); refine blk_far ?_ NB208_221.out _; (with_reducible repeat (first | refine blk_drewN ?_ _ | refine blk_drew ?_ | refine blk_alloc ?_ _)); refine blk_far ?_ NB208_221.out _; (with_reducible repeat (first | refine blk_drewN ?_ _ | refine blk_drew ?_ | refine blk_alloc ?_ _)); refine blk_far ?_ NB208_221.out _; exact qK BK208))⟩; have n3_ : Aside0 (w52.heap[gb209]? = some (.cells #[.int .i64 x210000_1, .int .i64 x210001_1] 26 (0, 0))) := ⟨(by rw [hw]; exact (by (with_reducible repeat (first | refine blk_drewN ?_ _ | refine blk_drew ?_ | refine blk_alloc ?_ _)); refine blk_far ?_ NB209_221.out _; (with_reducible repeat (first | refine blk_drewN ?_ _ | refine blk_drew ?_ | refine blk_alloc ?_ _)); refine blk_far ?_ NB209_221.out _; (with_reducible repeat (first | refine blk_drewN ?_ _ | refine blk_drew ?_ | refine blk_alloc ?_ _)); refine blk_far ?_ NB209_221.out _; exact qK BK209))⟩; have n4_ : Aside0 (w52.heap[gb217]? = some (.cells #[.string ((rd_T60 l0_0 x26_1).f0), .int .i64 ((rd_T60 l0_0 x26_1).f1), .int .i64 ((rd_T60 l0_0 x26_1).f2), .int .i64 ((rd_T60 l0_0 x26_1).f3)] 60 (0, 0))) := ⟨(by rw [hw]; exact (by (with_reducible repeat (first | refine blk_drewN ?_ _ | refine blk_drew ?_ | refine blk_alloc ?_ _)); refine blk_far ?_ NB217_221.out _; (with_reducible repeat (first | refine blk_drewN ?_ _ | refine blk_drew ?_ | refine blk_alloc ?_ _)); refine blk_far ?_ NB217_221.out _; (with_reducible repeat (first | refine blk_drewN ?_ _ | refine blk_drew ?_ | refine blk_alloc ?_ _)); refine blk_far ?_ NB217_221.out _; exact qK BK217))⟩; have n5_ : Aside0 (w52.heap[gb221]? = some (.cells #[.int .i64 ((rd_T62 l1 x55_4).f0), .int .i64 ((rd_T62 l1 x55_4).f1), .int .i64 ((rd_T62 l1 x55_4).f2)] 62 (0, 0))) := ⟨(by rw [hw]; exact (by (with_reducible repeat (first | refine blk_drewN ?_ _ | refine blk_drew ?_ | refine blk_alloc ?_ _)); refine blk_put (cs := #[.int .i64 ((rd_T62 l1 x55_4).f0), .int .i64 ((rd_T62 l1 x55_4).f1), .int .i64 0]) ?_ 2 _ rfl; (with_reducible repeat (first | refine blk_drewN ?_ _ | refine blk_drew ?_ | refine blk_alloc ?_ _)); refine blk_put (cs := #[.int .i64 ((rd_T62 l1 x55_4).f0), .int .i64 0, .int .i64 0]) ?_ 1 _ rfl; (with_reducible repeat (first | refine blk_drewN ?_ _ | refine blk_drew ?_ | refine blk_alloc ?_ _)); refine blk_put (cs := #[.int .i64 0, .int .i64 0, .int .i64 0]) ?_ 0 _ rfl; exact qK BK221))⟩; have n6_ : Aside0 (Below w.heap.size w w52) := ⟨(by rw [hw]; exact qB)⟩; clear hw; clear HO_7; clear HO_8; clear BK208; clear BK209; clear BK217; clear BK221; clear HB; have HO_7 := n0_; have HO_8 := n1_; have BK208 := n2_; have BK209 := n3_; have BK217 := n4_; have BK221 := n5_; have HB := n6_; clear n0_ n1_ n2_ n3_ n4_ n5_ n6_; have hcz53_0 : w52.cell? ⟨gb221, 0, none⟩ = some (.int .i64 ((rd_T62 l1 x55_4).f0)) := (blk_cell BK221.out 0).trans rfl; have hcz53_1 : w52.cell? ⟨gb221, 1, none⟩ = some (.int .i64 ((rd_T62 l1 x55_4).f1)) := (blk_cell BK221.out 1).trans rfl; have hcz53_2 : w52.cell? ⟨gb221, 2, none⟩ = some (.int .i64 ((rd_T62 l1 x55_4).f2)) := (blk_cell BK221.out 2).trans rfl; have hfz53_0 := blk_frozen BK221.out 0; have hfz53_1 := blk_frozen BK221.out 1; have hfz53_2 := blk_frozen BK221.out 2) | (go_at_call 45; (with_reducible refine (thread_Up.calls x13_4 ((rd_T62 l1 x55_4).f2) t222 _ A44.out).mono ?_); rintro e w' ⟨rfl, ⟨nd, rfl⟩⟩; (try exact qD); have p46 : 0 ≤ (x55_4 : Int) := of_decide_eq_true qO; have q46 : (x55_4 : Int) < ((x7_4.length : Int) : Int) := of_decide_eq_true qO; obtain ⟨go46, co46, eo46, gb46, gl46, cl46, HG46⟩ := Kd.R_form HO_7.out (by omega); (first | cases eo46 | (injection eo46 with ea_ en_ ec_; (first | subst ea_ | (injection ea_ with ea_; subst ea_)); subst ec_; clear en_)); have GB46 := Aside0.mk gb46; have GG46 := Aside0.mk HG46; clear gb46 gl46 HG46; obtain ⟨hx46_0, hf46_0⟩ := Kd.R_celln 0 HO_7.out (x55_4 : Int) p46 q46; replace p46 := eq_true p46; replace q46 := eq_true q46; obtain ⟨hy54_, hz54_⟩ := Kd.R_celln 0 HO_7.out (x55_4 : Int) (of_decide_eq_true qO) (of_decide_eq_true qO); have HP54 := Kd.R_putg HO_7.out (x55_4 : Int) t222) | ((with_reducible refine gate_store (t := 3) (p := 70) rfl ?_); (try (rw [drewN_self w52]; generalize hq_ : World.drewN w52 _ = w52; have n0_ := Aside0.mk (Kd.R_at hq_ HO_7.out); have n1_ := Aside0.mk (Kd.R_at hq_ HO_8.out); have n2_ := Aside0.mk (blk_at hq_ BK208.out); have n3_ := Aside0.mk (blk_at hq_ BK209.out); have n4_ := Aside0.mk (blk_at hq_ BK217.out); have n5_ := Aside0.mk (blk_at hq_ BK221.out); have n6_ := Aside0.mk (below_at hq_ HB.out); clear hq_ HO_7 HO_8 BK208 BK209 BK217 BK221 HB; have HO_7 := n0_; have HO_8 := n1_; have BK208 := n2_; have BK209 := n3_; have BK217 := n4_; have BK221 := n5_; have HB := n6_; clear n0_ n1_ n2_ n3_ n4_ n5_ n6_; (try (obtain ⟨hy54_, hz54_⟩ := Kd.R_celln 0 HO_7.out (x55_4 : Int) (of_decide_eq_true qO) (of_decide_eq_true qO))); (try (have HP54 := Kd.R_putg HO_7.out (x55_4 : Int) t222)))); refine store_event (t := 3) (p := 70) (v := ?vo_w55) (w1 := (w52.setCell ⟨go46, (x55_4 : Int).toNat, none⟩ (.int .i64 t222))) ?hg ?ho ?hn ?hr ?_; (case ho => rfl); (case hg => rfl); (case hn => rfl); (case hr => first | (go_simp; done) | (go_simp; rfl)); intro w55 hw; have hg : w52.grownBy w55 (some go46) := (by rw [hw]; exact HP54.2); have hp_ : Kd.R (Kd.int .i64) 3 w55 w.heap.size (fun _ => True) (.slice (some ⟨go46, 0, none⟩) x7_4.length co46) y223 := (by rw [hw, Ny223.out]; exact HP54.1); clear HP54; have n0_ := Aside0.mk (hp_); have n1_ := Aside0.mk (Kd.R_over' (v := (.slice (some ⟨go46, 0, none⟩) x7_4.length co46)) (qR HO_8) (Kd.R_typed HO_7.out) (by decide) hg); have n2_ := Aside0.mk (blk_grown (g := gb208) (o := .cells #[.slice (some ad216) l0_0.length c0_0, .slice A0_1 l0_1.length c0_1] 46 (0, 0)) (qK BK208) hg (Kd.R_ne HO_7.out BK208.out (by decide))); have n3_ := Aside0.mk (blk_grown (g := gb209) (o := .cells #[.int .i64 x210000_1, .int .i64 x210001_1] 26 (0, 0)) (qK BK209) hg (Kd.R_ne HO_7.out BK209.out (by decide))); have n4_ := Aside0.mk (blk_grown (g := gb217) (o := .cells #[.string ((rd_T60 l0_0 x26_1).f0), .int .i64 ((rd_T60 l0_0 x26_1).f1), .int .i64 ((rd_T60 l0_0 x26_1).f2), .int .i64 ((rd_T60 l0_0 x26_1).f3)] 60 (0, 0)) (qK BK217) hg (Kd.R_ne HO_7.out BK217.out (by decide))); have n5_ := Aside0.mk (blk_grown (g := gb221) (o := .cells #[.int .i64 ((rd_T62 l1 x55_4).f0), .int .i64 ((rd_T62 l1 x55_4).f1), .int .i64 ((rd_T62 l1 x55_4).f2)] 62 (0, 0)) (qK BK221) hg (Kd.R_ne HO_7.out BK221.out (by decide))); have n6_ := Aside0.mk ((by rw [hw]; exact below_set (HB.out) GB46.out : Below w.heap.size w w55)); clear HO_7; clear HO_8; clear BK208; clear BK209; clear BK217; clear BK221; clear HB; have HO_7 := n0_; have HO_8 := n1_; have BK208 := n2_; have BK209 := n3_; have BK217 := n4_; have BK221 := n5_; have HB := n6_; clear n0_ n1_ n2_ n3_ n4_ n5_ n6_; clear hg hw hp_; have p224 : 0 ≤ (x55_4 : Int) := of_decide_eq_true qO; have q224 : x55_4 < (y223.length : Int) := (by have h_ : (x55_4 : Int) < ((x7_4.length : Int) : Int) := of_decide_eq_true qO; first | (have e_ := (Kd.R_reads' HO_7.out).1; omega) | simpa only [Ny223.out, List.length_set] using h_); have ql224 : ((x55_4 : Int) < ((x7_4.length : Int) : Int)) = True := eq_true (of_decide_eq_true qO); obtain ⟨ad224, e224, hx224_0⟩ := Kd.at_int (Kd.R_reads' HO_7.out).2.2 x55_4 p224 q224; obtain rfl : (⟨go46, 0, none⟩ : Addr) = ad224 := (by injection e224); (first | simp only [add_plain] at hx224_0 | simp only [add_at] at hx224_0 | simp only [Addr.add, Nat.zero_add] at hx224_0 | skip); replace p224 := eq_true p224; replace q224 := eq_true q224; have hcz56_0 : w55.cell? ⟨gb221, 0, none⟩ = some (.int .i64 ((rd_T62 l1 x55_4).f0)) := (blk_cell BK221.out 0).trans rfl; have hcz56_1 : w55.cell? ⟨gb221, 1, none⟩ = some (.int .i64 ((rd_T62 l1 x55_4).f1)) := (blk_cell BK221.out 1).trans rfl; have hcz56_2 : w55.cell? ⟨gb221, 2, none⟩ = some (.int .i64 ((rd_T62 l1 x55_4).f2)) := (blk_cell BK221.out 2).trans rfl; have hfz56_0 := blk_frozen BK221.out 0; have hfz56_1 := blk_frozen BK221.out 1; have hfz56_2 := blk_frozen BK221.out 2)); try go_wp2_with (first | ((with_reducible refine gate_dst (N := 15) rfl ?_); refine qX (N := 15) (cs := #[.int .i64 0, .int .i64 0, .int .i64 0]) (t := 62) ?_; intro gb221 hg w47 hbox hb; have n0_ := Aside0.mk (Kd.R_below (qR HO_7) hb); have n1_ := Aside0.mk (Kd.R_below (qR HO_8) hb); have n2_ := Aside0.mk (blk_below (g := gb208) (o := .cells #[.slice (some ad216) l0_0.length c0_0, .slice A0_1 l0_1.length c0_1] 46 (0, 0)) (qK BK208) hb); have n3_ := Aside0.mk (blk_below (g := gb209) (o := .cells #[.int .i64 x210000_1, .int .i64 x210001_1] 26 (0, 0)) (qK BK209) hb); have n4_ := Aside0.mk (blk_below (g := gb217) (o := .cells #[.string ((rd_T60 l0_0 x26_1).f0), .int .i64 ((rd_T60 l0_0 x26_1).f1), .int .i64 ((rd_T60 l0_0 x26_1).f2), .int .i64 ((rd_T60 l0_0 x26_1).f3)] 60 (0, 0)) (qK BK217) hb); have n5_ := Aside0.mk (below_step qB hb); have n6_ := Aside0.mk (hbox); have n7_ := Aside0.mk ((qG hg : w.heap.size ≤ gb221)); have n8_ := Aside0.mk ((qG hg : w.heap.size ≤ gb221)); have n9_ := Aside0.mk ((by rw [hg]; exact Nat.ne_of_lt (blk_lt (g := gb208) (o := .cells #[.slice (some ad216) l0_0.length c0_0, .slice A0_1 l0_1.length c0_1] 46 (0, 0)) (qK BK208)) : gb208 ≠ gb221)); have n10_ := Aside0.mk ((by rw [hg]; exact Nat.ne_of_gt (blk_lt (g := gb208) (o := .cells #[.slice (some ad216) l0_0.length c0_0, .slice A0_1 l0_1.length c0_1] 46 (0, 0)) (qK BK208)) : gb221 ≠ gb208)); have n11_ := Aside0.mk ((by rw [hg]; exact Nat.ne_of_lt (blk_lt (g := gb209) (o := .cells #[.int .i64 x210000_1, .int .i64 x210001_1] 26 (0, 0)) (qK BK209)) : gb209 ≠ gb221)); have n12_ := Aside0.mk ((by rw [hg]; exact Nat.ne_of_gt (blk_lt (g := gb209) (o := .cells #[.int .i64 x210000_1, .int .i64 x210001_1] 26 (0, 0)) (qK BK209)) : gb221 ≠ gb209)); have n13_ := Aside0.mk ((by rw [hg]; exact Nat.ne_of_lt (blk_lt (g := gb217) (o := .cells #[.string ((rd_T60 l0_0 x26_1).f0), .int .i64 ((rd_T60 l0_0 x26_1).f1), .int .i64 ((rd_T60 l0_0 x26_1).f2), .int .i64 ((rd_T60 l0_0 x26_1).f3)] 60 (0, 0)) (qK BK217)) : gb217 ≠ gb221)); have n14_ := Aside0.mk ((by rw [hg]; exact Nat.ne_of_gt (blk_lt (g := gb217) (o := .cells #[.string ((rd_T60 l0_0 x26_1).f0), .int .i64 ((rd_T60 l0_0 x26_1).f1), .int .i64 ((rd_T60 l0_0 x26_1).f2), .int .i64 ((rd_T60 l0_0 x26_1).f3)] 60 (0, 0)) (qK BK217)) : gb221 ≠ gb217)); clear HO_7; clear HO_8; clear BK208; clear BK209; clear BK217; clear HB; have HO_7 := n0_; have HO_8 := n1_; have BK208 := n2_; have BK209 := n3_; have BK217 := n4_; have HB := n5_; have BK221 := n6_; have GW221 := n7_; have GE221 := n8_; have NB208_221 := n9_; have NB221_208 := n10_; have NB209_221 := n11_; have NB221_209 := n12_; have NB217_221 := n13_; have NB221_217 := n14_; clear n0_ n1_ n2_ n3_ n4_ n5_ n6_ n7_ n8_ n9_ n10_ n11_ n12_ n13_ n14_; clear hb hbox hg; have hnb48 := NB221_208.out; have hnc48 := NB208_221.out; have hnb49 := NB221_209.out; have hnc49 := NB209_221.out; have hnb50 := NB221_217.out; have hnc50 := NB217_221.out; have hcz51_0 : w47.cell? ⟨gb221, 0, none⟩ = some (.int .i64 0) := (blk_cell BK221.out 0).trans rfl; have hcz51_1 : w47.cell? ⟨gb221, 1, none⟩ = some (.int .i64 0) := (blk_cell BK221.out 1).trans rfl; have hcz51_2 : w47.cell? ⟨gb221, 2, none⟩ = some (.int .i64 0) := (blk_cell BK221.out 2).trans rfl; have hfz51_0 := blk_frozen BK221.out 0; have hfz51_1 := blk_frozen BK221.out 1; have hfz51_2 := blk_frozen BK221.out 2) | ((with_reducible refine gate_store (t := 62) (p := 15) rfl ?_); (try (rw [drewN_self w47]; generalize hq_ : World.drewN w47 _ = w47; have n0_ := Aside0.mk (Kd.R_at hq_ HO_7.out); have n1_ := Aside0.mk (Kd.R_at hq_ HO_8.out); have n2_ := Aside0.mk (blk_at hq_ BK208.out); have n3_ := Aside0.mk (blk_at hq_ BK209.out); have n4_ := Aside0.mk (blk_at hq_ BK217.out); have n5_ := Aside0.mk (blk_at hq_ BK221.out); have n6_ := Aside0.mk (below_at hq_ HB.out); clear hq_ HO_7 HO_8 BK208 BK209 BK217 BK221 HB; have HO_7 := n0_; have HO_8 := n1_; have BK208 := n2_; have BK209 := n3_; have BK217 := n4_; have BK221 := n5_; have HB := n6_; clear n0_ n1_ n2_ n3_ n4_ n5_ n6_)); refine store_event (t := 62) (p := 15) (v := ?vo_w52) (w1 := (((w47.setCell ⟨gb221, 0, none⟩ (.int .i64 ((rd_T62 l1 x55_4).f0))).setCell ⟨gb221, 1, none⟩ (.int .i64 ((rd_T62 l1 x55_4).f1))).setCell ⟨gb221, 2, none⟩ (.int .i64 ((rd_T62 l1 x55_4).f2)))) ?hg ?ho ?hn ?hr ?_; (case ho => rfl); (case hg => rfl); (case hn => rfl); (case hr => first | (go_simp; done) | (go_simp; rfl)); intro w52 hw; have n0_ : Aside0 (Kd.R (Kd.int .i64) 3 w52 w.heap.size (fun _ => True) v211 x7_4) := ⟨(by rw [hw]; exact (by (with_reducible repeat (first | apply Kd.R_alloc | apply Kd.R_drewN | apply Kd.R_drew)); exact Kd.R_mono (Kd.R_far (p := ⟨gb221, 2, none⟩) (Kd.R_far (p := ⟨gb221, 1, none⟩) (Kd.R_far (p := ⟨gb221, 0, none⟩) (Kd.R_types HO_7.out BK221.out (by decide)) (fun _ hk => hk.2) (.int .i64 ((rd_T62 l1 x55_4).f0))) (fun _ hk => hk.2) (.int .i64 ((rd_T62 l1 x55_4).f1))) (fun _ hk => hk.2) (.int .i64 ((rd_T62 l1 x55_4).f2))) (fun _ hk => trivial)))⟩; have n1_ : Aside0 (Kd.R k58 58 w52 w.heap.size (fun _ => True) v214 x8_1) := ⟨(by rw [hw]; exact (by (with_reducible repeat (first | apply Kd.R_alloc | apply Kd.R_drewN | apply Kd.R_drew)); exact Kd.R_mono (Kd.R_far (p := ⟨gb221, 2, none⟩) (Kd.R_far (p := ⟨gb221, 1, none⟩) (Kd.R_far (p := ⟨gb221, 0, none⟩) (Kd.R_types HO_8.out BK221.out (by decide)) (fun _ hk => hk.2) (.int .i64 ((rd_T62 l1 x55_4).f0))) (fun _ hk => hk.2) (.int .i64 ((rd_T62 l1 x55_4).f1))) (fun _ hk => hk.2) (.int .i64 ((rd_T62 l1 x55_4).f2))) (fun _ hk => trivial)))⟩; have n2_ : Aside0 (w52.heap[gb208]? = some (.cells #[.slice (some ad216) l0_0.length c0_0, .slice A0_1 l0_1.length c0_1] 46 (0, 0))) := ⟨(by rw [hw]; exact (by (with_reducible repeat (first | refine blk_drewN ?_ _ | refine blk_drew ?_ | refine blk_alloc ?_ _)); refine blk_far ?_ NB208_221.out _; (with_reducible repeat (first | refine blk_drewN ?_ _ | refine blk_drew ?_ | refine blk_alloc ?_ _)); refine blk_far ?_ NB208_221.out _; (with_reducible repeat (first | refine blk_drewN ?_ _ | refine blk_drew ?_ | refine blk_alloc ?_ _)); refine blk_far ?_ NB208_221.out _; exact qK BK208))⟩; have n3_ : Aside0 (w52.heap[gb209]? = some (.cells #[.int .i64 x210000_1, .int .i64 x210001_1] 26 (0, 0))) := ⟨(by rw [hw]; exact (by (with_reducible repeat (first | refine blk_drewN ?_ _ | refine blk_drew ?_ | refine blk_alloc ?_ _)); refine blk_far ?_ NB209_221.out _; (with_reducible repeat (first | refine blk_drewN ?_ _ | refine blk_drew ?_ | refine blk_alloc ?_ _)); refine blk_far ?_ NB209_221.out _; (with_reducible repeat (first | refine blk_drewN ?_ _ | refine blk_drew ?_ | refine blk_alloc ?_ _)); refine blk_far ?_ NB209_221.out _; exact qK BK209))⟩; have n4_ : Aside0 (w52.heap[gb217]? = some (.cells #[.string ((rd_T60 l0_0 x26_1).f0), .int .i64 ((rd_T60 l0_0 x26_1).f1), .int .i64 ((rd_T60 l0_0 x26_1).f2), .int .i64 ((rd_T60 l0_0 x26_1).f3)] 60 (0, 0))) := ⟨(by rw [hw]; exact (by (with_reducible repeat (first | refine blk_drewN ?_ _ | refine blk_drew ?_ | refine blk_alloc ?_ _)); refine blk_far ?_ NB217_221.out _; (with_reducible repeat (first | refine blk_drewN ?_ _ | refine blk_drew ?_ | refine blk_alloc ?_ _)); refine blk_far ?_ NB217_221.out _; (with_reducible repeat (first | refine blk_drewN ?_ _ | refine blk_drew ?_ | refine blk_alloc ?_ _)); refine blk_far ?_ NB217_221.out _; exact qK BK217))⟩; have n5_ : Aside0 (w52.heap[gb221]? = some (.cells #[.int .i64 ((rd_T62 l1 x55_4).f0), .int .i64 ((rd_T62 l1 x55_4).f1), .int .i64 ((rd_T62 l1 x55_4).f2)] 62 (0, 0))) := ⟨(by rw [hw]; exact (by (with_reducible repeat (first | refine blk_drewN ?_ _ | refine blk_drew ?_ | refine blk_alloc ?_ _)); refine blk_put (cs := #[.int .i64 ((rd_T62 l1 x55_4).f0), .int .i64 ((rd_T62 l1 x55_4).f1), .int .i64 0]) ?_ 2 _ rfl; (with_reducible repeat (first | refine blk_drewN ?_ _ | refine blk_drew ?_ | refine blk_alloc ?_ _)); refine blk_put (cs := #[.int .i64 ((rd_T62 l1 x55_4).f0), .int .i64 0, .int .i64 0]) ?_ 1 _ rfl; (with_reducible repeat (first | refine blk_drewN ?_ _ | refine blk_drew ?_ | refine blk_alloc ?_ _)); refine blk_put (cs := #[.int .i64 0, .int .i64 0, .int .i64 0]) ?_ 0 _ rfl; exact qK BK221))⟩; have n6_ : Aside0 (Below w.heap.size w w52) := ⟨(by rw [hw]; exact qB)⟩; clear hw; clear HO_7; clear HO_8; clear BK208; clear BK209; clear BK217; clear BK221; clear HB; have HO_7 := n0_; have HO_8 := n1_; have BK208 := n2_; have BK209 := n3_; have BK217 := n4_; have BK221 := n5_; have HB := n6_; clear n0_ n1_ n2_ n3_ n4_ n5_ n6_; have hcz53_0 : w52.cell? ⟨gb221, 0, none⟩ = some (.int .i64 ((rd_T62 l1 x55_4).f0)) := (blk_cell BK221.out 0).trans rfl; have hcz53_1 : w52.cell? ⟨gb221, 1, none⟩ = some (.int .i64 ((rd_T62 l1 x55_4).f1)) := (blk_cell BK221.out 1).trans rfl; have hcz53_2 : w52.cell? ⟨gb221, 2, none⟩ = some (.int .i64 ((rd_T62 l1 x55_4).f2)) := (blk_cell BK221.out 2).trans rfl; have hfz53_0 := blk_frozen BK221.out 0; have hfz53_1 := blk_frozen BK221.out 1; have hfz53_2 := blk_frozen BK221.out 2) | (go_at_call 45; (with_reducible refine (thread_Up.calls x13_4 ((rd_T62 l1 x55_4).f2) t222 _ A44.out).mono ?_); rintro e w' ⟨rfl, ⟨nd, rfl⟩⟩; (try exact qD); have p46 : 0 ≤ (x55_4 : Int) := of_decide_eq_true qO; have q46 : (x55_4 : Int) < ((x7_4.length : Int) : Int) := of_decide_eq_true qO; obtain ⟨go46, co46, eo46, gb46, gl46, cl46, HG46⟩ := Kd.R_form HO_7.out (by omega); (first | cases eo46 | (injection eo46 with ea_ en_ ec_; (first | subst ea_ | (injection ea_ with ea_; subst ea_)); subst ec_; clear en_)); have GB46 := Aside0.mk gb46; have GG46 := Aside0.mk HG46; clear gb46 gl46 HG46; obtain ⟨hx46_0, hf46_0⟩ := Kd.R_celln 0 HO_7.out (x55_4 : Int) p46 q46; replace p46 := eq_true p46; replace q46 := eq_true q46; obtain ⟨hy54_, hz54_⟩ := Kd.R_celln 0 HO_7.out (x55_4 : Int) (of_decide_eq_true qO) (of_decide_eq_true qO); have HP54 := Kd.R_putg HO_7.out (x55_4 : Int) t222) | ((with_reducible refine gate_store (t := 3) (p := 70) rfl ?_); (try (rw [drewN_self w52]; generalize hq_ : World.drewN w52 _ = w52; have n0_ := Aside0.mk (Kd.R_at hq_ HO_7.out); have n1_ := Aside0.mk (Kd.R_at hq_ HO_8.out); have n2_ := Aside0.mk (blk_at hq_ BK208.out); have n3_ := Aside0.mk (blk_at hq_ BK209.out); have n4_ := Aside0.mk (blk_at hq_ BK217.out); have n5_ := Aside0.mk (blk_at hq_ BK221.out); have n6_ := Aside0.mk (below_at hq_ HB.out); clear hq_ HO_7 HO_8 BK208 BK209 BK217 BK221 HB; have HO_7 := n0_; have HO_8 := n1_; have BK208 := n2_; have BK209 := n3_; have BK217 := n4_; have BK221 := n5_; have HB := n6_; clear n0_ n1_ n2_ n3_ n4_ n5_ n6_; (try (obtain ⟨hy54_, hz54_⟩ := Kd.R_celln 0 HO_7.out (x55_4 : Int) (of_decide_eq_true qO) (of_decide_eq_true qO))); (try (have HP54 := Kd.R_putg HO_7.out (x55_4 : Int) t222)))); refine store_event (t := 3) (p := 70) (v := ?vo_w55) (w1 := (w52.setCell ⟨go46, (x55_4 : Int).toNat, none⟩ (.int .i64 t222))) ?hg ?ho ?hn ?hr ?_; (case ho => rfl); (case hg => rfl); (case hn => rfl); (case hr => first | (go_simp; done) | (go_simp; rfl)); intro w55 hw; have hg : w52.grownBy w55 (some go46) := (by rw [hw]; exact HP54.2); have hp_ : Kd.R (Kd.int .i64) 3 w55 w.heap.size (fun _ => True) (.slice (some ⟨go46, 0, none⟩) x7_4.length co46) y223 := (by rw [hw, Ny223.out]; exact HP54.1); clear HP54; have n0_ := Aside0.mk (hp_); have n1_ := Aside0.mk (Kd.R_over' (v := (.slice (some ⟨go46, 0, none⟩) x7_4.length co46)) (qR HO_8) (Kd.R_typed HO_7.out) (by decide) hg); have n2_ := Aside0.mk (blk_grown (g := gb208) (o := .cells #[.slice (some ad216) l0_0.length c0_0, .slice A0_1 l0_1.length c0_1] 46 (0, 0)) (qK BK208) hg (Kd.R_ne HO_7.out BK208.out (by decide))); have n3_ := Aside0.mk (blk_grown (g := gb209) (o := .cells #[.int .i64 x210000_1, .int .i64 x210001_1] 26 (0, 0)) (qK BK209) hg (Kd.R_ne HO_7.out BK209.out (by decide))); have n4_ := Aside0.mk (blk_grown (g := gb217) (o := .cells #[.string ((rd_T60 l0_0 x26_1).f0), .int .i64 ((rd_T60 l0_0 x26_1).f1), .int .i64 ((rd_T60 l0_0 x26_1).f2), .int .i64 ((rd_T60 l0_0 x26_1).f3)] 60 (0, 0)) (qK BK217) hg (Kd.R_ne HO_7.out BK217.out (by decide))); have n5_ := Aside0.mk (blk_grown (g := gb221) (o := .cells #[.int .i64 ((rd_T62 l1 x55_4).f0), .int .i64 ((rd_T62 l1 x55_4).f1), .int .i64 ((rd_T62 l1 x55_4).f2)] 62 (0, 0)) (qK BK221) hg (Kd.R_ne HO_7.out BK221.out (by decide))); have n6_ := Aside0.mk ((by rw [hw]; exact below_set (HB.out) GB46.out : Below w.heap.size w w55)); clear HO_7; clear HO_8; clear BK208; clear BK209; clear BK217; clear BK221; clear HB; have HO_7 := n0_; have HO_8 := n1_; have BK208 := n2_; have BK209 := n3_; have BK217 := n4_; have BK221 := n5_; have HB := n6_; clear n0_ n1_ n2_ n3_ n4_ n5_ n6_; clear hg hw hp_; have p224 : 0 ≤ (x55_4 : Int) := of_decide_eq_true qO; have q224 : x55_4 < (y223.length : Int) := (by have h_ : (x55_4 : Int) < ((x7_4.length : Int) : Int) := of_decide_eq_true qO; first | (have e_ := (Kd.R_reads' HO_7.out).1; omega) | simpa only [Ny223.out, List.length_set] using h_); have ql224 : ((x55_4 : Int) < ((x7_4.length : Int) : Int)) = True := eq_true (of_decide_eq_true qO); obtain ⟨ad224, e224, hx224_0⟩ := Kd.at_int (Kd.R_reads' HO_7.out).2.2 x55_4 p224 q224; obtain rfl : (⟨go46, 0, none⟩ : Addr) = ad224 := (by injection e224); (first | simp only [add_plain] at hx224_0 | simp only [add_at] at hx224_0 | simp only [Addr.add, Nat.zero_add] at hx224_0 | skip); replace p224 := eq_true p224; replace q224 := eq_true q224; have hcz56_0 : w55.cell? ⟨gb221, 0, none⟩ = some (.int .i64 ((rd_T62 l1 x55_4).f0)) := (blk_cell BK221.out 0).trans rfl; have hcz56_1 : w55.cell? ⟨gb221, 1, none⟩ = some (.int .i64 ((rd_T62 l1 x55_4).f1)) := (blk_cell BK221.out 1).trans rfl; have hcz56_2 : w55.cell? ⟨gb221, 2, none⟩ = some (.int .i64 ((rd_T62 l1 x55_4).f2)) := (blk_cell BK221.out 2).trans rfl; have hfz56_0 := blk_frozen BK221.out 0; have hfz56_1 := blk_frozen BK221.out 1; have hfz56_2 := blk_frozen BK221.out 2)))
                      go_roundg k4
                      case measure => have := HK1.out; have := HJ18.out; have := HJ29.out; have := HK4.out; omega
                      case rel => exact ⟨(y223), (wrap64 ((rd y223 x55_4) + ((rd_T62 l1 x55_4).f1))), (wrap64 (x55_4 + 1)), qF, qF, H', ⟨by have := HK1.out; have := HJ18.out; have := HJ29.out; have := HK4.out; omega⟩, ⟨qR HO_7⟩, ⟨qR HO_8⟩, ⟨qK BK208⟩, ⟨qK BK209⟩, ⟨qK BK217⟩, ⟨qB⟩⟩
                     ·rw [if_neg c45] at H
                      exact absurd H (by simp)
                    ·rw [if_neg c43] at H
                     have c43b0 : (((rd_T62 l1 x55_4).f0) == x26_1) = false := beq_eq_false_iff_ne.mpr c43
                     have c43b1 : (((rd_T62 l1 x55_4).f0) != x26_1) = true := bne_iff_ne.mpr c43
                     have H' := Aside0.mk H
                     clear H
                     have p220 : 0 ≤ (x55_4 : Int) := of_decide_eq_true qO
                     have q220 : x55_4 < (l1.length : Int) := of_decide_eq_true qO
                     obtain ⟨ad220, e220, hx220_0, hx220_1, hx220_2⟩ := at_T62 HR1.out x55_4 p220 q220
                     cases e220
                     replace hx220_0 := (HB.out.cell (World.block_lt_of_cell? w _ hx220_0)).trans hx220_0
                     replace hx220_1 := (HB.out.cell (World.block_lt_of_cell? w _ hx220_1)).trans hx220_1
                     replace hx220_2 := (HB.out.cell (World.block_lt_of_cell? w _ hx220_2)).trans hx220_2
                     replace p220 := eq_true p220
                     replace q220 := eq_true q220
                     go_wp2_with (first | ((with_reducible refine gate_dst (N := 15) rfl ?_); refine qX (N := 15) (cs := #[.int .i64 0, .int .i64 0, .int .i64 0]) (t := 62) ?_; intro gb221 hg w57 hbox hb; have n0_ := Aside0.mk (Kd.R_below (qR HO_7) hb); have n1_ := Aside0.mk (Kd.R_below (qR HO_8) hb); have n2_ := Aside0.mk (blk_below (g := gb208) (o := .cells #[.slice (some ad216) l0_0.length c0_0, .slice A0_1 l0_1.length c0_1] 46 (0, 0)) (qK BK208) hb); have n3_ := Aside0.mk (blk_below (g := gb209) (o := .cells #[.int .i64 x210000_1, .int .i64 x210001_1] 26 (0, 0)) (qK BK209) hb); have n4_ := Aside0.mk (blk_below (g := gb217) (o := .cells #[.string ((rd_T60 l0_0 x26_1).f0), .int .i64 ((rd_T60 l0_0 x26_1).f1), .int .i64 ((rd_T60 l0_0 x26_1).f2), .int .i64 ((rd_T60 l0_0 x26_1).f3)] 60 (0, 0)) (qK BK217) hb); have n5_ := Aside0.mk (below_step qB hb); have n6_ := Aside0.mk (hbox); have n7_ := Aside0.mk ((qG hg : w.heap.size ≤ gb221)); have n8_ := Aside0.mk ((qG hg : w.heap.size ≤ gb221)); have n9_ := Aside0.mk ((by rw [hg]; exact Nat.ne_of_lt (blk_lt (g := gb208) (o := .cells #[.slice (some ad216) l0_0.length c0_0, .slice A0_1 l0_1.length c0_1] 46 (0, 0)) (qK BK208)) : gb208 ≠ gb221)); have n10_ := Aside0.mk ((by rw [hg]; exact Nat.ne_of_gt (blk_lt (g := gb208) (o := .cells #[.slice (some ad216) l0_0.length c0_0, .slice A0_1 l0_1.length c0_1] 46 (0, 0)) (qK BK208)) : gb221 ≠ gb208)); have n11_ := Aside0.mk ((by rw [hg]; exact Nat.ne_of_lt (blk_lt (g := gb209) (o := .cells #[.int .i64 x210000_1, .int .i64 x210001_1] 26 (0, 0)) (qK BK209)) : gb209 ≠ gb221)); have n12_ := Aside0.mk ((by rw [hg]; exact Nat.ne_of_gt (blk_lt (g := gb209) (o := .cells #[.int .i64 x210000_1, .int .i64 x210001_1] 26 (0, 0)) (qK BK209)) : gb221 ≠ gb209)); have n13_ := Aside0.mk ((by rw [hg]; exact Nat.ne_of_lt (blk_lt (g := gb217) (o := .cells #[.string ((rd_T60 l0_0 x26_1).f0), .int .i64 ((rd_T60 l0_0 x26_1).f1), .int .i64 ((rd_T60 l0_0 x26_1).f2), .int .i64 ((rd_T60 l0_0 x26_1).f3)] 60 (0, 0)) (qK BK217)) : gb217 ≠ gb221)); have n14_ := Aside0.mk ((by rw [hg]; exact Nat.ne_of_gt (blk_lt (g := gb217) (o := .cells #[.string ((rd_T60 l0_0 x26_1).f0), .int .i64 ((rd_T60 l0_0 x26_1).f1), .int .i64 ((rd_T60 l0_0 x26_1).f2), .int .i64 ((rd_T60 l0_0 x26_1).f3)] 60 (0, 0)) (qK BK217)) : gb221 ≠ gb217)); clear HO_7; clear HO_8; clear BK208; clear BK209; clear BK217; clear HB; have HO_7 := n0_; have HO_8 := n1_; have BK208 := n2_; have BK209 := n3_; have BK217 := n4_; have HB := n5_; have BK221 := n6_; have GW221 := n7_; have GE221 := n8_; have NB208_221 := n9_; have NB221_208 := n10_; have NB209_221 := n11_; have NB221_209 := n12_; have NB217_221 := n13_; have NB221_217 := n14_; clear n0_ n1_ n2_ n3_ n4_ n5_ n6_ n7_ n8_ n9_ n10_ n11_ n12_ n13_ n14_; clear hb hbox hg; have hnb58 := NB221_208.out; have hnc58 := NB208_221.out; have hnb59 := NB221_209.out; have hnc59 := NB209_221.out; have hnb60 := NB221_217.out; have hnc60 := NB217_221.out; have hcz61_0 : w57.cell? ⟨gb221, 0, none⟩ = some (.int .i64 0) := (blk_cell BK221.out 0).trans rfl; have hcz61_1 : w57.cell? ⟨gb221, 1, none⟩ = some (.int .i64 0) := (blk_cell BK221.out 1).trans rfl; have hcz61_2 : w57.cell? ⟨gb221, 2, none⟩ = some (.int .i64 0) := (blk_cell BK221.out 2).trans rfl; have hfz61_0 := blk_frozen BK221.out 0; have hfz61_1 := blk_frozen BK221.out 1; have hfz61_2 := blk_frozen BK221.out 2))
                     repeat (go_quiet (first | ((with_reducible refine gate_dst (N := 15) rfl ?_); refine qX (N := 15) (cs := #[.int .i64 0, .int .i64 0, .int .i64 0]) (t := 62) ?_; intro gb221 hg w57 hbox hb; have n0_ := Aside0.mk (Kd.R_below (qR HO_7) hb); have n1_ := Aside0.mk (Kd.R_below (qR HO_8) hb); have n2_ := Aside0.mk (blk_below (g := gb208) (o := .cells #[.slice (some ad216) l0_0.length c0_0, .slice A0_1 l0_1.length c0_1] 46 (0, 0)) (qK BK208) hb); have n3_ := Aside0.mk (blk_below (g := gb209) (o := .cells #[.int .i64 x210000_1, .int .i64 x210001_1] 26 (0, 0)) (qK BK209) hb); have n4_ := Aside0.mk (blk_below (g := gb217) (o := .cells #[.string ((rd_T60 l0_0 x26_1).f0), .int .i64 ((rd_T60 l0_0 x26_1).f1), .int .i64 ((rd_T60 l0_0 x26_1).f2), .int .i64 ((rd_T60 l0_0 x26_1).f3)] 60 (0, 0)) (qK BK217) hb); have n5_ := Aside0.mk (below_step qB hb); have n6_ := Aside0.mk (hbox); have n7_ := Aside0.mk ((qG hg : w.heap.size ≤ gb221)); have n8_ := Aside0.mk ((qG hg : w.heap.size ≤ gb221)); have n9_ := Aside0.mk ((by rw [hg]; exact Nat.ne_of_lt (blk_lt (g := gb208) (o := .cells #[.slice (some ad216) l0_0.length c0_0, .slice A0_1 l0_1.length c0_1] 46 (0, 0)) (qK BK208)) : gb208 ≠ gb221)); have n10_ := Aside0.mk ((by rw [hg]; exact Nat.ne_of_gt (blk_lt (g := gb208) (o := .cells #[.slice (some ad216) l0_0.length c0_0, .slice A0_1 l0_1.length c0_1] 46 (0, 0)) (qK BK208)) : gb221 ≠ gb208)); have n11_ := Aside0.mk ((by rw [hg]; exact Nat.ne_of_lt (blk_lt (g := gb209) (o := .cells #[.int .i64 x210000_1, .int .i64 x210001_1] 26 (0, 0)) (qK BK209)) : gb209 ≠ gb221)); have n12_ := Aside0.mk ((by rw [hg]; exact Nat.ne_of_gt (blk_lt (g := gb209) (o := .cells #[.int .i64 x210000_1, .int .i64 x210001_1] 26 (0, 0)) (qK BK209)) : gb221 ≠ gb209)); have n13_ := Aside0.mk ((by rw [hg]; exact Nat.ne_of_lt (blk_lt (g := gb217) (o := .cells #[.string ((rd_T60 l0_0 x26_1).f0), .int .i64 ((rd_T60 l0_0 x26_1).f1), .int .i64 ((rd_T60 l0_0 x26_1).f2), .int .i64 ((rd_T60 l0_0 x26_1).f3)] 60 (0, 0)) (qK BK217)) : gb217 ≠ gb221)); have n14_ := Aside0.mk ((by rw [hg]; exact Nat.ne_of_gt (blk_lt (g := gb217) (o := .cells #[.string ((rd_T60 l0_0 x26_1).f0), .int .i64 ((rd_T60 l0_0 x26_1).f1), .int .i64 ((rd_T60 l0_0 x26_1).f2), .int .i64 ((rd_T60 l0_0 x26_1).f3)] 60 (0, 0)) (qK BK217)) : gb221 ≠ gb217)); clear HO_7; clear HO_8; clear BK208; clear BK209; clear BK217; clear HB; have HO_7 := n0_; have HO_8 := n1_; have BK208 := n2_; have BK209 := n3_; have BK217 := n4_; have HB := n5_; have BK221 := n6_; have GW221 := n7_; have GE221 := n8_; have NB208_221 := n9_; have NB221_208 := n10_; have NB209_221 := n11_; have NB221_209 := n12_; have NB217_221 := n13_; have NB221_217 := n14_; clear n0_ n1_ n2_ n3_ n4_ n5_ n6_ n7_ n8_ n9_ n10_ n11_ n12_ n13_ n14_; clear hb hbox hg; have hnb58 := NB221_208.out; have hnc58 := NB208_221.out; have hnb59 := NB221_209.out; have hnc59 := NB209_221.out; have hnb60 := NB221_217.out; have hnc60 := NB217_221.out; have hcz61_0 : w57.cell? ⟨gb221, 0, none⟩ = some (.int .i64 0) := (blk_cell BK221.out 0).trans rfl; have hcz61_1 : w57.cell? ⟨gb221, 1, none⟩ = some (.int .i64 0) := (blk_cell BK221.out 1).trans rfl; have hcz61_2 : w57.cell? ⟨gb221, 2, none⟩ = some (.int .i64 0) := (blk_cell BK221.out 2).trans rfl; have hfz61_0 := blk_frozen BK221.out 0; have hfz61_1 := blk_frozen BK221.out 1; have hfz61_2 := blk_frozen BK221.out 2)); try go_wp2_with (first | ((with_reducible refine gate_dst (N := 15) rfl ?_); refine qX (N := 15) (cs := #[.int .i64 0, .int .i64 0, .int .i64 0]) (t := 62) ?_; intro gb221 hg w57 hbox hb; have n0_ := Aside0.mk (Kd.R_below (qR HO_7) hb); have n1_ := Aside0.mk (Kd.R_below (qR HO_8) hb); have n2_ := Aside0.mk (blk_below (g := gb208) (o := .cells #[.slice (some ad216) l0_0.length c0_0, .slice A0_1 l0_1.length c0_1] 46 (0, 0)) (qK BK208) hb); have n3_ := Aside0.mk (blk_below (g := gb209) (o := .cells #[.int .i64 x210000_1, .int .i64 x210001_1] 26 (0, 0)) (qK BK209) hb); have n4_ := Aside0.mk (blk_below (g := gb217) (o := .cells #[.string ((rd_T60 l0_0 x26_1).f0), .int .i64 ((rd_T60 l0_0 x26_1).f1), .int .i64 ((rd_T60 l0_0 x26_1).f2), .int .i64 ((rd_T60 l0_0 x26_1).f3)] 60 (0, 0)) (qK BK217) hb); have n5_ := Aside0.mk (below_step qB hb); have n6_ := Aside0.mk (hbox); have n7_ := Aside0.mk ((qG hg : w.heap.size ≤ gb221)); have n8_ := Aside0.mk ((qG hg : w.heap.size ≤ gb221)); have n9_ := Aside0.mk ((by rw [hg]; exact Nat.ne_of_lt (blk_lt (g := gb208) (o := .cells #[.slice (some ad216) l0_0.length c0_0, .slice A0_1 l0_1.length c0_1] 46 (0, 0)) (qK BK208)) : gb208 ≠ gb221)); have n10_ := Aside0.mk ((by rw [hg]; exact Nat.ne_of_gt (blk_lt (g := gb208) (o := .cells #[.slice (some ad216) l0_0.length c0_0, .slice A0_1 l0_1.length c0_1] 46 (0, 0)) (qK BK208)) : gb221 ≠ gb208)); have n11_ := Aside0.mk ((by rw [hg]; exact Nat.ne_of_lt (blk_lt (g := gb209) (o := .cells #[.int .i64 x210000_1, .int .i64 x210001_1] 26 (0, 0)) (qK BK209)) : gb209 ≠ gb221)); have n12_ := Aside0.mk ((by rw [hg]; exact Nat.ne_of_gt (blk_lt (g := gb209) (o := .cells #[.int .i64 x210000_1, .int .i64 x210001_1] 26 (0, 0)) (qK BK209)) : gb221 ≠ gb209)); have n13_ := Aside0.mk ((by rw [hg]; exact Nat.ne_of_lt (blk_lt (g := gb217) (o := .cells #[.string ((rd_T60 l0_0 x26_1).f0), .int .i64 ((rd_T60 l0_0 x26_1).f1), .int .i64 ((rd_T60 l0_0 x26_1).f2), .int .i64 ((rd_T60 l0_0 x26_1).f3)] 60 (0, 0)) (qK BK217)) : gb217 ≠ gb221)); have n14_ := Aside0.mk ((by rw [hg]; exact Nat.ne_of_gt (blk_lt (g := gb217) (o := .cells #[.string ((rd_T60 l0_0 x26_1).f0), .int .i64 ((rd_T60 l0_0 x26_1).f1), .int .i64 ((rd_T60 l0_0 x26_1).f2), .int .i64 ((rd_T60 l0_0 x26_1).f3)] 60 (0, 0)) (qK BK217)) : gb221 ≠ gb217)); clear HO_7; clear HO_8; clear BK208; clear BK209; clear BK217; clear HB; have HO_7 := n0_; have HO_8 := n1_; have BK208 := n2_; have BK209 := n3_; have BK217 := n4_; have HB := n5_; have BK221 := n6_; have GW221 := n7_; have GE221 := n8_; have NB208_221 := n9_; have NB221_208 := n10_; have NB209_221 := n11_; have NB221_209 := n12_; have NB217_221 := n13_; have NB221_217 := n14_; clear n0_ n1_ n2_ n3_ n4_ n5_ n6_ n7_ n8_ n9_ n10_ n11_ n12_ n13_ n14_; clear hb hbox hg; have hnb58 := NB221_208.out; have hnc58 := NB208_221.out; have hnb59 := NB221_209.out; have hnc59 := NB209_221.out; have hnb60 := NB221_217.out; have hnc60 := NB217_221.out; have hcz61_0 : w57.cell? ⟨gb221, 0, none⟩ = some (.int .i64 0) := (blk_cell BK221.out 0).trans rfl; have hcz61_1 : w57.cell? ⟨gb221, 1, none⟩ = some (.int .i64 0) := (blk_cell BK221.out 1).trans rfl; have hcz61_2 : w57.cell? ⟨gb221, 2, none⟩ = some (.int .i64 0) := (blk_cell BK221.out 2).trans rfl; have hfz61_0 := blk_frozen BK221.out 0; have hfz61_1 := blk_frozen BK221.out 1; have hfz61_2 := blk_frozen BK221.out 2)))
                     go_roundg k4
                     case measure => have := HK1.out; have := HJ18.out; have := HJ29.out; have := HK4.out; omega
                     case rel => exact ⟨(x7_4), (x13_4), (wrap64 (x55_4 + 1)), qF, qF, H', ⟨by have := HK1.out; have := HJ18.out; have := HJ29.out; have := HK4.out; omega⟩, ⟨by (with_reducible repeat (first | apply Kd.R_alloc | apply Kd.R_drewN | apply Kd.R_drew)); exact Kd.R_mono (Kd.R_far (p := ⟨gb221, 2, none⟩) (Kd.R_far (p := ⟨gb221, 1, none⟩) (Kd.R_far (p := ⟨gb221, 0, none⟩) (Kd.R_types HO_7.out BK221.out (by decide)) (fun _ hk => hk.2) (.int .i64 ((rd_T62 l1 x55_4).f0))) (fun _ hk => hk.2) (.int .i64 ((rd_T62 l1 x55_4).f1))) (fun _ hk => hk.2) (.int .i64 ((rd_T62 l1 x55_4).f2))) (fun _ hk => trivial)⟩, ⟨by (with_reducible repeat (first | apply Kd.R_alloc | apply Kd.R_drewN | apply Kd.R_drew)); exact Kd.R_mono (Kd.R_far (p := ⟨gb221, 2, none⟩) (Kd.R_far (p := ⟨gb221, 1, none⟩) (Kd.R_far (p := ⟨gb221, 0, none⟩) (Kd.R_types HO_8.out BK221.out (by decide)) (fun _ hk => hk.2) (.int .i64 ((rd_T62 l1 x55_4).f0))) (fun _ hk => hk.2) (.int .i64 ((rd_T62 l1 x55_4).f1))) (fun _ hk => hk.2) (.int .i64 ((rd_T62 l1 x55_4).f2))) (fun _ hk => trivial)⟩, ⟨by (with_reducible repeat (first | refine blk_drewN ?_ _ | refine blk_drew ?_ | refine blk_alloc ?_ _)); refine blk_far ?_ NB208_221.out _; (with_reducible repeat (first | refine blk_drewN ?_ _ | refine blk_drew ?_ | refine blk_alloc ?_ _)); refine blk_far ?_ NB208_221.out _; (with_reducible repeat (first | refine blk_drewN ?_ _ | refine blk_drew ?_ | refine blk_alloc ?_ _)); refine blk_far ?_ NB208_221.out _; exact qK BK208⟩, ⟨by (with_reducible repeat (first | refine blk_drewN ?_ _ | refine blk_drew ?_ | refine blk_alloc ?_ _)); refine blk_far ?_ NB209_221.out _; (with_reducible repeat (first | refine blk_drewN ?_ _ | refine blk_drew ?_ | refine blk_alloc ?_ _)); refine blk_far ?_ NB209_221.out _; (with_reducible repeat (first | refine blk_drewN ?_ _ | refine blk_drew ?_ | refine blk_alloc ?_ _)); refine blk_far ?_ NB209_221.out _; exact qK BK209⟩, ⟨by (with_reducible repeat (first | refine blk_drewN ?_ _ | refine blk_drew ?_ | refine blk_alloc ?_ _)); refine blk_far ?_ NB217_221.out _; (with_reducible repeat (first | refine blk_drewN ?_ _ | refine blk_drew ?_ | refine blk_alloc ?_ _)); refine blk_far ?_ NB217_221.out _; (with_reducible repeat (first | refine blk_drewN ?_ _ | refine blk_drew ?_ | refine blk_alloc ?_ _)); refine blk_far ?_ NB217_221.out _; exact qK BK217⟩, ⟨qB⟩⟩
                   ·rw [if_neg c42] at H
                    exact absurd H (by simp)
                  ·rw [if_neg c41] at H
                   exact absurd H (by simp)
                 ·rw [if_neg c40] at H
                  have c40b0 : decide (x55_4 < (l1.length : Int)) = false := decide_eq_false c40
                  clear c40
                  by_cases c62 : x13_4 > 1048576
                  ·rw [if_pos c62] at H
                   have c62b0 : decide (1048576 < x13_4) = true := decide_eq_true c62
                   clear c62
                   simp only [Option.some.injEq, Prod.mk.injEq] at H
                   obtain ⟨rfl, rfl, rfl, rfl⟩ := H
                   have hnb63 := NB209_208.out
                   have hnc63 := NB208_209.out
                   have hnb64 := NB209_217.out
                   have hnc64 := NB217_209.out
                   have hcz65_0 : wr.cell? ⟨gb209, 0, none⟩ = some (.int .i64 x210000_1) := (blk_cell BK209.out 0).trans rfl
                   have hcz65_1 : wr.cell? ⟨gb209, 1, none⟩ = some (.int .i64 x210001_1) := (blk_cell BK209.out 1).trans rfl
                   have hfz65_0 := blk_frozen BK209.out 0
                   have hfz65_1 := blk_frozen BK209.out 1
                   go_wp2
                   repeat (go_quiet (fail); try go_wp2)
                   refine bodyPost_ret (results_list (rs := [.tmp 4, .tmp 5, .cell 6 26]) rfl (by simp) (.tmp (.tmp (.cell gb209 26 #[.int .i64 10, .int .i64 x26_1] (0, 0) _ rfl (by (with_reducible repeat (first | refine blk_drewN ?_ _ | refine blk_drew ?_ | refine blk_alloc ?_ _)); refine blk_put (cs := #[.int .i64 10, .int .i64 x210001_1]) ?_ 1 _ rfl; (with_reducible repeat (first | refine blk_drewN ?_ _ | refine blk_drew ?_ | refine blk_alloc ?_ _)); refine blk_put (cs := #[.int .i64 x210000_1, .int .i64 x210001_1]) ?_ 0 _ rfl; exact qK BK209) Try.underlying26 rfl (by kernel_rfl) .nil)))) rfl ?_
                   exact ⟨_, _, qE, qL, qL, qB⟩
                  ·rw [if_neg c62] at H
                   have c62b0 : decide (1048576 < x13_4) = false := decide_eq_false c62
                   clear c62
                   by_cases c66 : 0 ≤ x26_1
                   ·rw [if_pos c66] at H
                    have c66b0 : decide (0 ≤ x26_1) = true := decide_eq_true c66
                    clear c66
                    by_cases c67 : x26_1 < (x8_1.length : Int)
                    ·rw [if_pos c67] at H
                     have c67b0 : decide (x26_1 < (x8_1.length : Int)) = true := decide_eq_true c67
                     clear c67
                     obtain ⟨y225, hy225⟩ : ∃ y_ : List (S58), y_ = (x8_1.set (x26_1 : Int).toNat (⟨x12_18, wrap64 (x13_4 - x12_18)⟩ : S58)) := ⟨_, rfl⟩
                     replace H : (place_Assign.l0 k4 l1 x7_4 y225 x13_4 l0_0 (l0_0.length : Int) (wrap64 (x26_1 + 1))) = some (r1, r2, r3, r4) := by first | (rw [hy225]; with_reducible exact H) | (have H2_ := (Option.bind_some _ _).symm.trans H; rw [hy225]; with_reducible exact H2_) | (have H2_ := (Option.bind_some _ _).symm.trans H; with_reducible exact H2_) | with_reducible exact H | (rw [hy225]; exact H) | exact H
                     have Ny225 := Aside0.mk hy225
                     clear hy225
                     have H' := Aside0.mk H
                     clear H
                     have p68 : 0 ≤ (x26_1 : Int) := of_decide_eq_true qO
                     have q68 : (x26_1 : Int) < ((x8_1.length : Int) : Int) := of_decide_eq_true qO
                     obtain ⟨go68, co68, eo68, gb68, gl68, cl68, HG68⟩ := Kd.R_form HO_8.out (by omega)
                     (first | cases eo68 | (injection eo68 with ea_ en_ ec_; (first | subst ea_ | (injection ea_ with ea_; subst ea_)); subst ec_; clear en_))
                     have GB68 := Aside0.mk gb68
                     have GG68 := Aside0.mk HG68
                     clear gb68 gl68 HG68
                     obtain ⟨ce68, hcl68, hM68, hcc68, hfr68⟩ := Kd.R_elem HO_8.out z58 (x26_1 : Int) p68 q68
                     obtain rfl := k58_openM hM68
                     have hx68_0 : wr.cell? ⟨go68, (x26_1 : Int).toNat * 2, none⟩ = some (.int .i64 ((rd_T58 x8_1 x26_1).f0)) := hcc68 0 _ rfl
                     have hx68_1 : wr.cell? ⟨go68, (x26_1 : Int).toNat * 2 + 1, none⟩ = some (.int .i64 ((rd_T58 x8_1 x26_1).f1)) := hcc68 1 _ rfl
                     have hf68_0 : wr.frozen? ⟨go68, (x26_1 : Int).toNat * 2, none⟩ = false := hfr68 0
                     have hf68_1 : wr.frozen? ⟨go68, (x26_1 : Int).toNat * 2 + 1, none⟩ = false := hfr68 1
                     clear hcl68 hcc68 hfr68 hM68
                     replace p68 := eq_true p68
                     replace q68 := eq_true q68
                     have HX69 := Aside0.mk (show Kd.R k58 58 wr w.heap.size (fun _ => True) (.slice (some ⟨go68, 0, none⟩) x8_1.length co68) x8_1 from (qR HO_8))
                     obtain ⟨ce69, hcl69, hM69, hcc69, hfr69⟩ := Kd.R_elem HX69.out z58 (x26_1 : Int) (of_decide_eq_true qO) (by have h_ : (x26_1 : Int) < ((x8_1.length : Int) : Int) := of_decide_eq_true qO; first | exact h_ | (have e_ := (Kd.R_reads' HO_8.out).1; omega) | simpa using h_)
                     obtain rfl := k58_openM hM69
                     have HP69 := Kd.R_seg HX69.out (x26_1 : Int) (of_decide_eq_true qO) (by have h_ : (x26_1 : Int) < ((x8_1.length : Int) : Int) := of_decide_eq_true qO; first | exact h_ | (have e_ := (Kd.R_reads' HO_8.out).1; omega) | simpa using h_) (seg := [.int .i64 x12_18, .int .i64 (wrap64 (x13_4 - x12_18))]) (j := 0) hcl69 hcc69 (show 2 ≤ 2 from by decide) (x' := (⟨x12_18, wrap64 (x13_4 - x12_18)⟩ : S58)) (k58_mkM _ _ _ (⟨x12_18, wrap64 (x13_4 - x12_18)⟩ : S58) ) (fun _ hk => hk)
                     have hx69_0 := hcc69 0 _ rfl
                     (try simp only [show (k58).sz = 2 from rfl, Nat.mul_one, Nat.add_zero] at hx69_0)
                     have hf69_0 := hfr69 0
                     (try simp only [show (k58).sz = 2 from rfl, Nat.mul_one, Nat.add_zero] at hf69_0)
                     have hx69_1 := hcc69 1 _ rfl
                     (try simp only [show (k58).sz = 2 from rfl, Nat.mul_one, Nat.add_zero] at hx69_1)
                     have hf69_1 := hfr69 1
                     (try simp only [show (k58).sz = 2 from rfl, Nat.mul_one, Nat.add_zero] at hf69_1)
                     clear hcl69 hcc69 hfr69 hM69
                     go_wp2_with (first | ((with_reducible refine gate_store (t := 58) (p := 90) rfl ?_); (try (rw [drewN_self wr]; generalize hq_ : World.drewN wr _ = wr; have n0_ := Aside0.mk (Kd.R_at hq_ HO_7.out); have n1_ := Aside0.mk (Kd.R_at hq_ HO_8.out); have n2_ := Aside0.mk (blk_at hq_ BK208.out); have n3_ := Aside0.mk (blk_at hq_ BK209.out); have n4_ := Aside0.mk (blk_at hq_ BK217.out); have n5_ := Aside0.mk (below_at hq_ HB.out); clear hq_ HO_7 HO_8 BK208 BK209 BK217 HB; have HO_7 := n0_; have HO_8 := n1_; have BK208 := n2_; have BK209 := n3_; have BK217 := n4_; have HB := n5_; clear n0_ n1_ n2_ n3_ n4_ n5_; (try (have HX69 := Aside0.mk (show Kd.R k58 58 wr w.heap.size (fun _ => True) (.slice (some ⟨go68, 0, none⟩) x8_1.length co68) x8_1 from (qR HO_8)))); (try (obtain ⟨ce69, hcl69, hM69, hcc69, hfr69⟩ := Kd.R_elem HX69.out z58 (x26_1 : Int) (of_decide_eq_true qO) (by have h_ : (x26_1 : Int) < ((x8_1.length : Int) : Int) := of_decide_eq_true qO; first | exact h_ | (have e_ := (Kd.R_reads' HO_8.out).1; omega) | simpa using h_))); (try (obtain rfl := k58_openM hM69)); (try (have HP69 := Kd.R_seg HX69.out (x26_1 : Int) (of_decide_eq_true qO) (by have h_ : (x26_1 : Int) < ((x8_1.length : Int) : Int) := of_decide_eq_true qO; first | exact h_ | (have e_ := (Kd.R_reads' HO_8.out).1; omega) | simpa using h_) (seg := [.int .i64 x12_18, .int .i64 (wrap64 (x13_4 - x12_18))]) (j := 0) hcl69 hcc69 (show 2 ≤ 2 from by decide) (x' := (⟨x12_18, wrap64 (x13_4 - x12_18)⟩ : S58)) (k58_mkM _ _ _ (⟨x12_18, wrap64 (x13_4 - x12_18)⟩ : S58) ) (fun _ hk => hk))); (try (have hx69_0 := hcc69 0 _ rfl)); (try (try simp only [show (k58).sz = 2 from rfl, Nat.mul_one, Nat.add_zero] at hx69_0)); (try (have hf69_0 := hfr69 0)); (try (try simp only [show (k58).sz = 2 from rfl, Nat.mul_one, Nat.add_zero] at hf69_0)); (try (have hx69_1 := hcc69 1 _ rfl)); (try (try simp only [show (k58).sz = 2 from rfl, Nat.mul_one, Nat.add_zero] at hx69_1)); (try (have hf69_1 := hfr69 1)); (try (try simp only [show (k58).sz = 2 from rfl, Nat.mul_one, Nat.add_zero] at hf69_1)); (try (clear hcl69 hcc69 hfr69 hM69)))); refine store_event (t := 58) (p := 90) (v := ?vo_w70) (w1 := ((wr.setCell ⟨go68, (x26_1 : Int).toNat * 2, none⟩ (.int .i64 x12_18)).setCell ⟨go68, (x26_1 : Int).toNat * 2 + 1, none⟩ (.int .i64 (wrap64 (x13_4 - x12_18))))) ?hg ?ho ?hn ?hr ?_; (case ho => rfl); (case hg => rfl); (case hn => rfl); (case hr => first | (go_simp; done) | (go_simp; rfl)); intro w70 hw; have hg : wr.grownBy w70 (some go68) := (by rw [hw]; exact HP69.2); have hp_ : Kd.R k58 58 w70 w.heap.size (fun _ => True) (.slice (some ⟨go68, 0, none⟩) x8_1.length co68) y225 := (by rw [hw, Ny225.out]; exact HP69.1); clear HP69; have n0_ := Aside0.mk (Kd.R_over' (v := (.slice (some ⟨go68, 0, none⟩) x8_1.length co68)) (qR HO_7) (Kd.R_typed HO_8.out) (by decide) hg); have n1_ := Aside0.mk (hp_); have n2_ := Aside0.mk (blk_grown (g := gb208) (o := .cells #[.slice (some ad216) l0_0.length c0_0, .slice A0_1 l0_1.length c0_1] 46 (0, 0)) (qK BK208) hg (Kd.R_ne HO_8.out BK208.out (by decide))); have n3_ := Aside0.mk (blk_grown (g := gb209) (o := .cells #[.int .i64 x210000_1, .int .i64 x210001_1] 26 (0, 0)) (qK BK209) hg (Kd.R_ne HO_8.out BK209.out (by decide))); have n4_ := Aside0.mk (blk_grown (g := gb217) (o := .cells #[.string ((rd_T60 l0_0 x26_1).f0), .int .i64 ((rd_T60 l0_0 x26_1).f1), .int .i64 ((rd_T60 l0_0 x26_1).f2), .int .i64 ((rd_T60 l0_0 x26_1).f3)] 60 (0, 0)) (qK BK217) hg (Kd.R_ne HO_8.out BK217.out (by decide))); have n5_ := Aside0.mk ((by rw [hw]; exact below_set (below_set (HB.out) GB68.out) GB68.out : Below w.heap.size w w70)); clear HO_7; clear HO_8; clear BK208; clear BK209; clear BK217; clear HB; have HO_7 := n0_; have HO_8 := n1_; have BK208 := n2_; have BK209 := n3_; have BK217 := n4_; have HB := n5_; clear n0_ n1_ n2_ n3_ n4_ n5_; clear hg hw hp_))
                     repeat (go_quiet (first | ((with_reducible refine gate_store (t := 58) (p := 90) rfl ?_); (try (rw [drewN_self wr]; generalize hq_ : World.drewN wr _ = wr; have n0_ := Aside0.mk (Kd.R_at hq_ HO_7.out); have n1_ := Aside0.mk (Kd.R_at hq_ HO_8.out); have n2_ := Aside0.mk (blk_at hq_ BK208.out); have n3_ := Aside0.mk (blk_at hq_ BK209.out); have n4_ := Aside0.mk (blk_at hq_ BK217.out); have n5_ := Aside0.mk (below_at hq_ HB.out); clear hq_ HO_7 HO_8 BK208 BK209 BK217 HB; have HO_7 := n0_; have HO_8 := n1_; have BK208 := n2_; have BK209 := n3_; have BK217 := n4_; have HB := n5_; clear n0_ n1_ n2_ n3_ n4_ n5_; (try (have HX69 := Aside0.mk (show Kd.R k58 58 wr w.heap.size (fun _ => True) (.slice (some ⟨go68, 0, none⟩) x8_1.length co68) x8_1 from (qR HO_8)))); (try (obtain ⟨ce69, hcl69, hM69, hcc69, hfr69⟩ := Kd.R_elem HX69.out z58 (x26_1 : Int) (of_decide_eq_true qO) (by have h_ : (x26_1 : Int) < ((x8_1.length : Int) : Int) := of_decide_eq_true qO; first | exact h_ | (have e_ := (Kd.R_reads' HO_8.out).1; omega) | simpa using h_))); (try (obtain rfl := k58_openM hM69)); (try (have HP69 := Kd.R_seg HX69.out (x26_1 : Int) (of_decide_eq_true qO) (by have h_ : (x26_1 : Int) < ((x8_1.length : Int) : Int) := of_decide_eq_true qO; first | exact h_ | (have e_ := (Kd.R_reads' HO_8.out).1; omega) | simpa using h_) (seg := [.int .i64 x12_18, .int .i64 (wrap64 (x13_4 - x12_18))]) (j := 0) hcl69 hcc69 (show 2 ≤ 2 from by decide) (x' := (⟨x12_18, wrap64 (x13_4 - x12_18)⟩ : S58)) (k58_mkM _ _ _ (⟨x12_18, wrap64 (x13_4 - x12_18)⟩ : S58) ) (fun _ hk => hk))); (try (have hx69_0 := hcc69 0 _ rfl)); (try (try simp only [show (k58).sz = 2 from rfl, Nat.mul_one, Nat.add_zero] at hx69_0)); (try (have hf69_0 := hfr69 0)); (try (try simp only [show (k58).sz = 2 from rfl, Nat.mul_one, Nat.add_zero] at hf69_0)); (try (have hx69_1 := hcc69 1 _ rfl)); (try (try simp only [show (k58).sz = 2 from rfl, Nat.mul_one, Nat.add_zero] at hx69_1)); (try (have hf69_1 := hfr69 1)); (try (try simp only [show (k58).sz = 2 from rfl, Nat.mul_one, Nat.add_zero] at hf69_1)); (try (clear hcl69 hcc69 hfr69 hM69)))); refine store_event (t := 58) (p := 90) (v := ?vo_w70) (w1 := ((wr.setCell ⟨go68, (x26_1 : Int).toNat * 2, none⟩ (.int .i64 x12_18)).setCell ⟨go68, (x26_1 : Int).toNat * 2 + 1, none⟩ (.int .i64 (wrap64 (x13_4 - x12_18))))) ?hg ?ho ?hn ?hr ?_; (case ho => rfl); (case hg => rfl); (case hn => rfl); (case hr => first | (go_simp; done) | (go_simp; rfl)); intro w70 hw; have hg : wr.grownBy w70 (some go68) := (by rw [hw]; exact HP69.2); have hp_ : Kd.R k58 58 w70 w.heap.size (fun _ => True) (.slice (some ⟨go68, 0, none⟩) x8_1.length co68) y225 := (by rw [hw, Ny225.out]; exact HP69.1); clear HP69; have n0_ := Aside0.mk (Kd.R_over' (v := (.slice (some ⟨go68, 0, none⟩) x8_1.length co68)) (qR HO_7) (Kd.R_typed HO_8.out) (by decide) hg); have n1_ := Aside0.mk (hp_); have n2_ := Aside0.mk (blk_grown (g := gb208) (o := .cells #[.slice (some ad216) l0_0.length c0_0, .slice A0_1 l0_1.length c0_1] 46 (0, 0)) (qK BK208) hg (Kd.R_ne HO_8.out BK208.out (by decide))); have n3_ := Aside0.mk (blk_grown (g := gb209) (o := .cells #[.int .i64 x210000_1, .int .i64 x210001_1] 26 (0, 0)) (qK BK209) hg (Kd.R_ne HO_8.out BK209.out (by decide))); have n4_ := Aside0.mk (blk_grown (g := gb217) (o := .cells #[.string ((rd_T60 l0_0 x26_1).f0), .int .i64 ((rd_T60 l0_0 x26_1).f1), .int .i64 ((rd_T60 l0_0 x26_1).f2), .int .i64 ((rd_T60 l0_0 x26_1).f3)] 60 (0, 0)) (qK BK217) hg (Kd.R_ne HO_8.out BK217.out (by decide))); have n5_ := Aside0.mk ((by rw [hw]; exact below_set (below_set (HB.out) GB68.out) GB68.out : Below w.heap.size w w70)); clear HO_7; clear HO_8; clear BK208; clear BK209; clear BK217; clear HB; have HO_7 := n0_; have HO_8 := n1_; have BK208 := n2_; have BK209 := n3_; have BK217 := n4_; have HB := n5_; clear n0_ n1_ n2_ n3_ n4_ n5_; clear hg hw hp_)); try go_wp2_with (first | ((with_reducible refine gate_store (t := 58) (p := 90) rfl ?_); (try (rw [drewN_self wr]; generalize hq_ : World.drewN wr _ = wr; have n0_ := Aside0.mk (Kd.R_at hq_ HO_7.out); have n1_ := Aside0.mk (Kd.R_at hq_ HO_8.out); have n2_ := Aside0.mk (blk_at hq_ BK208.out); have n3_ := Aside0.mk (blk_at hq_ BK209.out); have n4_ := Aside0.mk (blk_at hq_ BK217.out); have n5_ := Aside0.mk (below_at hq_ HB.out); clear hq_ HO_7 HO_8 BK208 BK209 BK217 HB; have HO_7 := n0_; have HO_8 := n1_; have BK208 := n2_; have BK209 := n3_; have BK217 := n4_; have HB := n5_; clear n0_ n1_ n2_ n3_ n4_ n5_; (try (have HX69 := Aside0.mk (show Kd.R k58 58 wr w.heap.size (fun _ => True) (.slice (some ⟨go68, 0, none⟩) x8_1.length co68) x8_1 from (qR HO_8)))); (try (obtain ⟨ce69, hcl69, hM69, hcc69, hfr69⟩ := Kd.R_elem HX69.out z58 (x26_1 : Int) (of_decide_eq_true qO) (by have h_ : (x26_1 : Int) < ((x8_1.length : Int) : Int) := of_decide_eq_true qO; first | exact h_ | (have e_ := (Kd.R_reads' HO_8.out).1; omega) | simpa using h_))); (try (obtain rfl := k58_openM hM69)); (try (have HP69 := Kd.R_seg HX69.out (x26_1 : Int) (of_decide_eq_true qO) (by have h_ : (x26_1 : Int) < ((x8_1.length : Int) : Int) := of_decide_eq_true qO; first | exact h_ | (have e_ := (Kd.R_reads' HO_8.out).1; omega) | simpa using h_) (seg := [.int .i64 x12_18, .int .i64 (wrap64 (x13_4 - x12_18))]) (j := 0) hcl69 hcc69 (show 2 ≤ 2 from by decide) (x' := (⟨x12_18, wrap64 (x13_4 - x12_18)⟩ : S58)) (k58_mkM _ _ _ (⟨x12_18, wrap64 (x13_4 - x12_18)⟩ : S58) ) (fun _ hk => hk))); (try (have hx69_0 := hcc69 0 _ rfl)); (try (try simp only [show (k58).sz = 2 from rfl, Nat.mul_one, Nat.add_zero] at hx69_0)); (try (have hf69_0 := hfr69 0)); (try (try simp only [show (k58).sz = 2 from rfl, Nat.mul_one, Nat.add_zero] at hf69_0)); (try (have hx69_1 := hcc69 1 _ rfl)); (try (try simp only [show (k58).sz = 2 from rfl, Nat.mul_one, Nat.add_zero] at hx69_1)); (try (have hf69_1 := hfr69 1)); (try (try simp only [show (k58).sz = 2 from rfl, Nat.mul_one, Nat.add_zero] at hf69_1)); (try (clear hcl69 hcc69 hfr69 hM69)))); refine store_event (t := 58) (p := 90) (v := ?vo_w70) (w1 := ((wr.setCell ⟨go68, (x26_1 : Int).toNat * 2, none⟩ (.int .i64 x12_18)).setCell ⟨go68, (x26_1 : Int).toNat * 2 + 1, none⟩ (.int .i64 (wrap64 (x13_4 - x12_18))))) ?hg ?ho ?hn ?hr ?_; (case ho => rfl); (case hg => rfl); (case hn => rfl); (case hr => first | (go_simp; done) | (go_simp; rfl)); intro w70 hw; have hg : wr.grownBy w70 (some go68) := (by rw [hw]; exact HP69.2); have hp_ : Kd.R k58 58 w70 w.heap.size (fun _ => True) (.slice (some ⟨go68, 0, none⟩) x8_1.length co68) y225 := (by rw [hw, Ny225.out]; exact HP69.1); clear HP69; have n0_ := Aside0.mk (Kd.R_over' (v := (.slice (some ⟨go68, 0, none⟩) x8_1.length co68)) (qR HO_7) (Kd.R_typed HO_8.out) (by decide) hg); have n1_ := Aside0.mk (hp_); have n2_ := Aside0.mk (blk_grown (g := gb208) (o := .cells #[.slice (some ad216) l0_0.length c0_0, .slice A0_1 l0_1.length c0_1] 46 (0, 0)) (qK BK208) hg (Kd.R_ne HO_8.out BK208.out (by decide))); have n3_ := Aside0.mk (blk_grown (g := gb209) (o := .cells #[.int .i64 x210000_1, .int .i64 x210001_1] 26 (0, 0)) (qK BK209) hg (Kd.R_ne HO_8.out BK209.out (by decide))); have n4_ := Aside0.mk (blk_grown (g := gb217) (o := .cells #[.string ((rd_T60 l0_0 x26_1).f0), .int .i64 ((rd_T60 l0_0 x26_1).f1), .int .i64 ((rd_T60 l0_0 x26_1).f2), .int .i64 ((rd_T60 l0_0 x26_1).f3)] 60 (0, 0)) (qK BK217) hg (Kd.R_ne HO_8.out BK217.out (by decide))); have n5_ := Aside0.mk ((by rw [hw]; exact below_set (below_set (HB.out) GB68.out) GB68.out : Below w.heap.size w w70)); clear HO_7; clear HO_8; clear BK208; clear BK209; clear BK217; clear HB; have HO_7 := n0_; have HO_8 := n1_; have BK208 := n2_; have BK209 := n3_; have BK217 := n4_; have HB := n5_; clear n0_ n1_ n2_ n3_ n4_ n5_; clear hg hw hp_)))
                     go_roundg k4
                     case measure => have := HK1.out; have := HJ18.out; have := HJ29.out; have := HK4.out; omega
                     case rel => exact ⟨(x7_4), (y225), (x13_4), (wrap64 (x26_1 + 1)), (x210000_1), (x210001_1), qF, qF, H', ⟨by have := HK1.out; have := HJ18.out; have := HJ29.out; have := HK4.out; omega⟩, ⟨qR HO_7⟩, ⟨qR HO_8⟩, ⟨qK BK208⟩, ⟨qK BK209⟩, ⟨qB⟩⟩
                    ·rw [if_neg c67] at H
                     exact absurd H (by simp)
                   ·rw [if_neg c66] at H
                    exact absurd H (by simp)
         ·rw [if_neg c18] at H
          exact absurd H (by simp)
        ·rw [if_neg c17] at H
         exact absurd H (by simp)
       ·rw [if_neg c16] at H
        have c16b0 : decide (x26_1 < (l0_0.length : Int)) = false := decide_eq_false c16
        clear c16
        simp only [Option.some.injEq, Prod.mk.injEq] at H
        obtain ⟨rfl, rfl, rfl, rfl⟩ := H
        have hnb71 := NB209_208.out
        have hnc71 := NB208_209.out
        have hcz72_0 : wr.cell? ⟨gb209, 0, none⟩ = some (.int .i64 x210000_1) := (blk_cell BK209.out 0).trans rfl
        have hcz72_1 : wr.cell? ⟨gb209, 1, none⟩ = some (.int .i64 x210001_1) := (blk_cell BK209.out 1).trans rfl
        have hfz72_0 := blk_frozen BK209.out 0
        have hfz72_1 := blk_frozen BK209.out 1
        go_wp2
        repeat (go_quiet (fail); try go_wp2)
        refine bodyPost_ret (results_list (rs := [.tmp 4, .tmp 5, .cell 6 26]) rfl (by simp) (.tmp (.tmp (.cell gb209 26 #[.int .i64 0, .int .i64 0] (0, 0) _ rfl (by (with_reducible repeat (first | refine blk_drewN ?_ _ | refine blk_drew ?_ | refine blk_alloc ?_ _)); refine blk_put (cs := #[.int .i64 0, .int .i64 x210001_1]) ?_ 1 _ rfl; (with_reducible repeat (first | refine blk_drewN ?_ _ | refine blk_drew ?_ | refine blk_alloc ?_ _)); refine blk_put (cs := #[.int .i64 x210000_1, .int .i64 x210001_1]) ?_ 0 _ rfl; exact qK BK209) Try.underlying26 rfl (by kernel_rfl) .nil)))) rfl ?_
        exact ⟨_, _, qE, by (with_reducible repeat (first | apply Kd.R_alloc | apply Kd.R_drewN | apply Kd.R_drew)); exact Kd.R_mono (Kd.R_far (p := ⟨gb209, 1, none⟩) (Kd.R_far (p := ⟨gb209, 0, none⟩) (Kd.R_types HO_7.out BK209.out (by decide)) (fun _ hk => hk.2) (.int .i64 0)) (fun _ hk => hk.2) (.int .i64 0)) (fun _ hk => trivial), by (with_reducible repeat (first | apply Kd.R_alloc | apply Kd.R_drewN | apply Kd.R_drew)); exact Kd.R_mono (Kd.R_far (p := ⟨gb209, 1, none⟩) (Kd.R_far (p := ⟨gb209, 0, none⟩) (Kd.R_types HO_8.out BK209.out (by decide)) (fun _ hk => hk.2) (.int .i64 0)) (fun _ hk => hk.2) (.int .i64 0)) (fun _ hk => trivial), qB⟩
    ·rw [if_neg c6] at H
     exact absurd H (by simp)
   ·rw [if_neg c5] at H
    exact absurd H (by simp)
  ·rw [if_neg c4] at H
   exact absurd H (by simp)
 ·rw [if_neg c3] at H
  exact absurd H (by simp)

end Go.Proofs.Ytnbeamaoblmbhaa.PPlace
