/- Written by a program of this session, for the law(s) Place: contracts of the Go functions that the law reaches, each against a plain Lean function. No condition. -/
import Derived.Test.YtnbeamaoblmbhaaPPlacex0
import Derived.Test.YtnbeamaoblmbhaaPPlacex12
import Derived.Test.YtnbeamaoblmbhaaPPlacex13
namespace Go.Proofs.Ytnbeamaoblmbhaa.PPlace
open Go.RowKit Go.Proofs.YtnbeamaoblmbhaaW.PrintWords Go.Proofs.YtnbeamaoblmbhaaW.PrintLast Go.Proofs.YtnbeamaoblmbhaaW.PrintMore
attribute [local go_sem] max2_int min2_int max_two min_two max_three min_three max_four min_four   -- for this text's walks alone
set_option linter.unusedVariables false
set_option linter.unusedSimpArgs false

/-! ### law_PlaceMoreBehind: function 9 -/
def law_PlaceMoreBehind.j0 : Nat → List Int → List Int → Bool → Int → Int → Option (Bool)
 | 0, _, _, _, _, _ => none
 | k + 1, x7, x11, x50, x375000, x375001 => if x50 = true then ((law_placesItems.f k).bind fun t394 => (if t394 = true then (if x375000 = 0 then (some true) else (some ((x7.length : Int) == 0))) else (none))) else (if (x11.length : Int) = (wrap64 ((x7.length : Int) + 1)) then (if 0 ≤ (x7.length : Int) then (if (x7.length : Int) ≤ (x11.length : Int) then ((law_ints.f k (x11.take ((x7.length : Int) : Int).toNat) x7).bind fun t399 => (some t399)) else (none)) else (none)) else (none))
def law_PlaceMoreBehind.f (k : Nat) (l0_0 : List (S60)) (l0_1 : List (S72)) (l1 : List (S62)) (a2_0 : Int) (a2_1 : Int) (a2_2 : Int) : Option (Bool) := (place_Layout.f k l0_0 l0_1 l1).bind fun bt366 => (if ([] : List (S62)).length + l1.length < 5864062014805 then ((some (([] : List (S62)) ++ l1 : List (S62))).bind fun y375 => ((some (([(⟨wrap64 ((l0_0.length : Int) - 1), a2_1, a2_2⟩ : S62)] : List (S62)) : List (S62))).bind fun y378 => (if y375.length + y378.length < 5864062014805 then ((place_Layout.f k l0_0 l0_1 (y375 ++ y378)).bind fun bt384 => ((law_placesItems.f k).bind fun t393 => (if t393 = true then (if bt366.2.2.1 = 0 then (law_PlaceMoreBehind.j0 k bt366.1 bt384.1 (bt384.2.2.1 != 0) bt366.2.2.1 bt366.2.2.2) else (law_PlaceMoreBehind.j0 k bt366.1 bt384.1 true bt366.2.2.1 bt366.2.2.2)) else (law_PlaceMoreBehind.j0 k bt366.1 bt384.1 true bt366.2.2.1 bt366.2.2.2)))) else (none)))) else (none))
theorem law_PlaceMoreBehind.mono_l : ∀ k, (∀ y0 y1 y2 y3 y4, LeO (law_PlaceMoreBehind.j0 k y0 y1 y2 y3 y4) (law_PlaceMoreBehind.j0 (k + 1) y0 y1 y2 y3 y4))
 | 0 => fun _ _ _ _ _ r h => by simp [law_PlaceMoreBehind.j0] at h
 | k + 1 => by
  have ih0 := law_PlaceMoreBehind.mono_l k
  ·intro y0 y1 y2 y3 y4
   unfold law_PlaceMoreBehind.j0
   repeat' first
   | (with_reducible exact ih0 _ _ _ _ _)
   | (with_reducible exact law_ints.mono _ _ _)
   | (with_reducible exact law_placesItems.mono _)
   | (with_reducible exact place_Layout.mono _ _ _ _)
   | (with_reducible exact LeO.refl _)
   | (with_reducible exact LeO.none _)
   | (with_reducible refine LeO.ite ?_ ?_)
   | (with_reducible refine LeO.bind ?_ (fun _ => ?_))
   | exact ih0 _ _ _ _ _
   | exact law_ints.mono _ _ _
   | exact law_placesItems.mono _
   | exact place_Layout.mono _ _ _ _
   | exact LeO.none _
   | refine LeO.ite ?_ ?_
   | refine LeO.bind ?_ (fun _ => ?_)
theorem law_PlaceMoreBehind.mono : ∀ a0 a1 a2 a3 a4 a5 k, LeO (law_PlaceMoreBehind.f k a0 a1 a2 a3 a4 a5) (law_PlaceMoreBehind.f (k + 1) a0 a1 a2 a3 a4 a5) := by
 intro a0 a1 a2 a3 a4 a5 k
 have ih0 := law_PlaceMoreBehind.mono_l k
 unfold law_PlaceMoreBehind.f
 repeat' first
   | (with_reducible exact ih0 _ _ _ _ _)
   | (with_reducible exact law_ints.mono _ _ _)
   | (with_reducible exact law_placesItems.mono _)
   | (with_reducible exact place_Layout.mono _ _ _ _)
   | (with_reducible exact LeO.refl _)
   | (with_reducible exact LeO.none _)
   | (with_reducible refine LeO.ite ?_ ?_)
   | (with_reducible refine LeO.bind ?_ (fun _ => ?_))
   | exact ih0 _ _ _ _ _
   | exact law_ints.mono _ _ _
   | exact law_placesItems.mono _
   | exact place_Layout.mono _ _ _ _
   | exact LeO.none _
   | refine LeO.ite ?_ ?_
   | refine LeO.bind ?_ (fun _ => ?_)
def law_PlaceMoreBehind.T5 : Bool × List (List Nat × List Nat) := (true, [([], []), ([], []), ([], []), ([2], [2]), ([1, 3], [1, 3]), ([0, 4, 4], [0, 4]), ([5], [5]), ([6], [6]), ([6], [6]), ([6], [6]), ([], []), ([7, 5, 0, 1, 2, 3, 4, 5, 6, 7, 10], [7]), ([8, 11, 0, 1, 2, 3, 4, 5, 6, 7, 8, 10, 11], [8]), ([10, 9, 12, 0, 1, 2, 3, 4, 5, 6, 7, 8, 9, 10, 11, 12], [9, 10])])
def law_PlaceMoreBehind.B5 : List Nat := [0, 0, 0, 4, 14, 31, 63, 127, 127, 127, 0, 1279, 3583, 8191]
theorem law_PlaceMoreBehind.tab5 : rtab .any (opsOf Try.f9 5) = law_PlaceMoreBehind.T5 := by kernel_rfl
theorem law_PlaceMoreBehind.bits5 : waitsOk law_PlaceMoreBehind.T5.2 law_PlaceMoreBehind.B5 = true := by kernel_rfl
set_option maxHeartbeats 8000000 in
set_option maxRecDepth 100000 in
theorem law_PlaceMoreBehind.calls (k : Nat) (A0_0 : Option Addr) (c0_0 : Nat) (l0_0 : List (S60)) (A0_1 : Option Addr) (c0_1 : Nat) (l0_1 : List (S72)) (A1 : Option Addr) (c1 : Nat) (l1 : List (S62)) (a2_0 : Int) (a2_1 : Int) (a2_2 : Int) (r : Bool) (w : World) (hr0_0 : Kd.C k60 w A0_0 l0_0.length l0_0) (hc0_0 : l0_0.length ≤ c0_0) (hr0_1 : Kd.C k72 w A0_1 l0_1.length l0_1) (hc0_1 : l0_1.length ≤ c0_1) (hr1 : Kd.C k62 w A1 l1.length l1) (hc1 : l1.length ≤ c1) (h : law_PlaceMoreBehind.f k l0_0 l0_1 l1 a2_0 a2_1 a2_2 = some r) :
  Calls Try.prog 9 #[.agg #[.slice A0_0 l0_0.length c0_0, .slice A0_1 l0_1.length c0_1], .slice A1 l1.length c1, .agg #[.int .i64 a2_0, .int .i64 a2_1, .int .i64 a2_2]] w fun e w' => e = .returned (.bool r) ∧ Below w.heap.size w w' := by
 have hu46 := Try.underlying46
 have hu62 := Try.underlying62
 have hu26 := Try.underlying26
 have HR0_0 := Aside0.mk hr0_0
 have HC0_0 := Aside0.mk hc0_0
 clear hr0_0 hc0_0
 have HR0_1 := Aside0.mk hr0_1
 have HC0_1 := Aside0.mk hc0_1
 clear hr0_1 hc0_1
 have HR1 := Aside0.mk hr1
 have HC1 := Aside0.mk hc1
 clear hr1 hc1
 have HB := Aside0.mk (Below.refl w.heap.size w)
 have H : ((place_Layout.f k l0_0 l0_1 l1).bind fun bt366 => (if ([] : List (S62)).length + l1.length < 5864062014805 then ((some (([] : List (S62)) ++ l1 : List (S62))).bind fun y375 => ((some (([(⟨wrap64 ((l0_0.length : Int) - 1), a2_1, a2_2⟩ : S62)] : List (S62)) : List (S62))).bind fun y378 => (if y375.length + y378.length < 5864062014805 then ((place_Layout.f k l0_0 l0_1 (y375 ++ y378)).bind fun bt384 => ((law_placesItems.f k).bind fun t393 => (if t393 = true then (if bt366.2.2.1 = 0 then (law_PlaceMoreBehind.j0 k bt366.1 bt384.1 (bt384.2.2.1 != 0) bt366.2.2.1 bt366.2.2.2) else (law_PlaceMoreBehind.j0 k bt366.1 bt384.1 true bt366.2.2.1 bt366.2.2.2)) else (law_PlaceMoreBehind.j0 k bt366.1 bt384.1 true bt366.2.2.1 bt366.2.2.2)))) else (none)))) else (none))) = some r := h
 clear h
 replace H := Option.bind_eq_some_iff.mp H
 obtain ⟨⟨t366, t369, t372, t373⟩, A40, H⟩ := H
 replace H : (if ([] : List (S62)).length + l1.length < 5864062014805 then ((some (([] : List (S62)) ++ l1 : List (S62))).bind fun y375 => ((some (([(⟨wrap64 ((l0_0.length : Int) - 1), a2_1, a2_2⟩ : S62)] : List (S62)) : List (S62))).bind fun y378 => (if y375.length + y378.length < 5864062014805 then ((place_Layout.f k l0_0 l0_1 (y375 ++ y378)).bind fun bt384 => ((law_placesItems.f k).bind fun t393 => (if t393 = true then (if t372 = 0 then (law_PlaceMoreBehind.j0 k t366 bt384.1 (bt384.2.2.1 != 0) t372 t373) else (law_PlaceMoreBehind.j0 k t366 bt384.1 true t372 t373)) else (law_PlaceMoreBehind.j0 k t366 bt384.1 true t372 t373)))) else (none)))) else (none)) = some r := H
 have A4 := Aside0.mk A40
 clear A40
 by_cases c5 : ([] : List (S62)).length + l1.length < 5864062014805
 ·rw [if_pos c5] at H
  have LMc5 := Aside0.mk c5
  clear c5
  obtain ⟨y375, hy375⟩ : ∃ y_ : List (S62), y_ = (([] : List (S62)) ++ l1) := ⟨_, rfl⟩
  replace H : ((some (([(⟨wrap64 ((l0_0.length : Int) - 1), a2_1, a2_2⟩ : S62)] : List (S62)) : List (S62))).bind fun y378 => (if y375.length + y378.length < 5864062014805 then ((place_Layout.f k l0_0 l0_1 (y375 ++ y378)).bind fun bt384 => ((law_placesItems.f k).bind fun t393 => (if t393 = true then (if t372 = 0 then (law_PlaceMoreBehind.j0 k t366 bt384.1 (bt384.2.2.1 != 0) t372 t373) else (law_PlaceMoreBehind.j0 k t366 bt384.1 true t372 t373)) else (law_PlaceMoreBehind.j0 k t366 bt384.1 true t372 t373)))) else (none))) = some r := by first | (rw [hy375]; with_reducible exact H) | (have H2_ := (Option.bind_some _ _).symm.trans H; rw [hy375]; with_reducible exact H2_) | (have H2_ := (Option.bind_some _ _).symm.trans H; with_reducible exact H2_) | with_reducible exact H | (rw [hy375]; exact H) | exact H
  have Ny375 := Aside0.mk hy375
  clear hy375
  obtain ⟨y378, hy378⟩ : ∃ y_ : List (S62), y_ = (([(⟨wrap64 ((l0_0.length : Int) - 1), a2_1, a2_2⟩ : S62)] : List (S62))) := ⟨_, rfl⟩
  replace H : (if y375.length + y378.length < 5864062014805 then ((place_Layout.f k l0_0 l0_1 (y375 ++ y378)).bind fun bt384 => ((law_placesItems.f k).bind fun t393 => (if t393 = true then (if t372 = 0 then (law_PlaceMoreBehind.j0 k t366 bt384.1 (bt384.2.2.1 != 0) t372 t373) else (law_PlaceMoreBehind.j0 k t366 bt384.1 true t372 t373)) else (law_PlaceMoreBehind.j0 k t366 bt384.1 true t372 t373)))) else (none)) = some r := by first | (rw [hy378]; with_reducible exact H) | (have H2_ := (Option.bind_some _ _).symm.trans H; rw [hy378]; with_reducible exact H2_) | (have H2_ := (Option.bind_some _ _).symm.trans H; with_reducible exact H2_) | with_reducible exact H | (rw [hy378]; exact H) | exact H
  have Ny378 := Aside0.mk hy378
  clear hy378
  by_cases c6 : y375.length + y378.length < 5864062014805
  ·rw [if_pos c6] at H
   have LMc6 := Aside0.mk c6
   clear c6
   obtain ⟨y381, hy381⟩ : ∃ y_ : List (S62), y_ = (y375 ++ y378) := ⟨_, rfl⟩
   replace H : ((place_Layout.f k l0_0 l0_1 y381).bind fun bt384 => ((law_placesItems.f k).bind fun t393 => (if t393 = true then (if t372 = 0 then (law_PlaceMoreBehind.j0 k t366 bt384.1 (bt384.2.2.1 != 0) t372 t373) else (law_PlaceMoreBehind.j0 k t366 bt384.1 true t372 t373)) else (law_PlaceMoreBehind.j0 k t366 bt384.1 true t372 t373)))) = some r := by first | (rw [hy381]; with_reducible exact H) | (have H2_ := (Option.bind_some _ _).symm.trans H; rw [hy381]; with_reducible exact H2_) | (have H2_ := (Option.bind_some _ _).symm.trans H; with_reducible exact H2_) | with_reducible exact H | (rw [hy381]; exact H) | exact H
   have Ny381 := Aside0.mk hy381
   clear hy381
   replace H := Option.bind_eq_some_iff.mp H
   obtain ⟨⟨t384, t387, t390, t391⟩, A70, H⟩ := H
   replace H : ((law_placesItems.f k).bind fun t393 => (if t393 = true then (if t372 = 0 then (law_PlaceMoreBehind.j0 k t366 t384 (t390 != 0) t372 t373) else (law_PlaceMoreBehind.j0 k t366 t384 true t372 t373)) else (law_PlaceMoreBehind.j0 k t366 t384 true t372 t373))) = some r := H
   have A7 := Aside0.mk A70
   clear A70
   have HC8 := Aside0.mk H
   clear H
   go_enter Try.func9, Try.ntmps9
   try go_wp2_with (first | ((with_reducible refine gate_dst (N := 3) rfl ?_); (try (refine gate_guard (by rfl) ?_; dsimp only)); refine qX (N := 3) (cs := #[.slice A0_0 l0_0.length c0_0, .slice A0_1 l0_1.length c0_1]) (t := 46) ?_; intro gb364 hg w9 hbox hb; have n0_ := Aside0.mk (below_step qB hb); have n1_ := Aside0.mk (hbox); have n2_ := Aside0.mk ((qG hg : w.heap.size ≤ gb364)); have n3_ := Aside0.mk ((qG hg : w.heap.size ≤ gb364)); clear HB; have HB := n0_; have BK364 := n1_; have GW364 := n2_; have GE364 := n3_; clear n0_ n1_ n2_ n3_; clear hb hbox hg) | ((with_reducible refine gate_dst (N := 5) rfl ?_); (try (refine gate_guard (by rfl) ?_; dsimp only)); refine qX (N := 5) (cs := #[.int .i64 a2_0, .int .i64 a2_1, .int .i64 a2_2]) (t := 62) ?_; intro gb365 hg w10 hbox hb; have n0_ := Aside0.mk (blk_below (g := gb364) (o := .cells #[.slice A0_0 l0_0.length c0_0, .slice A0_1 l0_1.length c0_1] 46 (0, 0)) (qK BK364) hb); have n1_ := Aside0.mk (below_step qB hb); have n2_ := Aside0.mk (hbox); have n3_ := Aside0.mk ((qG hg : w.heap.size ≤ gb365)); have n4_ := Aside0.mk ((qG hg : w.heap.size ≤ gb365)); have n5_ := Aside0.mk ((by rw [hg]; exact Nat.ne_of_lt (blk_lt (g := gb364) (o := .cells #[.slice A0_0 l0_0.length c0_0, .slice A0_1 l0_1.length c0_1] 46 (0, 0)) (qK BK364)) : gb364 ≠ gb365)); have n6_ := Aside0.mk ((by rw [hg]; exact Nat.ne_of_gt (blk_lt (g := gb364) (o := .cells #[.slice A0_0 l0_0.length c0_0, .slice A0_1 l0_1.length c0_1] 46 (0, 0)) (qK BK364)) : gb365 ≠ gb364)); clear BK364; clear HB; have BK364 := n0_; have HB := n1_; have BK365 := n2_; have GW365 := n3_; have GE365 := n4_; have NB364_365 := n5_; have NB365_364 := n6_; clear n0_ n1_ n2_ n3_ n4_ n5_ n6_; clear hb hbox hg; have hnb11 := NB364_365.out; have hnc11 := NB365_364.out; have hcz12_0 : w10.cell? ⟨gb364, 0, none⟩ = some (.slice A0_0 l0_0.length c0_0) := (blk_cell BK364.out 0).trans rfl; have hcz12_1 : w10.cell? ⟨gb364, 1, none⟩ = some (.slice A0_1 l0_1.length c0_1) := (blk_cell BK364.out 1).trans rfl; have hfz12_0 := blk_frozen BK364.out 0; have hfz12_1 := blk_frozen BK364.out 1) | ((with_reducible refine gate_callee (f := 23) rfl ?_); refine goesL_ (some 17) rfl rfl Try.func23 (by kernel_rfl) rfl #[.agg #[.slice A0_0 l0_0.length c0_0, .slice A0_1 l0_1.length c0_1], .slice A1 l1.length c1] rfl qA ?_; (with_reducible refine (place_Layout.calls k _ _ l0_0 _ _ l0_1 _ _ l1 t366 t369 t372 t373 _ ?side1 ?side2 ?side3 ?side4 ?side5 ?side6 A4.out).mono ?_); (case side1 => repeat (first | exact (Kd.C_below HR0_0.out HB.out) | (with_reducible refine Kd.C_alloc ?_ _) | (with_reducible refine Kd.C_drewN ?_ _) | (with_reducible refine Kd.C_drew ?_))); (case side2 => exact HC0_0.out); (case side3 => repeat (first | exact (Kd.C_below HR0_1.out HB.out) | (with_reducible refine Kd.C_alloc ?_ _) | (with_reducible refine Kd.C_drewN ?_ _) | (with_reducible refine Kd.C_drew ?_))); (case side4 => exact HC0_1.out); (case side5 => repeat (first | exact (Kd.C_below HR1.out HB.out) | (with_reducible refine Kd.C_alloc ?_ _) | (with_reducible refine Kd.C_drewN ?_ _) | (with_reducible refine Kd.C_drew ?_))); (case side6 => exact HC1.out); rintro e w13 ⟨v367, v370, rfl, ho0, ho1, hb⟩; refine ⟨_, rfl, ?_⟩; have n0_ := Aside0.mk (Kd.R_lower ho0 (below_size qB)); have n1_ := Aside0.mk (Kd.R_lower ho1 (below_size qB)); have n2_ := Aside0.mk (blk_below (g := gb364) (o := .cells #[.slice A0_0 l0_0.length c0_0, .slice A0_1 l0_1.length c0_1] 46 (0, 0)) (qK BK364) hb); have n3_ := Aside0.mk (blk_below (g := gb365) (o := .cells #[.int .i64 a2_0, .int .i64 a2_1, .int .i64 a2_2] 62 (0, 0)) (qK BK365) hb); have n4_ := Aside0.mk (below_step qB hb); clear BK364; clear BK365; clear HB; have HO368 := n0_; have HO371 := n1_; have BK364 := n2_; have BK365 := n3_; have HB := n4_; clear n0_ n1_ n2_ n3_ n4_; (try clear hb); (try clear hb2); (try clear hk); (try clear hi); (try clear ho0); (try clear ho1)) | ((with_reducible refine gate_dst (N := 9) rfl ?_); (try (refine gate_guard (by rfl) ?_; dsimp only)); refine qX (N := 9) (cs := #[.int .i64 0, .int .i64 0]) (t := 26) ?_; intro gb374 hg w14 hbox hb; have n0_ := Aside0.mk (Kd.R_below (qR HO368) hb); have n1_ := Aside0.mk (Kd.R_below (qR HO371) hb); have n2_ := Aside0.mk (blk_below (g := gb364) (o := .cells #[.slice A0_0 l0_0.length c0_0, .slice A0_1 l0_1.length c0_1] 46 (0, 0)) (qK BK364) hb); have n3_ := Aside0.mk (blk_below (g := gb365) (o := .cells #[.int .i64 a2_0, .int .i64 a2_1, .int .i64 a2_2] 62 (0, 0)) (qK BK365) hb); have n4_ := Aside0.mk (below_step qB hb); have n5_ := Aside0.mk (hbox); have n6_ := Aside0.mk ((qG hg : w.heap.size ≤ gb374)); have n7_ := Aside0.mk ((qG hg : w.heap.size ≤ gb374)); have n8_ := Aside0.mk ((by rw [hg]; exact Nat.ne_of_lt (blk_lt (g := gb364) (o := .cells #[.slice A0_0 l0_0.length c0_0, .slice A0_1 l0_1.length c0_1] 46 (0, 0)) (qK BK364)) : gb364 ≠ gb374)); have n9_ := Aside0.mk ((by rw [hg]; exact Nat.ne_of_gt (blk_lt (g := gb364) (o := .cells #[.slice A0_0 l0_0.length c0_0, .slice A0_1 l0_1.length c0_1] 46 (0, 0)) (qK BK364)) : gb374 ≠ gb364)); have n10_ := Aside0.mk ((by rw [hg]; exact Nat.ne_of_lt (blk_lt (g := gb365) (o := .cells #[.int .i64 a2_0, .int .i64 a2_1, .int .i64 a2_2] 62 (0, 0)) (qK BK365)) : gb365 ≠ gb374)); have n11_ := Aside0.mk ((by rw [hg]; exact Nat.ne_of_gt (blk_lt (g := gb365) (o := .cells #[.int .i64 a2_0, .int .i64 a2_1, .int .i64 a2_2] 62 (0, 0)) (qK BK365)) : gb374 ≠ gb365)); clear HO368; clear HO371; clear BK364; clear BK365; clear HB; have HO368 := n0_; have HO371 := n1_; have BK364 := n2_; have BK365 := n3_; have HB := n4_; have BK374 := n5_; have GW374 := n6_; have GE374 := n7_; have NB364_374 := n8_; have NB374_364 := n9_; have NB365_374 := n10_; have NB374_365 := n11_; clear n0_ n1_ n2_ n3_ n4_ n5_ n6_ n7_ n8_ n9_ n10_ n11_; clear hb hbox hg; have hnb15 := NB374_364.out; have hnc15 := NB364_374.out; have hnb16 := NB374_365.out; have hnc16 := NB365_374.out; have hcz17_0 : w14.cell? ⟨gb374, 0, none⟩ = some (.int .i64 0) := (blk_cell BK374.out 0).trans rfl; have hcz17_1 : w14.cell? ⟨gb374, 1, none⟩ = some (.int .i64 0) := (blk_cell BK374.out 1).trans rfl; have hfz17_0 := blk_frozen BK374.out 0; have hfz17_1 := blk_frozen BK374.out 1; have hcz18_0 : w14.cell? ⟨gb364, 0, none⟩ = some (.slice A0_0 l0_0.length c0_0) := (blk_cell BK364.out 0).trans rfl; have hcz18_1 : w14.cell? ⟨gb364, 1, none⟩ = some (.slice A0_1 l0_1.length c0_1) := (blk_cell BK364.out 1).trans rfl; have hfz18_0 := blk_frozen BK364.out 0; have hfz18_1 := blk_frozen BK364.out 1; have hcz19_0 : w14.cell? ⟨gb365, 0, none⟩ = some (.int .i64 a2_0) := (blk_cell BK365.out 0).trans rfl; have hcz19_1 : w14.cell? ⟨gb365, 1, none⟩ = some (.int .i64 a2_1) := (blk_cell BK365.out 1).trans rfl; have hcz19_2 : w14.cell? ⟨gb365, 2, none⟩ = some (.int .i64 a2_2) := (blk_cell BK365.out 2).trans rfl; have hfz19_0 := blk_frozen BK365.out 0; have hfz19_1 := blk_frozen BK365.out 1; have hfz19_2 := blk_frozen BK365.out 2) | ((with_reducible refine gate_builtin (b := .append) (xs := #[.tmp 26, .tmp 27]) rfl ?_); (try (refine gate_guard (by rfl) ?_; dsimp only)); at_builtin; refine Kd.R_append_rows k62 (w0 := w) w.heap.size rfl (.tmp 26) (.tmp 27) 47 62 (.agg #[(.int .i64 0), (.int .i64 0), (.int .i64 0)]) 24 rfl Try.underlying47 info62 rfl (by decide) (by omega) (.slice none 0 0) ([] : List (S62)) l1 _ _ _ (fun k_ => k_ ≠ gb365) (fun _ => False) rfl rfl ?aO ?aR (fun _ _ h => h) (fun _ h => h.elim) ?aF ?aB ?aS ?aL ?_; (case aR => exact Kd.C_below HR1.out qB); (case aB => exact qB); (case aF => exact (fun k_ hk => Kd.freshB (g := gb365) (o := .cells #[.int .i64 (wrap64 ((l0_0.length : Int) - 1)), .int .i64 a2_1, .int .i64 a2_2] 62 (0, 0)) (by (with_reducible repeat (first | refine blk_drewN ?_ _ | refine blk_drew ?_ | refine blk_alloc ?_ _)); refine blk_put (cs := #[.int .i64 a2_0, .int .i64 a2_1, .int .i64 a2_2]) ?_ 0 _ rfl; (with_reducible repeat (first | refine blk_drewN ?_ _ | refine blk_drew ?_ | refine blk_alloc ?_ _)); refine blk_far ?_ NB365_374.out _; (with_reducible repeat (first | refine blk_drewN ?_ _ | refine blk_drew ?_ | refine blk_alloc ?_ _)); refine blk_far ?_ NB365_374.out _; exact qK BK365) k_ hk)); (case aO => exact ((Kd.R_nil _ _ _ _ (fun k_ => k_ ≠ gb365)))); (case aS => exact (below_size qB)); (case aL => have := LMc5.out; omega); intro v376 w20 ho hb hg hat; rw [← Ny375.out] at ho; have n0_ := Aside0.mk (blk_grown (g := gb364) (o := .cells #[.slice A0_0 l0_0.length c0_0, .slice A0_1 l0_1.length c0_1] 46 (0, 0)) (by (with_reducible repeat (first | refine blk_drewN ?_ _ | refine blk_drew ?_ | refine blk_alloc ?_ _)); refine blk_far ?_ NB364_365.out _; (with_reducible repeat (first | refine blk_drewN ?_ _ | refine blk_drew ?_ | refine blk_alloc ?_ _)); refine blk_far ?_ NB364_374.out _; (with_reducible repeat (first | refine blk_drewN ?_ _ | refine blk_drew ?_ | refine blk_alloc ?_ _)); refine blk_far ?_ NB364_374.out _; exact qK BK364) hg (by simp [Value.ownBlock])); have n1_ := Aside0.mk (blk_grown (g := gb365) (o := .cells #[.int .i64 (wrap64 ((l0_0.length : Int) - 1)), .int .i64 a2_1, .int .i64 a2_2] 62 (0, 0)) (by (with_reducible repeat (first | refine blk_drewN ?_ _ | refine blk_drew ?_ | refine blk_alloc ?_ _)); refine blk_put (cs := #[.int .i64 a2_0, .int .i64 a2_1, .int .i64 a2_2]) ?_ 0 _ rfl; (with_reducible repeat (first | refine blk_drewN ?_ _ | refine blk_drew ?_ | refine blk_alloc ?_ _)); refine blk_far ?_ NB365_374.out _; (with_reducible repeat (first | refine blk_drewN ?_ _ | refine blk_drew ?_ | refine blk_alloc ?_ _)); refine blk_far ?_ NB365_374.out _; exact qK BK365) hg (by simp [Value.ownBlock])); have n2_ := Aside0.mk (Kd.R_grown (by (with_reducible repeat (first | apply Kd.R_alloc | apply Kd.R_drewN | apply Kd.R_drew)); exact (Kd.R_mono (Kd.R_mono (Kd.R_far (p := ⟨gb365, 0, none⟩) (Kd.R_far (p := ⟨gb374, 1, none⟩) (Kd.R_far (p := ⟨gb374, 0, none⟩) (Kd.R_types (Kd.R_types HO368.out BK374.out (by decide)) BK365.out (by decide)) (fun _ hk => hk.1.2) (.int .i64 t372)) (fun _ hk => hk.1.2) (.int .i64 t373)) (fun _ hk => hk.2) (.int .i64 (wrap64 ((l0_0.length : Int) - 1)))) (fun _ h_ => h_.1)) (fun _ h_ => h_.1))) hg (fun _ _ => by simp [Value.ownBlock])); have n3_ := Aside0.mk (Kd.R_grown (by (with_reducible repeat (first | apply Kd.R_alloc | apply Kd.R_drewN | apply Kd.R_drew)); exact (Kd.R_mono (Kd.R_mono (Kd.R_far (p := ⟨gb365, 0, none⟩) (Kd.R_far (p := ⟨gb374, 1, none⟩) (Kd.R_far (p := ⟨gb374, 0, none⟩) (Kd.R_types (Kd.R_types HO371.out BK374.out (by decide)) BK365.out (by decide)) (fun _ hk => hk.1.2) (.int .i64 t372)) (fun _ hk => hk.1.2) (.int .i64 t373)) (fun _ hk => hk.2) (.int .i64 (wrap64 ((l0_0.length : Int) - 1)))) (fun _ h_ => h_.1)) (fun _ h_ => h_.1))) hg (fun _ _ => by simp [Value.ownBlock])); have n4_ := Aside0.mk (blk_grown (g := gb374) (o := .cells #[.int .i64 t372, .int .i64 t373] 26 (0, 0)) (by (with_reducible repeat (first | refine blk_drewN ?_ _ | refine blk_drew ?_ | refine blk_alloc ?_ _)); refine blk_far ?_ NB374_365.out _; (with_reducible repeat (first | refine blk_drewN ?_ _ | refine blk_drew ?_ | refine blk_alloc ?_ _)); refine blk_put (cs := #[.int .i64 t372, .int .i64 0]) ?_ 1 _ rfl; (with_reducible repeat (first | refine blk_drewN ?_ _ | refine blk_drew ?_ | refine blk_alloc ?_ _)); refine blk_put (cs := #[.int .i64 0, .int .i64 0]) ?_ 0 _ rfl; exact qK BK374) hg (by simp [Value.ownBlock])); have n5_ := Aside0.mk (hb); have n6_ := Aside0.mk (ho); clear BK364; clear BK365; clear HO368; clear HO371; clear BK374; clear HB; have BK364 := n0_; have BK365 := n1_; have HO368 := n2_; have HO371 := n3_; have BK374 := n4_; have HB := n5_; have HO377 := n6_; clear n0_ n1_ n2_ n3_ n4_ n5_ n6_; clear ho hb hg hat; obtain ⟨Ao21, co21, eo21⟩ := Kd.R_slice HO377.out; subst eo21))
   have n0_ := Aside0.mk (Kd.R_drew HO368.out)
   have n1_ := Aside0.mk (Kd.R_drew HO371.out)
   have n2_ := Aside0.mk (Kd.R_drew HO377.out)
   have n3_ := Aside0.mk (blk_drew BK364.out)
   have n4_ := Aside0.mk (blk_drew BK365.out)
   have n5_ := Aside0.mk (blk_drew BK374.out)
   have n6_ := Aside0.mk (below_drew1 HB.out)
   clear HO368
   clear HO371
   clear HO377
   clear BK364
   clear BK365
   clear BK374
   clear HB
   have HO368 := n0_
   have HO371 := n1_
   have HO377 := n2_
   have BK364 := n3_
   have BK365 := n4_
   have BK374 := n5_
   have HB := n6_
   clear n0_ n1_ n2_ n3_ n4_ n5_ n6_
   refine start_ (n := 14) (S := fun w' => w'.cell? ⟨gb364, 0, none⟩ = some (.slice A0_0 l0_0.length c0_0) ∧ w'.cell? ⟨gb364, 1, none⟩ = some (.slice A0_1 l0_1.length c0_1) ∧ w'.cell? ⟨gb365, 0, none⟩ = some (.int .i64 (wrap64 ((l0_0.length : Int) - 1))) ∧ w'.cell? ⟨gb365, 1, none⟩ = some (.int .i64 a2_1) ∧ w'.cell? ⟨gb365, 2, none⟩ = some (.int .i64 a2_2)) (ds := []) #[false, false, false, false, false, false, false, false, false, false, false, false, false, false] (by kernel_rfl) rfl rfl ⟨(blk_cell BK364.out 0).trans rfl, (blk_cell BK364.out 1).trans rfl, (blk_cell BK365.out 0).trans rfl, (blk_cell BK365.out 1).trans rfl, (blk_cell BK365.out 2).trans rfl⟩ (fun hHeld => ?_); refine with_tabW law_PlaceMoreBehind.tab5 law_PlaceMoreBehind.bits5 (fun HT_ HW_ => ?_)
   generalize w20.drew = w22 at HO368 HO371 HO377 BK364 BK365 BK374 HB hHeld ⊢
   refine pure_ (i := 1) (N := some 31) (v := ?_) (a' := ?_) #[false, true, false, false, false, false, false, false, false, false, false, false, false, false] rfl rfl (any_of HT_.out (by kernel_rfl)) (fun _ _ _ h => h) (Or.inl ⟨by rfl, ?_⟩) ?_ ?_
   rotate_left
   ·intro w'
    go_simp
    with_reducible rfl
   rotate_left
   ·simp only [Act.put, List.setIfInBounds_toArray, List.set_cons_zero, List.set_cons_succ, i64_w, i32_w]
    rfl
   refine take_ (i := 0) (N := some 30) (v := ?_) (a' := ?_) #[true, true, false, false, false, false, false, false, false, false, false, false, false, false] rfl rfl (take_ofW HT_.out HW_.out (by kernel_rfl)) (fun _ _ _ h => h) (Or.inl ⟨by rfl, ?_⟩) hHeld ?_ ?_
   rotate_left
   ·rintro w' ⟨s0, s1, s2, s3, s4⟩
    go_simp
    with_reducible rfl
   rotate_left
   ·simp only [Act.put, List.setIfInBounds_toArray, List.set_cons_zero, List.set_cons_succ, i64_w, i32_w]
    rfl
   refine take_ (i := 2) (N := some 32) (v := ?_) (a' := ?_) #[true, true, true, false, false, false, false, false, false, false, false, false, false, false] rfl rfl (take_ofW HT_.out HW_.out (by kernel_rfl)) (fun _ _ _ h => h) (Or.inl ⟨by rfl, ?_⟩) hHeld ?_ ?_
   rotate_left
   ·rintro w' ⟨s0, s1, s2, s3, s4⟩
    go_simp
    with_reducible rfl
   rotate_left
   ·simp only [Act.put, List.setIfInBounds_toArray, List.set_cons_zero, List.set_cons_succ, i64_w, i32_w]
    rfl
   refine join_ (σ := Value × Value × Value × Value × Nat) 3 #[true, true, true, true, true, true, true, true, true, true, true, false, false, false] (fun s_ => [(33, s_.1), (34, s_.2.1), (35, .tuple #[s_.2.2.1, s_.2.2.2.1, .agg #[.int .i64 t390, .int .i64 t391]]), (13, .pointer (some ⟨s_.2.2.2.2, 0, none⟩)), (29, .tuple #[s_.2.2.1, s_.2.2.2.1, .agg #[.int .i64 t390, .int .i64 t391]]), (36, s_.2.2.1), (37, s_.2.2.2.1), (38, .agg #[.int .i64 t390, .int .i64 t391])]) (fun s_ w' => (w'.cell? ⟨gb364, 0, none⟩ = some (.slice A0_0 l0_0.length c0_0) ∧ w'.cell? ⟨gb364, 1, none⟩ = some (.slice A0_1 l0_1.length c0_1) ∧ w'.cell? ⟨gb365, 0, none⟩ = some (.int .i64 (wrap64 ((l0_0.length : Int) - 1))) ∧ w'.cell? ⟨gb365, 1, none⟩ = some (.int .i64 a2_1) ∧ w'.cell? ⟨gb365, 2, none⟩ = some (.int .i64 a2_2)) ∧ (Kd.R (Kd.int .i64) 3 w' w.heap.size (fun k_ => some k_ ≠ (s_.2.2.1 : Value).ownBlock) v367 t366) ∧ (Kd.R k58 58 w' w.heap.size (fun k_ => some k_ ≠ (s_.2.2.2.1 : Value).ownBlock) v370 t369) ∧ (Kd.R k62 62 w' w.heap.size (fun k_ => some k_ ≠ (s_.2.1 : Value).ownBlock ∧ k_ ≠ gb365) s_.1 y378) ∧ (Kd.R k62 62 w' w.heap.size (fun k_ => some k_ ≠ (s_.1 : Value).ownBlock ∧ k_ ≠ gb365) s_.2.1 y381) ∧ (Kd.R (Kd.int .i64) 3 w' w.heap.size (fun k_ => some k_ ≠ (v367 : Value).ownBlock) s_.2.2.1 t384) ∧ (Kd.R k58 58 w' w.heap.size (fun k_ => some k_ ≠ (v370 : Value).ownBlock) s_.2.2.2.1 t387) ∧ (w'.heap[gb364]? = some (.cells #[.slice A0_0 l0_0.length c0_0, .slice A0_1 l0_1.length c0_1] 46 (0, 0))) ∧ (w'.heap[gb365]? = some (.cells #[.int .i64 (wrap64 ((l0_0.length : Int) - 1)), .int .i64 a2_1, .int .i64 a2_2] 62 (0, 0))) ∧ (w'.heap[gb374]? = some (.cells #[.int .i64 t372, .int .i64 t373] 26 (0, 0))) ∧ (w'.heap[s_.2.2.2.2]? = some (.cells #[.int .i64 0, .int .i64 0] 26 (0, 0))) ∧ (w.heap.size ≤ s_.2.2.2.2) ∧ (w.heap.size ≤ s_.2.2.2.2) ∧ (gb364 ≠ s_.2.2.2.2) ∧ (s_.2.2.2.2 ≠ gb364) ∧ (gb365 ≠ s_.2.2.2.2) ∧ (s_.2.2.2.2 ≠ gb365) ∧ (gb374 ≠ s_.2.2.2.2) ∧ (s_.2.2.2.2 ≠ gb374) ∧ (Below w.heap.size w w')) ?_ ?_
   rotate_left
   ·intro hCont
    refine two_ (i := 3) (j := 10) (Ni := some 33) (Nj := some 13) #[true, true, true, true, false, false, false, false, false, false, false, false, false, false] #[true, true, true, false, false, false, false, false, false, false, true, false, false, false] rfl rfl rfl rfl (two_of HT_.out (by kernel_rfl)) (by decide) (by decide) (fun K hK => ?_) (fun K hK => ?_)
    ·skip
     refine Kd.R_lit_step k62 _ 62 ?hg (N := 33) ?hd (xs := ([(⟨wrap64 ((l0_0.length : Int) - 1), a2_1, a2_2⟩ : S62)] : List (S62))) (inner := [.int .i64 (wrap64 ((l0_0.length : Int) - 1)), .int .i64 a2_1, .int .i64 a2_2]) (ok := fun _ => True) (okp := fun _ => True) ?hr ?hp (fun _ hk => hk) trivial (Below.refl _ _) (Nat.le_refl _) (by simp) ?_; (case hd => rfl); (case hg => rfl); (case hr => first | (go_simp; done) | (go_simp; rfl)); (case hp => exact (Reps.c3 (show Kd.M k62 _ _ _ (⟨wrap64 ((l0_0.length : Int) - 1), a2_1, a2_2⟩ : S62) [.int .i64 (wrap64 ((l0_0.length : Int) - 1)), .int .i64 a2_1, .int .i64 a2_2] from (k62_mkM _ _ _ (⟨wrap64 ((l0_0.length : Int) - 1), a2_1, a2_2⟩ : S62) )) (Reps.none _ _)))
     intro v379 w23 ho24 hb hg_ hnew_
     clear hg_ hnew_
     (first | rw [← Ny378.out] at ho24 | (simp only [Int.reduceToNat] at ho24; rw [← Ny378.out] at ho24))
     have n0_ := Aside0.mk (Kd.R_below (qR HO368) hb)
     have n1_ := Aside0.mk (Kd.R_below (qR HO371) hb)
     have n2_ := Aside0.mk (Kd.R_elder' (qR HO377) (Kd.R_base ho24) hb)
     have n3_ := Aside0.mk (Kd.R_lower (Kd.R_newB (Kd.R_new' ho24 (Kd.R_lt (qR HO377))) (g := gb365) (o := .cells #[.int .i64 (wrap64 ((l0_0.length : Int) - 1)), .int .i64 a2_1, .int .i64 a2_2] 62 (0, 0)) (qK BK365)) (below_size qB))
     have n4_ := Aside0.mk (blk_below (g := gb364) (o := .cells #[.slice A0_0 l0_0.length c0_0, .slice A0_1 l0_1.length c0_1] 46 (0, 0)) (qK BK364) hb)
     have n5_ := Aside0.mk (blk_below (g := gb365) (o := .cells #[.int .i64 (wrap64 ((l0_0.length : Int) - 1)), .int .i64 a2_1, .int .i64 a2_2] 62 (0, 0)) (qK BK365) hb)
     have n6_ := Aside0.mk (blk_below (g := gb374) (o := .cells #[.int .i64 t372, .int .i64 t373] 26 (0, 0)) (qK BK374) hb)
     have n7_ := Aside0.mk (below_step qB hb)
     clear HO368
     clear HO371
     clear HO377
     clear BK364
     clear BK365
     clear BK374
     clear HB
     have HO368 := n0_
     have HO371 := n1_
     have HO377 := n2_
     have HO380 := n3_
     have BK364 := n4_
     have BK365 := n5_
     have BK374 := n6_
     have HB := n7_
     clear n0_ n1_ n2_ n3_ n4_ n5_ n6_ n7_
     clear hb ho24
     obtain ⟨Ao26, co26, eo26⟩ := Kd.R_slice HO380.out
     (first | subst eo26 | (injection eo26 with f1_ f2_ f3_; have f4_ := f1_.symm; have f5_ := f3_.symm; clear f1_ f2_ f3_; subst f4_; subst f5_))
     refine hK.out _ _ ⟨(blk_cell BK364.out 0).trans rfl, (blk_cell BK364.out 1).trans rfl, (blk_cell BK365.out 0).trans rfl, (blk_cell BK365.out 1).trans rfl, (blk_cell BK365.out 2).trans rfl⟩ (fun hHeld => ?_)
     clear hK K
     refine norm_ (a' := ?_) ?_ ?_
     rotate_left
     ·show Act.put _ (some 33) _ = _
      simp only [Act.put, List.setIfInBounds_toArray, List.set_cons_zero, List.set_cons_succ, i64_w, i32_w]
      rfl
     refine two_ (i := 4) (j := 10) (Ni := some 34) (Nj := some 13) #[true, true, true, true, true, false, false, false, false, false, false, false, false, false] #[true, true, true, true, false, false, false, false, false, false, true, false, false, false] rfl rfl rfl rfl (two_of HT_.out (by kernel_rfl)) (by decide) (by decide) (fun K hK => ?_) (fun K hK => ?_)
     ·skip
      refine Kd.R_append_rows_step k62 (w0 := w) w.heap.size (by rfl) (.tmp 31) (.tmp 33) 47 62 (.agg #[(.int .i64 0), (.int .i64 0), (.int .i64 0)]) 24 rfl Try.underlying47 info62 rfl (by decide) (by omega) (.slice Ao21 y375.length co21) y375 y378 _ _ _ (fun k_ => some k_ ≠ (.slice Ao26 y378.length co26 : Value).ownBlock ∧ k_ ≠ gb365) (fun _ => False) rfl rfl ?aO ?aR (fun _ _ h => h) (fun _ h => h.elim) ?aF ?aB ?aS ?aL ?_
      (case aR => repeat (first | exact (Kd.R_reads' HO380.out).2.2 | (with_reducible refine Kd.C_alloc ?_ _) | (with_reducible refine Kd.C_drewN ?_ _) | (with_reducible refine Kd.C_drew ?_)))
      (case aB => exact qB)
      (case aF => exact (fun k_ hk => ⟨Kd.fresh' (Kd.R_lt (qR HO380)) k_ hk, Kd.freshB (g := gb365) (o := .cells #[.int .i64 (wrap64 ((l0_0.length : Int) - 1)), .int .i64 a2_1, .int .i64 a2_2] 62 (0, 0)) (qK BK365) k_ hk⟩))
      (case aO => exact (by (with_reducible repeat (first | apply Kd.R_alloc | apply Kd.R_drewN | apply Kd.R_drew)); exact Kd.R_mono HO377.out (fun _ hk => ⟨hk.2, hk.1⟩)))
      (case aS => exact (below_size qB))
      (case aL => have := LMc6.out; omega)
      intro v382 w25 ho hb hg hat
      rw [← Ny381.out] at ho
      have n0_ := Aside0.mk (blk_grown (g := gb364) (o := .cells #[.slice A0_0 l0_0.length c0_0, .slice A0_1 l0_1.length c0_1] 46 (0, 0)) (qK BK364) hg (Kd.R_ne HO377.out BK364.out (by decide)))
      have n1_ := Aside0.mk (blk_grown (g := gb365) (o := .cells #[.int .i64 (wrap64 ((l0_0.length : Int) - 1)), .int .i64 a2_1, .int .i64 a2_2] 62 (0, 0)) (qK BK365) hg (Kd.R_away HO377.out (fun _ hk => hk.1)))
      have n2_ := Aside0.mk (Kd.R_over' (qR HO368) (Kd.R_typed (qR HO377)) (by decide) hg)
      have n3_ := Aside0.mk (Kd.R_over' (qR HO371) (Kd.R_typed (qR HO377)) (by decide) hg)
      have n4_ := Aside0.mk (blk_grown (g := gb374) (o := .cells #[.int .i64 t372, .int .i64 t373] 26 (0, 0)) (qK BK374) hg (Kd.R_ne HO377.out BK374.out (by decide)))
      have n5_ := Aside0.mk (Kd.R_after (ok := (fun k_ => k_ ≠ gb365)) (by (with_reducible repeat (first | apply Kd.R_alloc | apply Kd.R_drewN | apply Kd.R_drew)); exact Kd.R_mono HO380.out (fun _ hk => ⟨hk.2, hk.1.2⟩)) hg hat)
      have n6_ := Aside0.mk (hb)
      have n7_ := Aside0.mk (ho)
      clear BK364
      clear BK365
      clear HO368
      clear HO371
      clear BK374
      clear HO380
      clear HB
      clear HO377
      have BK364 := n0_
      have BK365 := n1_
      have HO368 := n2_
      have HO371 := n3_
      have BK374 := n4_
      have HO380 := n5_
      have HB := n6_
      have HO383 := n7_
      clear n0_ n1_ n2_ n3_ n4_ n5_ n6_ n7_
      clear ho hb hg hat
      obtain ⟨Ao27, co27, eo27⟩ := Kd.R_slice HO383.out
      (first | subst eo27 | (injection eo27 with f1_ f2_ f3_; have f4_ := f1_.symm; have f5_ := f3_.symm; clear f1_ f2_ f3_; subst f4_; subst f5_))
      refine hK.out _ _ ⟨(blk_cell BK364.out 0).trans rfl, (blk_cell BK364.out 1).trans rfl, (blk_cell BK365.out 0).trans rfl, (blk_cell BK365.out 1).trans rfl, (blk_cell BK365.out 2).trans rfl⟩ (fun hHeld => ?_)
      clear hK K
      refine norm_ (a' := ?_) ?_ ?_
      rotate_left
      ·show Act.put _ (some 34) _ = _
       simp only [Act.put, List.setIfInBounds_toArray, List.set_cons_zero, List.set_cons_succ, i64_w, i32_w]
       rfl
      refine two_ (i := 5) (j := 10) (Ni := some 35) (Nj := some 13) #[true, true, true, true, true, true, false, false, false, false, false, false, false, false] #[true, true, true, true, true, false, false, false, false, false, true, false, false, false] rfl rfl rfl rfl (two_of HT_.out (by kernel_rfl)) (by decide) (by decide) (fun K hK => ?_) (fun K hK => ?_)
      ·skip
       refine goes_ Try.func23 (by kernel_rfl) rfl #[.agg #[.slice A0_0 l0_0.length c0_0, .slice A0_1 l0_1.length c0_1], .slice Ao27 y381.length co27] (by rfl) rfl rfl qA ?_
       with_reducible refine (place_Layout.calls k _ _ l0_0 _ _ l0_1 _ _ y381 t384 t387 t390 t391 _ ?side1 ?side2 ?side3 ?side4 ?side5 ?side6 A7.out).mono ?_
       (case side1 => repeat (first | exact (Kd.C_below HR0_0.out HB.out) | (with_reducible refine Kd.C_alloc ?_ _) | (with_reducible refine Kd.C_drewN ?_ _) | (with_reducible refine Kd.C_drew ?_)))
       (case side2 => exact HC0_0.out)
       (case side3 => repeat (first | exact (Kd.C_below HR0_1.out HB.out) | (with_reducible refine Kd.C_alloc ?_ _) | (with_reducible refine Kd.C_drewN ?_ _) | (with_reducible refine Kd.C_drew ?_)))
       (case side4 => exact HC0_1.out)
       (case side5 => repeat (first | exact (Kd.R_reads' HO383.out).2.2 | (with_reducible refine Kd.C_alloc ?_ _) | (with_reducible refine Kd.C_drewN ?_ _) | (with_reducible refine Kd.C_drew ?_)))
       (case side6 => exact (Kd.R_reads' HO383.out).2.1)
       rintro e w28 ⟨v385, v388, rfl, ho0, ho1, hb⟩
       refine ⟨_, rfl, ?_⟩
       have n0_ := Aside0.mk (Kd.R_elder' (qR HO368) (Kd.R_base ho0) hb)
       have n1_ := Aside0.mk (Kd.R_elder' (qR HO371) (Kd.R_base ho1) hb)
       have n2_ := Aside0.mk (Kd.R_below (qR HO380) hb)
       have n3_ := Aside0.mk (Kd.R_below (qR HO383) hb)
       have n4_ := Aside0.mk (Kd.R_lower (Kd.R_new' ho0 (Kd.R_lt (qR HO368))) (below_size qB))
       have n5_ := Aside0.mk (Kd.R_lower (Kd.R_new' ho1 (Kd.R_lt (qR HO371))) (below_size qB))
       have n6_ := Aside0.mk (blk_below (g := gb364) (o := .cells #[.slice A0_0 l0_0.length c0_0, .slice A0_1 l0_1.length c0_1] 46 (0, 0)) (qK BK364) hb)
       have n7_ := Aside0.mk (blk_below (g := gb365) (o := .cells #[.int .i64 (wrap64 ((l0_0.length : Int) - 1)), .int .i64 a2_1, .int .i64 a2_2] 62 (0, 0)) (qK BK365) hb)
       have n8_ := Aside0.mk (blk_below (g := gb374) (o := .cells #[.int .i64 t372, .int .i64 t373] 26 (0, 0)) (qK BK374) hb)
       have n9_ := Aside0.mk (below_step qB hb)
       clear HO368
       clear HO371
       clear HO380
       clear HO383
       clear BK364
       clear BK365
       clear BK374
       clear HB
       have HO368 := n0_
       have HO371 := n1_
       have HO380 := n2_
       have HO383 := n3_
       have HO386 := n4_
       have HO389 := n5_
       have BK364 := n6_
       have BK365 := n7_
       have BK374 := n8_
       have HB := n9_
       clear n0_ n1_ n2_ n3_ n4_ n5_ n6_ n7_ n8_ n9_
       (try clear hb)
       (try clear hb2)
       (try clear hk)
       (try clear hi)
       (try clear ho0)
       (try clear ho1)
       refine hK.out _ _ ⟨(blk_cell BK364.out 0).trans rfl, (blk_cell BK364.out 1).trans rfl, (blk_cell BK365.out 0).trans rfl, (blk_cell BK365.out 1).trans rfl, (blk_cell BK365.out 2).trans rfl⟩ (fun hHeld => ?_)
       clear hK K
       refine norm_ (a' := ?_) ?_ ?_
       rotate_left
       ·show Act.put _ (some 35) _ = _
        simp only [Act.put, List.setIfInBounds_toArray, List.set_cons_zero, List.set_cons_succ, i64_w, i32_w]
        rfl
       refine pure_ (i := 6) (N := some 29) (v := ?_) (a' := ?_) #[true, true, true, true, true, true, true, false, false, false, false, false, false, false] rfl rfl (any_of HT_.out (by kernel_rfl)) (fun _ _ _ h => h) (Or.inl ⟨by rfl, ?_⟩) ?_ ?_
       rotate_left
       ·intro w'
        go_simp
        with_reducible rfl
       rotate_left
       ·simp only [Act.put, List.setIfInBounds_toArray, List.set_cons_zero, List.set_cons_succ, i64_w, i32_w]
        rfl
       refine pure_ (i := 7) (N := some 36) (v := ?_) (a' := ?_) #[true, true, true, true, true, true, true, true, false, false, false, false, false, false] rfl rfl (any_of HT_.out (by kernel_rfl)) (fun _ _ _ h => h) (Or.inl ⟨by rfl, ?_⟩) ?_ ?_
       rotate_left
       ·intro w'
        go_simp
        with_reducible rfl
       rotate_left
       ·simp only [Act.put, List.setIfInBounds_toArray, List.set_cons_zero, List.set_cons_succ, i64_w, i32_w]
        rfl
       refine pure_ (i := 8) (N := some 37) (v := ?_) (a' := ?_) #[true, true, true, true, true, true, true, true, true, false, false, false, false, false] rfl rfl (any_of HT_.out (by kernel_rfl)) (fun _ _ _ h => h) (Or.inl ⟨by rfl, ?_⟩) ?_ ?_
       rotate_left
       ·intro w'
        go_simp
        with_reducible rfl
       rotate_left
       ·simp only [Act.put, List.setIfInBounds_toArray, List.set_cons_zero, List.set_cons_succ, i64_w, i32_w]
        rfl
       refine pure_ (i := 9) (N := some 38) (v := ?_) (a' := ?_) #[true, true, true, true, true, true, true, true, true, true, false, false, false, false] rfl rfl (any_of HT_.out (by kernel_rfl)) (fun _ _ _ h => h) (Or.inl ⟨by rfl, ?_⟩) ?_ ?_
       rotate_left
       ·intro w'
        go_simp
        with_reducible rfl
       rotate_left
       ·simp only [Act.put, List.setIfInBounds_toArray, List.set_cons_zero, List.set_cons_succ, i64_w, i32_w]
        rfl
       refine one_ (i := 10) (N := some 13) #[true, true, true, true, true, true, true, true, true, true, true, false, false, false] rfl rfl (one_of HT_.out (by kernel_rfl)) (by decide) (fun K hK => ?_)
       refine box_step ?hg (N := 13) ?hd (cs := #[.int .i64 0, .int .i64 0]) (t := 26) ?hr ?_; (case hd => rfl); (case hg => rfl); (case hr => first | (go_simp; done) | (go_simp; rfl))
       intro gb392 hg w29 hbox hb
       have n0_ := Aside0.mk (Kd.R_below (qR HO368) hb)
       have n1_ := Aside0.mk (Kd.R_below (qR HO371) hb)
       have n2_ := Aside0.mk (Kd.R_below (qR HO380) hb)
       have n3_ := Aside0.mk (Kd.R_below (qR HO383) hb)
       have n4_ := Aside0.mk (Kd.R_below (qR HO386) hb)
       have n5_ := Aside0.mk (Kd.R_below (qR HO389) hb)
       have n6_ := Aside0.mk (blk_below (g := gb364) (o := .cells #[.slice A0_0 l0_0.length c0_0, .slice A0_1 l0_1.length c0_1] 46 (0, 0)) (qK BK364) hb)
       have n7_ := Aside0.mk (blk_below (g := gb365) (o := .cells #[.int .i64 (wrap64 ((l0_0.length : Int) - 1)), .int .i64 a2_1, .int .i64 a2_2] 62 (0, 0)) (qK BK365) hb)
       have n8_ := Aside0.mk (blk_below (g := gb374) (o := .cells #[.int .i64 t372, .int .i64 t373] 26 (0, 0)) (qK BK374) hb)
       have n9_ := Aside0.mk (below_step qB hb)
       have n10_ := Aside0.mk (hbox)
       have n11_ := Aside0.mk ((qG hg : w.heap.size ≤ gb392))
       have n12_ := Aside0.mk ((qG hg : w.heap.size ≤ gb392))
       have n13_ := Aside0.mk ((by rw [hg]; exact Nat.ne_of_lt (blk_lt (g := gb364) (o := .cells #[.slice A0_0 l0_0.length c0_0, .slice A0_1 l0_1.length c0_1] 46 (0, 0)) (qK BK364)) : gb364 ≠ gb392))
       have n14_ := Aside0.mk ((by rw [hg]; exact Nat.ne_of_gt (blk_lt (g := gb364) (o := .cells #[.slice A0_0 l0_0.length c0_0, .slice A0_1 l0_1.length c0_1] 46 (0, 0)) (qK BK364)) : gb392 ≠ gb364))
       have n15_ := Aside0.mk ((by rw [hg]; exact Nat.ne_of_lt (blk_lt (g := gb365) (o := .cells #[.int .i64 (wrap64 ((l0_0.length : Int) - 1)), .int .i64 a2_1, .int .i64 a2_2] 62 (0, 0)) (qK BK365)) : gb365 ≠ gb392))
       have n16_ := Aside0.mk ((by rw [hg]; exact Nat.ne_of_gt (blk_lt (g := gb365) (o := .cells #[.int .i64 (wrap64 ((l0_0.length : Int) - 1)), .int .i64 a2_1, .int .i64 a2_2] 62 (0, 0)) (qK BK365)) : gb392 ≠ gb365))
       have n17_ := Aside0.mk ((by rw [hg]; exact Nat.ne_of_lt (blk_lt (g := gb374) (o := .cells #[.int .i64 t372, .int .i64 t373] 26 (0, 0)) (qK BK374)) : gb374 ≠ gb392))
       have n18_ := Aside0.mk ((by rw [hg]; exact Nat.ne_of_gt (blk_lt (g := gb374) (o := .cells #[.int .i64 t372, .int .i64 t373] 26 (0, 0)) (qK BK374)) : gb392 ≠ gb374))
       clear HO368
       clear HO371
       clear HO380
       clear HO383
       clear HO386
       clear HO389
       clear BK364
       clear BK365
       clear BK374
       clear HB
       have HO368 := n0_
       have HO371 := n1_
       have HO380 := n2_
       have HO383 := n3_
       have HO386 := n4_
       have HO389 := n5_
       have BK364 := n6_
       have BK365 := n7_
       have BK374 := n8_
       have HB := n9_
       have BK392 := n10_
       have GW392 := n11_
       have GE392 := n12_
       have NB364_392 := n13_
       have NB392_364 := n14_
       have NB365_392 := n15_
       have NB392_365 := n16_
       have NB374_392 := n17_
       have NB392_374 := n18_
       clear n0_ n1_ n2_ n3_ n4_ n5_ n6_ n7_ n8_ n9_ n10_ n11_ n12_ n13_ n14_ n15_ n16_ n17_ n18_
       clear hb hbox hg
       refine hK.out _ _ ⟨(blk_cell BK364.out 0).trans rfl, (blk_cell BK364.out 1).trans rfl, (blk_cell BK365.out 0).trans rfl, (blk_cell BK365.out 1).trans rfl, (blk_cell BK365.out 2).trans rfl⟩ (fun hHeld => ?_)
       clear hK K
       refine norm_ (a' := ?_) ?_ ?_
       rotate_left
       ·show Act.put _ (some 13) _ = _
        simp only [Act.put, List.setIfInBounds_toArray, List.set_cons_zero, List.set_cons_succ, i64_w, i32_w]
        rfl
       exact norm_ (by simp only [putAll, Act.put, List.setIfInBounds_toArray, List.set_cons_zero, List.set_cons_succ]) (hCont (.slice Ao26 y378.length co26, .slice Ao27 y381.length co27, v385, v388, gb392) _ ⟨hHeld, (by (with_reducible repeat (first | apply Kd.R_alloc | apply Kd.R_drewN | apply Kd.R_drew)); exact Kd.R_mono HO368.out (fun _ hk => hk.2)), (by (with_reducible repeat (first | apply Kd.R_alloc | apply Kd.R_drewN | apply Kd.R_drew)); exact Kd.R_mono HO371.out (fun _ hk => hk.2)), (by (with_reducible repeat (first | apply Kd.R_alloc | apply Kd.R_drewN | apply Kd.R_drew)); exact Kd.R_mono HO380.out (fun _ hk => ⟨hk.2, hk.1⟩)), (qR HO383), (by (with_reducible repeat (first | apply Kd.R_alloc | apply Kd.R_drewN | apply Kd.R_drew)); exact Kd.R_mono HO386.out (fun _ hk => hk.2)), (by (with_reducible repeat (first | apply Kd.R_alloc | apply Kd.R_drewN | apply Kd.R_drew)); exact Kd.R_mono HO389.out (fun _ hk => hk.2)), (qK BK364), (qK BK365), (qK BK374), (qK BK392), GW392.out, GE392.out, NB364_392.out, NB392_364.out, NB365_392.out, NB392_365.out, NB374_392.out, NB392_374.out, qB⟩)
      ·skip
       refine box_step ?hg (N := 13) ?hd (cs := #[.int .i64 0, .int .i64 0]) (t := 26) ?hr ?_; (case hd => rfl); (case hg => rfl); (case hr => first | (go_simp; done) | (go_simp; rfl))
       intro gb392 hg w27 hbox hb
       have n0_ := Aside0.mk (Kd.R_below (qR HO368) hb)
       have n1_ := Aside0.mk (Kd.R_below (qR HO371) hb)
       have n2_ := Aside0.mk (Kd.R_below (qR HO380) hb)
       have n3_ := Aside0.mk (Kd.R_below (qR HO383) hb)
       have n4_ := Aside0.mk (blk_below (g := gb364) (o := .cells #[.slice A0_0 l0_0.length c0_0, .slice A0_1 l0_1.length c0_1] 46 (0, 0)) (qK BK364) hb)
       have n5_ := Aside0.mk (blk_below (g := gb365) (o := .cells #[.int .i64 (wrap64 ((l0_0.length : Int) - 1)), .int .i64 a2_1, .int .i64 a2_2] 62 (0, 0)) (qK BK365) hb)
       have n6_ := Aside0.mk (blk_below (g := gb374) (o := .cells #[.int .i64 t372, .int .i64 t373] 26 (0, 0)) (qK BK374) hb)
       have n7_ := Aside0.mk (below_step qB hb)
       have n8_ := Aside0.mk (hbox)
       have n9_ := Aside0.mk ((qG hg : w.heap.size ≤ gb392))
       have n10_ := Aside0.mk ((qG hg : w.heap.size ≤ gb392))
       have n11_ := Aside0.mk ((by rw [hg]; exact Nat.ne_of_lt (blk_lt (g := gb364) (o := .cells #[.slice A0_0 l0_0.length c0_0, .slice A0_1 l0_1.length c0_1] 46 (0, 0)) (qK BK364)) : gb364 ≠ gb392))
       have n12_ := Aside0.mk ((by rw [hg]; exact Nat.ne_of_gt (blk_lt (g := gb364) (o := .cells #[.slice A0_0 l0_0.length c0_0, .slice A0_1 l0_1.length c0_1] 46 (0, 0)) (qK BK364)) : gb392 ≠ gb364))
       have n13_ := Aside0.mk ((by rw [hg]; exact Nat.ne_of_lt (blk_lt (g := gb365) (o := .cells #[.int .i64 (wrap64 ((l0_0.length : Int) - 1)), .int .i64 a2_1, .int .i64 a2_2] 62 (0, 0)) (qK BK365)) : gb365 ≠ gb392))
       have n14_ := Aside0.mk ((by rw [hg]; exact Nat.ne_of_gt (blk_lt (g := gb365) (o := .cells #[.int .i64 (wrap64 ((l0_0.length : Int) - 1)), .int .i64 a2_1, .int .i64 a2_2] 62 (0, 0)) (qK BK365)) : gb392 ≠ gb365))
       have n15_ := Aside0.mk ((by rw [hg]; exact Nat.ne_of_lt (blk_lt (g := gb374) (o := .cells #[.int .i64 t372, .int .i64 t373] 26 (0, 0)) (qK BK374)) : gb374 ≠ gb392))
       have n16_ := Aside0.mk ((by rw [hg]; exact Nat.ne_of_gt (blk_lt (g := gb374) (o := .cells #[.int .i64 t372, .int .i64 t373] 26 (0, 0)) (qK BK374)) : gb392 ≠ gb374))
       clear HO368
       clear HO371
       clear HO380
       clear HO383
       clear BK364
       clear BK365
       clear BK374
       clear HB
       have HO368 := n0_
       have HO371 := n1_
       have HO380 := n2_
       have HO383 := n3_
       have BK364 := n4_
       have BK365 := n5_
       have BK374 := n6_
       have HB := n7_
       have BK392 := n8_
       have GW392 := n9_
       have GE392 := n10_
       have NB364_392 := n11_
       have NB392_364 := n12_
       have NB365_392 := n13_
       have NB392_365 := n14_
       have NB374_392 := n15_
       have NB392_374 := n16_
       clear n0_ n1_ n2_ n3_ n4_ n5_ n6_ n7_ n8_ n9_ n10_ n11_ n12_ n13_ n14_ n15_ n16_
       clear hb hbox hg
       obtain ⟨Ao28, co28, eo28⟩ := Kd.R_slice HO383.out
       (first | subst eo28 | (injection eo28 with f1_ f2_ f3_; have f4_ := f1_.symm; have f5_ := f3_.symm; clear f1_ f2_ f3_; subst f4_; subst f5_))
       refine hK.out _ _ ⟨(blk_cell BK364.out 0).trans rfl, (blk_cell BK364.out 1).trans rfl, (blk_cell BK365.out 0).trans rfl, (blk_cell BK365.out 1).trans rfl, (blk_cell BK365.out 2).trans rfl⟩ (fun hHeld => ?_)
       clear hK K
       refine norm_ (a' := ?_) ?_ ?_
       rotate_left
       ·show Act.put _ (some 13) _ = _
        simp only [Act.put, List.setIfInBounds_toArray, List.set_cons_zero, List.set_cons_succ, i64_w, i32_w]
        rfl
       refine one_ (i := 5) (N := some 35) #[true, true, true, true, true, true, false, false, false, false, true, false, false, false] rfl rfl (one_of HT_.out (by kernel_rfl)) (by decide) (fun K hK => ?_)
       refine goes_ Try.func23 (by kernel_rfl) rfl #[.agg #[.slice A0_0 l0_0.length c0_0, .slice A0_1 l0_1.length c0_1], .slice Ao28 y381.length co28] (by rfl) rfl rfl qA ?_
       with_reducible refine (place_Layout.calls k _ _ l0_0 _ _ l0_1 _ _ y381 t384 t387 t390 t391 _ ?side1 ?side2 ?side3 ?side4 ?side5 ?side6 A7.out).mono ?_
       (case side1 => repeat (first | exact (Kd.C_below HR0_0.out HB.out) | (with_reducible refine Kd.C_alloc ?_ _) | (with_reducible refine Kd.C_drewN ?_ _) | (with_reducible refine Kd.C_drew ?_)))
       (case side2 => exact HC0_0.out)
       (case side3 => repeat (first | exact (Kd.C_below HR0_1.out HB.out) | (with_reducible refine Kd.C_alloc ?_ _) | (with_reducible refine Kd.C_drewN ?_ _) | (with_reducible refine Kd.C_drew ?_)))
       (case side4 => exact HC0_1.out)
       (case side5 => repeat (first | exact (Kd.R_reads' HO383.out).2.2 | (with_reducible refine Kd.C_alloc ?_ _) | (with_reducible refine Kd.C_drewN ?_ _) | (with_reducible refine Kd.C_drew ?_)))
       (case side6 => exact (Kd.R_reads' HO383.out).2.1)
       rintro e w29 ⟨v385, v388, rfl, ho0, ho1, hb⟩
       refine ⟨_, rfl, ?_⟩
       have n0_ := Aside0.mk (Kd.R_elder' (qR HO368) (Kd.R_base ho0) hb)
       have n1_ := Aside0.mk (Kd.R_elder' (qR HO371) (Kd.R_base ho1) hb)
       have n2_ := Aside0.mk (Kd.R_below (qR HO380) hb)
       have n3_ := Aside0.mk (Kd.R_below (qR HO383) hb)
       have n4_ := Aside0.mk (Kd.R_lower (Kd.R_new' ho0 (Kd.R_lt (qR HO368))) (below_size qB))
       have n5_ := Aside0.mk (Kd.R_lower (Kd.R_new' ho1 (Kd.R_lt (qR HO371))) (below_size qB))
       have n6_ := Aside0.mk (blk_below (g := gb364) (o := .cells #[.slice A0_0 l0_0.length c0_0, .slice A0_1 l0_1.length c0_1] 46 (0, 0)) (qK BK364) hb)
       have n7_ := Aside0.mk (blk_below (g := gb365) (o := .cells #[.int .i64 (wrap64 ((l0_0.length : Int) - 1)), .int .i64 a2_1, .int .i64 a2_2] 62 (0, 0)) (qK BK365) hb)
       have n8_ := Aside0.mk (blk_below (g := gb374) (o := .cells #[.int .i64 t372, .int .i64 t373] 26 (0, 0)) (qK BK374) hb)
       have n9_ := Aside0.mk (blk_below (g := gb392) (o := .cells #[.int .i64 0, .int .i64 0] 26 (0, 0)) (qK BK392) hb)
       have n10_ := Aside0.mk (below_step qB hb)
       clear HO368
       clear HO371
       clear HO380
       clear HO383
       clear BK364
       clear BK365
       clear BK374
       clear BK392
       clear HB
       have HO368 := n0_
       have HO371 := n1_
       have HO380 := n2_
       have HO383 := n3_
       have HO386 := n4_
       have HO389 := n5_
       have BK364 := n6_
       have BK365 := n7_
       have BK374 := n8_
       have BK392 := n9_
       have HB := n10_
       clear n0_ n1_ n2_ n3_ n4_ n5_ n6_ n7_ n8_ n9_ n10_
       (try clear hb)
       (try clear hb2)
       (try clear hk)
       (try clear hi)
       (try clear ho0)
       (try clear ho1)
       refine hK.out _ _ ⟨(blk_cell BK364.out 0).trans rfl, (blk_cell BK364.out 1).trans rfl, (blk_cell BK365.out 0).trans rfl, (blk_cell BK365.out 1).trans rfl, (blk_cell BK365.out 2).trans rfl⟩ (fun hHeld => ?_)
       clear hK K
       refine norm_ (a' := ?_) ?_ ?_
       rotate_left
       ·show Act.put _ (some 35) _ = _
        simp only [Act.put, List.setIfInBounds_toArray, List.set_cons_zero, List.set_cons_succ, i64_w, i32_w]
        rfl
       refine pure_ (i := 6) (N := some 29) (v := ?_) (a' := ?_) #[true, true, true, true, true, true, true, false, false, false, true, false, false, false] rfl rfl (any_of HT_.out (by kernel_rfl)) (fun _ _ _ h => h) (Or.inl ⟨by rfl, ?_⟩) ?_ ?_
       rotate_left
       ·intro w'
        go_simp
        with_reducible rfl
       rotate_left
       ·simp only [Act.put, List.setIfInBounds_toArray, List.set_cons_zero, List.set_cons_succ, i64_w, i32_w]
        rfl
       refine pure_ (i := 7) (N := some 36) (v := ?_) (a' := ?_) #[true, true, true, true, true, true, true, true, false, false, true, false, false, false] rfl rfl (any_of HT_.out (by kernel_rfl)) (fun _ _ _ h => h) (Or.inl ⟨by rfl, ?_⟩) ?_ ?_
       rotate_left
       ·intro w'
        go_simp
        with_reducible rfl
       rotate_left
       ·simp only [Act.put, List.setIfInBounds_toArray, List.set_cons_zero, List.set_cons_succ, i64_w, i32_w]
        rfl
       refine pure_ (i := 8) (N := some 37) (v := ?_) (a' := ?_) #[true, true, true, true, true, true, true, true, true, false, true, false, false, false] rfl rfl (any_of HT_.out (by kernel_rfl)) (fun _ _ _ h => h) (Or.inl ⟨by rfl, ?_⟩) ?_ ?_
       rotate_left
       ·intro w'
        go_simp
        with_reducible rfl
       rotate_left
       ·simp only [Act.put, List.setIfInBounds_toArray, List.set_cons_zero, List.set_cons_succ, i64_w, i32_w]
        rfl
       refine pure_ (i := 9) (N := some 38) (v := ?_) (a' := ?_) #[true, true, true, true, true, true, true, true, true, true, true, false, false, false] rfl rfl (any_of HT_.out (by kernel_rfl)) (fun _ _ _ h => h) (Or.inl ⟨by rfl, ?_⟩) ?_ ?_
       rotate_left
       ·intro w'
        go_simp
        with_reducible rfl
       rotate_left
       ·simp only [Act.put, List.setIfInBounds_toArray, List.set_cons_zero, List.set_cons_succ, i64_w, i32_w]
        rfl
       exact norm_ (by simp only [putAll, Act.put, List.setIfInBounds_toArray, List.set_cons_zero, List.set_cons_succ]) (hCont (.slice Ao26 y378.length co26, .slice Ao28 y381.length co28, v385, v388, gb392) _ ⟨hHeld, (by (with_reducible repeat (first | apply Kd.R_alloc | apply Kd.R_drewN | apply Kd.R_drew)); exact Kd.R_mono HO368.out (fun _ hk => hk.2)), (by (with_reducible repeat (first | apply Kd.R_alloc | apply Kd.R_drewN | apply Kd.R_drew)); exact Kd.R_mono HO371.out (fun _ hk => hk.2)), (by (with_reducible repeat (first | apply Kd.R_alloc | apply Kd.R_drewN | apply Kd.R_drew)); exact Kd.R_mono HO380.out (fun _ hk => ⟨hk.2, hk.1⟩)), (qR HO383), (by (with_reducible repeat (first | apply Kd.R_alloc | apply Kd.R_drewN | apply Kd.R_drew)); exact Kd.R_mono HO386.out (fun _ hk => hk.2)), (by (with_reducible repeat (first | apply Kd.R_alloc | apply Kd.R_drewN | apply Kd.R_drew)); exact Kd.R_mono HO389.out (fun _ hk => hk.2)), (qK BK364), (qK BK365), (qK BK374), (qK BK392), GW392.out, GE392.out, NB364_392.out, NB392_364.out, NB365_392.out, NB392_365.out, NB374_392.out, NB392_374.out, qB⟩)
     ·skip
      refine box_step ?hg (N := 13) ?hd (cs := #[.int .i64 0, .int .i64 0]) (t := 26) ?hr ?_; (case hd => rfl); (case hg => rfl); (case hr => first | (go_simp; done) | (go_simp; rfl))
      intro gb392 hg w25 hbox hb
      have n0_ := Aside0.mk (Kd.R_below (qR HO368) hb)
      have n1_ := Aside0.mk (Kd.R_below (qR HO371) hb)
      have n2_ := Aside0.mk (Kd.R_below (qR HO377) hb)
      have n3_ := Aside0.mk (Kd.R_below (qR HO380) hb)
      have n4_ := Aside0.mk (blk_below (g := gb364) (o := .cells #[.slice A0_0 l0_0.length c0_0, .slice A0_1 l0_1.length c0_1] 46 (0, 0)) (qK BK364) hb)
      have n5_ := Aside0.mk (blk_below (g := gb365) (o := .cells #[.int .i64 (wrap64 ((l0_0.length : Int) - 1)), .int .i64 a2_1, .int .i64 a2_2] 62 (0, 0)) (qK BK365) hb)
      have n6_ := Aside0.mk (blk_below (g := gb374) (o := .cells #[.int .i64 t372, .int .i64 t373] 26 (0, 0)) (qK BK374) hb)
      have n7_ := Aside0.mk (below_step qB hb)
      have n8_ := Aside0.mk (hbox)
      have n9_ := Aside0.mk ((qG hg : w.heap.size ≤ gb392))
      have n10_ := Aside0.mk ((qG hg : w.heap.size ≤ gb392))
      have n11_ := Aside0.mk ((by rw [hg]; exact Nat.ne_of_lt (blk_lt (g := gb364) (o := .cells #[.slice A0_0 l0_0.length c0_0, .slice A0_1 l0_1.length c0_1] 46 (0, 0)) (qK BK364)) : gb364 ≠ gb392))
      have n12_ := Aside0.mk ((by rw [hg]; exact Nat.ne_of_gt (blk_lt (g := gb364) (o := .cells #[.slice A0_0 l0_0.length c0_0, .slice A0_1 l0_1.length c0_1] 46 (0, 0)) (qK BK364)) : gb392 ≠ gb364))
      have n13_ := Aside0.mk ((by rw [hg]; exact Nat.ne_of_lt (blk_lt (g := gb365) (o := .cells #[.int .i64 (wrap64 ((l0_0.length : Int) - 1)), .int .i64 a2_1, .int .i64 a2_2] 62 (0, 0)) (qK BK365)) : gb365 ≠ gb392))
      have n14_ := Aside0.mk ((by rw [hg]; exact Nat.ne_of_gt (blk_lt (g := gb365) (o := .cells #[.int .i64 (wrap64 ((l0_0.length : Int) - 1)), .int .i64 a2_1, .int .i64 a2_2] 62 (0, 0)) (qK BK365)) : gb392 ≠ gb365))
      have n15_ := Aside0.mk ((by rw [hg]; exact Nat.ne_of_lt (blk_lt (g := gb374) (o := .cells #[.int .i64 t372, .int .i64 t373] 26 (0, 0)) (qK BK374)) : gb374 ≠ gb392))
      have n16_ := Aside0.mk ((by rw [hg]; exact Nat.ne_of_gt (blk_lt (g := gb374) (o := .cells #[.int .i64 t372, .int .i64 t373] 26 (0, 0)) (qK BK374)) : gb392 ≠ gb374))
      clear HO368
      clear HO371
      clear HO377
      clear HO380
      clear BK364
      clear BK365
      clear BK374
      clear HB
      have HO368 := n0_
      have HO371 := n1_
      have HO377 := n2_
      have HO380 := n3_
      have BK364 := n4_
      have BK365 := n5_
      have BK374 := n6_
      have HB := n7_
      have BK392 := n8_
      have GW392 := n9_
      have GE392 := n10_
      have NB364_392 := n11_
      have NB392_364 := n12_
      have NB365_392 := n13_
      have NB392_365 := n14_
      have NB374_392 := n15_
      have NB392_374 := n16_
      clear n0_ n1_ n2_ n3_ n4_ n5_ n6_ n7_ n8_ n9_ n10_ n11_ n12_ n13_ n14_ n15_ n16_
      clear hb hbox hg
      obtain ⟨Ao27, co27, eo27⟩ := Kd.R_slice HO380.out
      (first | subst eo27 | (injection eo27 with f1_ f2_ f3_; have f4_ := f1_.symm; have f5_ := f3_.symm; clear f1_ f2_ f3_; subst f4_; subst f5_))
      refine hK.out _ _ ⟨(blk_cell BK364.out 0).trans rfl, (blk_cell BK364.out 1).trans rfl, (blk_cell BK365.out 0).trans rfl, (blk_cell BK365.out 1).trans rfl, (blk_cell BK365.out 2).trans rfl⟩ (fun hHeld => ?_)
      clear hK K
      refine norm_ (a' := ?_) ?_ ?_
      rotate_left
      ·show Act.put _ (some 13) _ = _
       simp only [Act.put, List.setIfInBounds_toArray, List.set_cons_zero, List.set_cons_succ, i64_w, i32_w]
       rfl
      refine one_ (i := 4) (N := some 34) #[true, true, true, true, true, false, false, false, false, false, true, false, false, false] rfl rfl (one_of HT_.out (by kernel_rfl)) (by decide) (fun K hK => ?_)
      refine Kd.R_append_rows_step k62 (w0 := w) w.heap.size (by rfl) (.tmp 31) (.tmp 33) 47 62 (.agg #[(.int .i64 0), (.int .i64 0), (.int .i64 0)]) 24 rfl Try.underlying47 info62 rfl (by decide) (by omega) (.slice Ao21 y375.length co21) y375 y378 _ _ _ (fun k_ => some k_ ≠ (.slice Ao27 y378.length co27 : Value).ownBlock ∧ k_ ≠ gb365) (fun _ => False) rfl rfl ?aO ?aR (fun _ _ h => h) (fun _ h => h.elim) ?aF ?aB ?aS ?aL ?_
      (case aR => repeat (first | exact (Kd.R_reads' HO380.out).2.2 | (with_reducible refine Kd.C_alloc ?_ _) | (with_reducible refine Kd.C_drewN ?_ _) | (with_reducible refine Kd.C_drew ?_)))
      (case aB => exact qB)
      (case aF => exact (fun k_ hk => ⟨Kd.fresh' (Kd.R_lt (qR HO380)) k_ hk, Kd.freshB (g := gb365) (o := .cells #[.int .i64 (wrap64 ((l0_0.length : Int) - 1)), .int .i64 a2_1, .int .i64 a2_2] 62 (0, 0)) (qK BK365) k_ hk⟩))
      (case aO => exact (by (with_reducible repeat (first | apply Kd.R_alloc | apply Kd.R_drewN | apply Kd.R_drew)); exact Kd.R_mono HO377.out (fun _ hk => ⟨hk.2, hk.1⟩)))
      (case aS => exact (below_size qB))
      (case aL => have := LMc6.out; omega)
      intro v382 w26 ho hb hg hat
      rw [← Ny381.out] at ho
      have n0_ := Aside0.mk (blk_grown (g := gb364) (o := .cells #[.slice A0_0 l0_0.length c0_0, .slice A0_1 l0_1.length c0_1] 46 (0, 0)) (qK BK364) hg (Kd.R_ne HO377.out BK364.out (by decide)))
      have n1_ := Aside0.mk (blk_grown (g := gb365) (o := .cells #[.int .i64 (wrap64 ((l0_0.length : Int) - 1)), .int .i64 a2_1, .int .i64 a2_2] 62 (0, 0)) (qK BK365) hg (Kd.R_away HO377.out (fun _ hk => hk.1)))
      have n2_ := Aside0.mk (Kd.R_over' (qR HO368) (Kd.R_typed (qR HO377)) (by decide) hg)
      have n3_ := Aside0.mk (Kd.R_over' (qR HO371) (Kd.R_typed (qR HO377)) (by decide) hg)
      have n4_ := Aside0.mk (blk_grown (g := gb374) (o := .cells #[.int .i64 t372, .int .i64 t373] 26 (0, 0)) (qK BK374) hg (Kd.R_ne HO377.out BK374.out (by decide)))
      have n5_ := Aside0.mk (Kd.R_after (ok := (fun k_ => k_ ≠ gb365)) (by (with_reducible repeat (first | apply Kd.R_alloc | apply Kd.R_drewN | apply Kd.R_drew)); exact Kd.R_mono HO380.out (fun _ hk => ⟨hk.2, hk.1.2⟩)) hg hat)
      have n6_ := Aside0.mk (blk_grown (g := gb392) (o := .cells #[.int .i64 0, .int .i64 0] 26 (0, 0)) (qK BK392) hg (Kd.R_ne HO377.out BK392.out (by decide)))
      have n7_ := Aside0.mk (hb)
      have n8_ := Aside0.mk (ho)
      clear BK364
      clear BK365
      clear HO368
      clear HO371
      clear BK374
      clear HO380
      clear BK392
      clear HB
      clear HO377
      have BK364 := n0_
      have BK365 := n1_
      have HO368 := n2_
      have HO371 := n3_
      have BK374 := n4_
      have HO380 := n5_
      have BK392 := n6_
      have HB := n7_
      have HO383 := n8_
      clear n0_ n1_ n2_ n3_ n4_ n5_ n6_ n7_ n8_
      clear ho hb hg hat
      obtain ⟨Ao28, co28, eo28⟩ := Kd.R_slice HO383.out
      (first | subst eo28 | (injection eo28 with f1_ f2_ f3_; have f4_ := f1_.symm; have f5_ := f3_.symm; clear f1_ f2_ f3_; subst f4_; subst f5_))
      refine hK.out _ _ ⟨(blk_cell BK364.out 0).trans rfl, (blk_cell BK364.out 1).trans rfl, (blk_cell BK365.out 0).trans rfl, (blk_cell BK365.out 1).trans rfl, (blk_cell BK365.out 2).trans rfl⟩ (fun hHeld => ?_)
      clear hK K
      refine norm_ (a' := ?_) ?_ ?_
      rotate_left
      ·show Act.put _ (some 34) _ = _
       simp only [Act.put, List.setIfInBounds_toArray, List.set_cons_zero, List.set_cons_succ, i64_w, i32_w]
       rfl
      refine one_ (i := 5) (N := some 35) #[true, true, true, true, true, true, false, false, false, false, true, false, false, false] rfl rfl (one_of HT_.out (by kernel_rfl)) (by decide) (fun K hK => ?_)
      refine goes_ Try.func23 (by kernel_rfl) rfl #[.agg #[.slice A0_0 l0_0.length c0_0, .slice A0_1 l0_1.length c0_1], .slice Ao28 y381.length co28] (by rfl) rfl rfl qA ?_
      with_reducible refine (place_Layout.calls k _ _ l0_0 _ _ l0_1 _ _ y381 t384 t387 t390 t391 _ ?side1 ?side2 ?side3 ?side4 ?side5 ?side6 A7.out).mono ?_
      (case side1 => repeat (first | exact (Kd.C_below HR0_0.out HB.out) | (with_reducible refine Kd.C_alloc ?_ _) | (with_reducible refine Kd.C_drewN ?_ _) | (with_reducible refine Kd.C_drew ?_)))
      (case side2 => exact HC0_0.out)
      (case side3 => repeat (first | exact (Kd.C_below HR0_1.out HB.out) | (with_reducible refine Kd.C_alloc ?_ _) | (with_reducible refine Kd.C_drewN ?_ _) | (with_reducible refine Kd.C_drew ?_)))
      (case side4 => exact HC0_1.out)
      (case side5 => repeat (first | exact (Kd.R_reads' HO383.out).2.2 | (with_reducible refine Kd.C_alloc ?_ _) | (with_reducible refine Kd.C_drewN ?_ _) | (with_reducible refine Kd.C_drew ?_)))
      (case side6 => exact (Kd.R_reads' HO383.out).2.1)
      rintro e w29 ⟨v385, v388, rfl, ho0, ho1, hb⟩
      refine ⟨_, rfl, ?_⟩
      have n0_ := Aside0.mk (Kd.R_elder' (qR HO368) (Kd.R_base ho0) hb)
      have n1_ := Aside0.mk (Kd.R_elder' (qR HO371) (Kd.R_base ho1) hb)
      have n2_ := Aside0.mk (Kd.R_below (qR HO380) hb)
      have n3_ := Aside0.mk (Kd.R_below (qR HO383) hb)
      have n4_ := Aside0.mk (Kd.R_lower (Kd.R_new' ho0 (Kd.R_lt (qR HO368))) (below_size qB))
      have n5_ := Aside0.mk (Kd.R_lower (Kd.R_new' ho1 (Kd.R_lt (qR HO371))) (below_size qB))
      have n6_ := Aside0.mk (blk_below (g := gb364) (o := .cells #[.slice A0_0 l0_0.length c0_0, .slice A0_1 l0_1.length c0_1] 46 (0, 0)) (qK BK364) hb)
      have n7_ := Aside0.mk (blk_below (g := gb365) (o := .cells #[.int .i64 (wrap64 ((l0_0.length : Int) - 1)), .int .i64 a2_1, .int .i64 a2_2] 62 (0, 0)) (qK BK365) hb)
      have n8_ := Aside0.mk (blk_below (g := gb374) (o := .cells #[.int .i64 t372, .int .i64 t373] 26 (0, 0)) (qK BK374) hb)
      have n9_ := Aside0.mk (blk_below (g := gb392) (o := .cells #[.int .i64 0, .int .i64 0] 26 (0, 0)) (qK BK392) hb)
      have n10_ := Aside0.mk (below_step qB hb)
      clear HO368
      clear HO371
      clear HO380
      clear HO383
      clear BK364
      clear BK365
      clear BK374
      clear BK392
      clear HB
      have HO368 := n0_
      have HO371 := n1_
      have HO380 := n2_
      have HO383 := n3_
      have HO386 := n4_
      have HO389 := n5_
      have BK364 := n6_
      have BK365 := n7_
      have BK374 := n8_
      have BK392 := n9_
      have HB := n10_
      clear n0_ n1_ n2_ n3_ n4_ n5_ n6_ n7_ n8_ n9_ n10_
      (try clear hb)
      (try clear hb2)
      (try clear hk)
      (try clear hi)
      (try clear ho0)
      (try clear ho1)
      refine hK.out _ _ ⟨(blk_cell BK364.out 0).trans rfl, (blk_cell BK364.out 1).trans rfl, (blk_cell BK365.out 0).trans rfl, (blk_cell BK365.out 1).trans rfl, (blk_cell BK365.out 2).trans rfl⟩ (fun hHeld => ?_)
      clear hK K
      refine norm_ (a' := ?_) ?_ ?_
      rotate_left
      ·show Act.put _ (some 35) _ = _
       simp only [Act.put, List.setIfInBounds_toArray, List.set_cons_zero, List.set_cons_succ, i64_w, i32_w]
       rfl
      refine pure_ (i := 6) (N := some 29) (v := ?_) (a' := ?_) #[true, true, true, true, true, true, true, false, false, false, true, false, false, false] rfl rfl (any_of HT_.out (by kernel_rfl)) (fun _ _ _ h => h) (Or.inl ⟨by rfl, ?_⟩) ?_ ?_
      rotate_left
      ·intro w'
       go_simp
       with_reducible rfl
      rotate_left
      ·simp only [Act.put, List.setIfInBounds_toArray, List.set_cons_zero, List.set_cons_succ, i64_w, i32_w]
       rfl
      refine pure_ (i := 7) (N := some 36) (v := ?_) (a' := ?_) #[true, true, true, true, true, true, true, true, false, false, true, false, false, false] rfl rfl (any_of HT_.out (by kernel_rfl)) (fun _ _ _ h => h) (Or.inl ⟨by rfl, ?_⟩) ?_ ?_
      rotate_left
      ·intro w'
       go_simp
       with_reducible rfl
      rotate_left
      ·simp only [Act.put, List.setIfInBounds_toArray, List.set_cons_zero, List.set_cons_succ, i64_w, i32_w]
       rfl
      refine pure_ (i := 8) (N := some 37) (v := ?_) (a' := ?_) #[true, true, true, true, true, true, true, true, true, false, true, false, false, false] rfl rfl (any_of HT_.out (by kernel_rfl)) (fun _ _ _ h => h) (Or.inl ⟨by rfl, ?_⟩) ?_ ?_
      rotate_left
      ·intro w'
       go_simp
       with_reducible rfl
      rotate_left
      ·simp only [Act.put, List.setIfInBounds_toArray, List.set_cons_zero, List.set_cons_succ, i64_w, i32_w]
       rfl
      refine pure_ (i := 9) (N := some 38) (v := ?_) (a' := ?_) #[true, true, true, true, true, true, true, true, true, true, true, false, false, false] rfl rfl (any_of HT_.out (by kernel_rfl)) (fun _ _ _ h => h) (Or.inl ⟨by rfl, ?_⟩) ?_ ?_
      rotate_left
      ·intro w'
       go_simp
       with_reducible rfl
      rotate_left
      ·simp only [Act.put, List.setIfInBounds_toArray, List.set_cons_zero, List.set_cons_succ, i64_w, i32_w]
       rfl
      exact norm_ (by simp only [putAll, Act.put, List.setIfInBounds_toArray, List.set_cons_zero, List.set_cons_succ]) (hCont (.slice Ao27 y378.length co27, .slice Ao28 y381.length co28, v385, v388, gb392) _ ⟨hHeld, (by (with_reducible repeat (first | apply Kd.R_alloc | apply Kd.R_drewN | apply Kd.R_drew)); exact Kd.R_mono HO368.out (fun _ hk => hk.2)), (by (with_reducible repeat (first | apply Kd.R_alloc | apply Kd.R_drewN | apply Kd.R_drew)); exact Kd.R_mono HO371.out (fun _ hk => hk.2)), (by (with_reducible repeat (first | apply Kd.R_alloc | apply Kd.R_drewN | apply Kd.R_drew)); exact Kd.R_mono HO380.out (fun _ hk => ⟨hk.2, hk.1⟩)), (qR HO383), (by (with_reducible repeat (first | apply Kd.R_alloc | apply Kd.R_drewN | apply Kd.R_drew)); exact Kd.R_mono HO386.out (fun _ hk => hk.2)), (by (with_reducible repeat (first | apply Kd.R_alloc | apply Kd.R_drewN | apply Kd.R_drew)); exact Kd.R_mono HO389.out (fun _ hk => hk.2)), (qK BK364), (qK BK365), (qK BK374), (qK BK392), GW392.out, GE392.out, NB364_392.out, NB392_364.out, NB365_392.out, NB392_365.out, NB374_392.out, NB392_374.out, qB⟩)
    ·skip
     refine box_step ?hg (N := 13) ?hd (cs := #[.int .i64 0, .int .i64 0]) (t := 26) ?hr ?_; (case hd => rfl); (case hg => rfl); (case hr => first | (go_simp; done) | (go_simp; rfl))
     intro gb392 hg w23 hbox hb
     have n0_ := Aside0.mk (Kd.R_below (qR HO368) hb)
     have n1_ := Aside0.mk (Kd.R_below (qR HO371) hb)
     have n2_ := Aside0.mk (Kd.R_below (qR HO377) hb)
     have n3_ := Aside0.mk (blk_below (g := gb364) (o := .cells #[.slice A0_0 l0_0.length c0_0, .slice A0_1 l0_1.length c0_1] 46 (0, 0)) (qK BK364) hb)
     have n4_ := Aside0.mk (blk_below (g := gb365) (o := .cells #[.int .i64 (wrap64 ((l0_0.length : Int) - 1)), .int .i64 a2_1, .int .i64 a2_2] 62 (0, 0)) (qK BK365) hb)
     have n5_ := Aside0.mk (blk_below (g := gb374) (o := .cells #[.int .i64 t372, .int .i64 t373] 26 (0, 0)) (qK BK374) hb)
     have n6_ := Aside0.mk (below_step qB hb)
     have n7_ := Aside0.mk (hbox)
     have n8_ := Aside0.mk ((qG hg : w.heap.size ≤ gb392))
     have n9_ := Aside0.mk ((qG hg : w.heap.size ≤ gb392))
     have n10_ := Aside0.mk ((by rw [hg]; exact Nat.ne_of_lt (blk_lt (g := gb364) (o := .cells #[.slice A0_0 l0_0.length c0_0, .slice A0_1 l0_1.length c0_1] 46 (0, 0)) (qK BK364)) : gb364 ≠ gb392))
     have n11_ := Aside0.mk ((by rw [hg]; exact Nat.ne_of_gt (blk_lt (g := gb364) (o := .cells #[.slice A0_0 l0_0.length c0_0, .slice A0_1 l0_1.length c0_1] 46 (0, 0)) (qK BK364)) : gb392 ≠ gb364))
     have n12_ := Aside0.mk ((by rw [hg]; exact Nat.ne_of_lt (blk_lt (g := gb365) (o := .cells #[.int .i64 (wrap64 ((l0_0.length : Int) - 1)), .int .i64 a2_1, .int .i64 a2_2] 62 (0, 0)) (qK BK365)) : gb365 ≠ gb392))
     have n13_ := Aside0.mk ((by rw [hg]; exact Nat.ne_of_gt (blk_lt (g := gb365) (o := .cells #[.int .i64 (wrap64 ((l0_0.length : Int) - 1)), .int .i64 a2_1, .int .i64 a2_2] 62 (0, 0)) (qK BK365)) : gb392 ≠ gb365))
     have n14_ := Aside0.mk ((by rw [hg]; exact Nat.ne_of_lt (blk_lt (g := gb374) (o := .cells #[.int .i64 t372, .int .i64 t373] 26 (0, 0)) (qK BK374)) : gb374 ≠ gb392))
     have n15_ := Aside0.mk ((by rw [hg]; exact Nat.ne_of_gt (blk_lt (g := gb374) (o := .cells #[.int .i64 t372, .int .i64 t373] 26 (0, 0)) (qK BK374)) : gb392 ≠ gb374))
     clear HO368
     clear HO371
     clear HO377
     clear BK364
     clear BK365
     clear BK374
     clear HB
     have HO368 := n0_
     have HO371 := n1_
     have HO377 := n2_
     have BK364 := n3_
     have BK365 := n4_
     have BK374 := n5_
     have HB := n6_
     have BK392 := n7_
     have GW392 := n8_
     have GE392 := n9_
     have NB364_392 := n10_
     have NB392_364 := n11_
     have NB365_392 := n12_
     have NB392_365 := n13_
     have NB374_392 := n14_
     have NB392_374 := n15_
     clear n0_ n1_ n2_ n3_ n4_ n5_ n6_ n7_ n8_ n9_ n10_ n11_ n12_ n13_ n14_ n15_
     clear hb hbox hg
     refine hK.out _ _ ⟨(blk_cell BK364.out 0).trans rfl, (blk_cell BK364.out 1).trans rfl, (blk_cell BK365.out 0).trans rfl, (blk_cell BK365.out 1).trans rfl, (blk_cell BK365.out 2).trans rfl⟩ (fun hHeld => ?_)
     clear hK K
     refine norm_ (a' := ?_) ?_ ?_
     rotate_left
     ·show Act.put _ (some 13) _ = _
      simp only [Act.put, List.setIfInBounds_toArray, List.set_cons_zero, List.set_cons_succ, i64_w, i32_w]
      rfl
     refine one_ (i := 3) (N := some 33) #[true, true, true, true, false, false, false, false, false, false, true, false, false, false] rfl rfl (one_of HT_.out (by kernel_rfl)) (by decide) (fun K hK => ?_)
     refine Kd.R_lit_step k62 _ 62 ?hg (N := 33) ?hd (xs := ([(⟨wrap64 ((l0_0.length : Int) - 1), a2_1, a2_2⟩ : S62)] : List (S62))) (inner := [.int .i64 (wrap64 ((l0_0.length : Int) - 1)), .int .i64 a2_1, .int .i64 a2_2]) (ok := fun _ => True) (okp := fun _ => True) ?hr ?hp (fun _ hk => hk) trivial (Below.refl _ _) (Nat.le_refl _) (by simp) ?_; (case hd => rfl); (case hg => rfl); (case hr => first | (go_simp; done) | (go_simp; rfl)); (case hp => exact (Reps.c3 (show Kd.M k62 _ _ _ (⟨wrap64 ((l0_0.length : Int) - 1), a2_1, a2_2⟩ : S62) [.int .i64 (wrap64 ((l0_0.length : Int) - 1)), .int .i64 a2_1, .int .i64 a2_2] from (k62_mkM _ _ _ (⟨wrap64 ((l0_0.length : Int) - 1), a2_1, a2_2⟩ : S62) )) (Reps.none _ _)))
     intro v379 w24 ho25 hb hg_ hnew_
     clear hg_ hnew_
     (first | rw [← Ny378.out] at ho25 | (simp only [Int.reduceToNat] at ho25; rw [← Ny378.out] at ho25))
     have n0_ := Aside0.mk (Kd.R_below (qR HO368) hb)
     have n1_ := Aside0.mk (Kd.R_below (qR HO371) hb)
     have n2_ := Aside0.mk (Kd.R_elder' (qR HO377) (Kd.R_base ho25) hb)
     have n3_ := Aside0.mk (Kd.R_lower (Kd.R_newB (Kd.R_new' ho25 (Kd.R_lt (qR HO377))) (g := gb365) (o := .cells #[.int .i64 (wrap64 ((l0_0.length : Int) - 1)), .int .i64 a2_1, .int .i64 a2_2] 62 (0, 0)) (qK BK365)) (below_size qB))
     have n4_ := Aside0.mk (blk_below (g := gb364) (o := .cells #[.slice A0_0 l0_0.length c0_0, .slice A0_1 l0_1.length c0_1] 46 (0, 0)) (qK BK364) hb)
     have n5_ := Aside0.mk (blk_below (g := gb365) (o := .cells #[.int .i64 (wrap64 ((l0_0.length : Int) - 1)), .int .i64 a2_1, .int .i64 a2_2] 62 (0, 0)) (qK BK365) hb)
     have n6_ := Aside0.mk (blk_below (g := gb374) (o := .cells #[.int .i64 t372, .int .i64 t373] 26 (0, 0)) (qK BK374) hb)
     have n7_ := Aside0.mk (blk_below (g := gb392) (o := .cells #[.int .i64 0, .int .i64 0] 26 (0, 0)) (qK BK392) hb)
     have n8_ := Aside0.mk (below_step qB hb)
     clear HO368
     clear HO371
     clear HO377
     clear BK364
     clear BK365
     clear BK374
     clear BK392
     clear HB
     have HO368 := n0_
     have HO371 := n1_
     have HO377 := n2_
     have HO380 := n3_
     have BK364 := n4_
     have BK365 := n5_
     have BK374 := n6_
     have BK392 := n7_
     have HB := n8_
     clear n0_ n1_ n2_ n3_ n4_ n5_ n6_ n7_ n8_
     clear hb ho25
     obtain ⟨Ao27, co27, eo27⟩ := Kd.R_slice HO380.out
     (first | subst eo27 | (injection eo27 with f1_ f2_ f3_; have f4_ := f1_.symm; have f5_ := f3_.symm; clear f1_ f2_ f3_; subst f4_; subst f5_))
     refine hK.out _ _ ⟨(blk_cell BK364.out 0).trans rfl, (blk_cell BK364.out 1).trans rfl, (blk_cell BK365.out 0).trans rfl, (blk_cell BK365.out 1).trans rfl, (blk_cell BK365.out 2).trans rfl⟩ (fun hHeld => ?_)
     clear hK K
     refine norm_ (a' := ?_) ?_ ?_
     rotate_left
     ·show Act.put _ (some 33) _ = _
      simp only [Act.put, List.setIfInBounds_toArray, List.set_cons_zero, List.set_cons_succ, i64_w, i32_w]
      rfl
     refine one_ (i := 4) (N := some 34) #[true, true, true, true, true, false, false, false, false, false, true, false, false, false] rfl rfl (one_of HT_.out (by kernel_rfl)) (by decide) (fun K hK => ?_)
     refine Kd.R_append_rows_step k62 (w0 := w) w.heap.size (by rfl) (.tmp 31) (.tmp 33) 47 62 (.agg #[(.int .i64 0), (.int .i64 0), (.int .i64 0)]) 24 rfl Try.underlying47 info62 rfl (by decide) (by omega) (.slice Ao21 y375.length co21) y375 y378 _ _ _ (fun k_ => some k_ ≠ (.slice Ao27 y378.length co27 : Value).ownBlock ∧ k_ ≠ gb365) (fun _ => False) rfl rfl ?aO ?aR (fun _ _ h => h) (fun _ h => h.elim) ?aF ?aB ?aS ?aL ?_
     (case aR => repeat (first | exact (Kd.R_reads' HO380.out).2.2 | (with_reducible refine Kd.C_alloc ?_ _) | (with_reducible refine Kd.C_drewN ?_ _) | (with_reducible refine Kd.C_drew ?_)))
     (case aB => exact qB)
     (case aF => exact (fun k_ hk => ⟨Kd.fresh' (Kd.R_lt (qR HO380)) k_ hk, Kd.freshB (g := gb365) (o := .cells #[.int .i64 (wrap64 ((l0_0.length : Int) - 1)), .int .i64 a2_1, .int .i64 a2_2] 62 (0, 0)) (qK BK365) k_ hk⟩))
     (case aO => exact (by (with_reducible repeat (first | apply Kd.R_alloc | apply Kd.R_drewN | apply Kd.R_drew)); exact Kd.R_mono HO377.out (fun _ hk => ⟨hk.2, hk.1⟩)))
     (case aS => exact (below_size qB))
     (case aL => have := LMc6.out; omega)
     intro v382 w26 ho hb hg hat
     rw [← Ny381.out] at ho
     have n0_ := Aside0.mk (blk_grown (g := gb364) (o := .cells #[.slice A0_0 l0_0.length c0_0, .slice A0_1 l0_1.length c0_1] 46 (0, 0)) (qK BK364) hg (Kd.R_ne HO377.out BK364.out (by decide)))
     have n1_ := Aside0.mk (blk_grown (g := gb365) (o := .cells #[.int .i64 (wrap64 ((l0_0.length : Int) - 1)), .int .i64 a2_1, .int .i64 a2_2] 62 (0, 0)) (qK BK365) hg (Kd.R_away HO377.out (fun _ hk => hk.1)))
     have n2_ := Aside0.mk (Kd.R_over' (qR HO368) (Kd.R_typed (qR HO377)) (by decide) hg)
     have n3_ := Aside0.mk (Kd.R_over' (qR HO371) (Kd.R_typed (qR HO377)) (by decide) hg)
     have n4_ := Aside0.mk (blk_grown (g := gb374) (o := .cells #[.int .i64 t372, .int .i64 t373] 26 (0, 0)) (qK BK374) hg (Kd.R_ne HO377.out BK374.out (by decide)))
     have n5_ := Aside0.mk (blk_grown (g := gb392) (o := .cells #[.int .i64 0, .int .i64 0] 26 (0, 0)) (qK BK392) hg (Kd.R_ne HO377.out BK392.out (by decide)))
     have n6_ := Aside0.mk (Kd.R_after (ok := (fun k_ => k_ ≠ gb365)) (by (with_reducible repeat (first | apply Kd.R_alloc | apply Kd.R_drewN | apply Kd.R_drew)); exact Kd.R_mono HO380.out (fun _ hk => ⟨hk.2, hk.1.2⟩)) hg hat)
     have n7_ := Aside0.mk (hb)
     have n8_ := Aside0.mk (ho)
     clear BK364
     clear BK365
     clear HO368
     clear HO371
     clear BK374
     clear BK392
     clear HO380
     clear HB
     clear HO377
     have BK364 := n0_
     have BK365 := n1_
     have HO368 := n2_
     have HO371 := n3_
     have BK374 := n4_
     have BK392 := n5_
     have HO380 := n6_
     have HB := n7_
     have HO383 := n8_
     clear n0_ n1_ n2_ n3_ n4_ n5_ n6_ n7_ n8_
     clear ho hb hg hat
     obtain ⟨Ao28, co28, eo28⟩ := Kd.R_slice HO383.out
     (first | subst eo28 | (injection eo28 with f1_ f2_ f3_; have f4_ := f1_.symm; have f5_ := f3_.symm; clear f1_ f2_ f3_; subst f4_; subst f5_))
     refine hK.out _ _ ⟨(blk_cell BK364.out 0).trans rfl, (blk_cell BK364.out 1).trans rfl, (blk_cell BK365.out 0).trans rfl, (blk_cell BK365.out 1).trans rfl, (blk_cell BK365.out 2).trans rfl⟩ (fun hHeld => ?_)
     clear hK K
     refine norm_ (a' := ?_) ?_ ?_
     rotate_left
     ·show Act.put _ (some 34) _ = _
      simp only [Act.put, List.setIfInBounds_toArray, List.set_cons_zero, List.set_cons_succ, i64_w, i32_w]
      rfl
     refine one_ (i := 5) (N := some 35) #[true, true, true, true, true, true, false, false, false, false, true, false, false, false] rfl rfl (one_of HT_.out (by kernel_rfl)) (by decide) (fun K hK => ?_)
     refine goes_ Try.func23 (by kernel_rfl) rfl #[.agg #[.slice A0_0 l0_0.length c0_0, .slice A0_1 l0_1.length c0_1], .slice Ao28 y381.length co28] (by rfl) rfl rfl qA ?_
     with_reducible refine (place_Layout.calls k _ _ l0_0 _ _ l0_1 _ _ y381 t384 t387 t390 t391 _ ?side1 ?side2 ?side3 ?side4 ?side5 ?side6 A7.out).mono ?_
     (case side1 => repeat (first | exact (Kd.C_below HR0_0.out HB.out) | (with_reducible refine Kd.C_alloc ?_ _) | (with_reducible refine Kd.C_drewN ?_ _) | (with_reducible refine Kd.C_drew ?_)))
     (case side2 => exact HC0_0.out)
     (case side3 => repeat (first | exact (Kd.C_below HR0_1.out HB.out) | (with_reducible refine Kd.C_alloc ?_ _) | (with_reducible refine Kd.C_drewN ?_ _) | (with_reducible refine Kd.C_drew ?_)))
     (case side4 => exact HC0_1.out)
     (case side5 => repeat (first | exact (Kd.R_reads' HO383.out).2.2 | (with_reducible refine Kd.C_alloc ?_ _) | (with_reducible refine Kd.C_drewN ?_ _) | (with_reducible refine Kd.C_drew ?_)))
     (case side6 => exact (Kd.R_reads' HO383.out).2.1)
     rintro e w29 ⟨v385, v388, rfl, ho0, ho1, hb⟩
     refine ⟨_, rfl, ?_⟩
     have n0_ := Aside0.mk (Kd.R_elder' (qR HO368) (Kd.R_base ho0) hb)
     have n1_ := Aside0.mk (Kd.R_elder' (qR HO371) (Kd.R_base ho1) hb)
     have n2_ := Aside0.mk (Kd.R_below (qR HO380) hb)
     have n3_ := Aside0.mk (Kd.R_below (qR HO383) hb)
     have n4_ := Aside0.mk (Kd.R_lower (Kd.R_new' ho0 (Kd.R_lt (qR HO368))) (below_size qB))
     have n5_ := Aside0.mk (Kd.R_lower (Kd.R_new' ho1 (Kd.R_lt (qR HO371))) (below_size qB))
     have n6_ := Aside0.mk (blk_below (g := gb364) (o := .cells #[.slice A0_0 l0_0.length c0_0, .slice A0_1 l0_1.length c0_1] 46 (0, 0)) (qK BK364) hb)
     have n7_ := Aside0.mk (blk_below (g := gb365) (o := .cells #[.int .i64 (wrap64 ((l0_0.length : Int) - 1)), .int .i64 a2_1, .int .i64 a2_2] 62 (0, 0)) (qK BK365) hb)
     have n8_ := Aside0.mk (blk_below (g := gb374) (o := .cells #[.int .i64 t372, .int .i64 t373] 26 (0, 0)) (qK BK374) hb)
     have n9_ := Aside0.mk (blk_below (g := gb392) (o := .cells #[.int .i64 0, .int .i64 0] 26 (0, 0)) (qK BK392) hb)
     have n10_ := Aside0.mk (below_step qB hb)
     clear HO368
     clear HO371
     clear HO380
     clear HO383
     clear BK364
     clear BK365
     clear BK374
     clear BK392
     clear HB
     have HO368 := n0_
     have HO371 := n1_
     have HO380 := n2_
     have HO383 := n3_
     have HO386 := n4_
     have HO389 := n5_
     have BK364 := n6_
     have BK365 := n7_
     have BK374 := n8_
     have BK392 := n9_
     have HB := n10_
     clear n0_ n1_ n2_ n3_ n4_ n5_ n6_ n7_ n8_ n9_ n10_
     (try clear hb)
     (try clear hb2)
     (try clear hk)
     (try clear hi)
     (try clear ho0)
     (try clear ho1)
     refine hK.out _ _ ⟨(blk_cell BK364.out 0).trans rfl, (blk_cell BK364.out 1).trans rfl, (blk_cell BK365.out 0).trans rfl, (blk_cell BK365.out 1).trans rfl, (blk_cell BK365.out 2).trans rfl⟩ (fun hHeld => ?_)
     clear hK K
     refine norm_ (a' := ?_) ?_ ?_
     rotate_left
     ·show Act.put _ (some 35) _ = _
      simp only [Act.put, List.setIfInBounds_toArray, List.set_cons_zero, List.set_cons_succ, i64_w, i32_w]
      rfl
     refine pure_ (i := 6) (N := some 29) (v := ?_) (a' := ?_) #[true, true, true, true, true, true, true, false, false, false, true, false, false, false] rfl rfl (any_of HT_.out (by kernel_rfl)) (fun _ _ _ h => h) (Or.inl ⟨by rfl, ?_⟩) ?_ ?_
     rotate_left
     ·intro w'
      go_simp
      with_reducible rfl
     rotate_left
     ·simp only [Act.put, List.setIfInBounds_toArray, List.set_cons_zero, List.set_cons_succ, i64_w, i32_w]
      rfl
     refine pure_ (i := 7) (N := some 36) (v := ?_) (a' := ?_) #[true, true, true, true, true, true, true, true, false, false, true, false, false, false] rfl rfl (any_of HT_.out (by kernel_rfl)) (fun _ _ _ h => h) (Or.inl ⟨by rfl, ?_⟩) ?_ ?_
     rotate_left
     ·intro w'
      go_simp
      with_reducible rfl
     rotate_left
     ·simp only [Act.put, List.setIfInBounds_toArray, List.set_cons_zero, List.set_cons_succ, i64_w, i32_w]
      rfl
     refine pure_ (i := 8) (N := some 37) (v := ?_) (a' := ?_) #[true, true, true, true, true, true, true, true, true, false, true, false, false, false] rfl rfl (any_of HT_.out (by kernel_rfl)) (fun _ _ _ h => h) (Or.inl ⟨by rfl, ?_⟩) ?_ ?_
     rotate_left
     ·intro w'
      go_simp
      with_reducible rfl
     rotate_left
     ·simp only [Act.put, List.setIfInBounds_toArray, List.set_cons_zero, List.set_cons_succ, i64_w, i32_w]
      rfl
     refine pure_ (i := 9) (N := some 38) (v := ?_) (a' := ?_) #[true, true, true, true, true, true, true, true, true, true, true, false, false, false] rfl rfl (any_of HT_.out (by kernel_rfl)) (fun _ _ _ h => h) (Or.inl ⟨by rfl, ?_⟩) ?_ ?_
     rotate_left
     ·intro w'
      go_simp
      with_reducible rfl
     rotate_left
     ·simp only [Act.put, List.setIfInBounds_toArray, List.set_cons_zero, List.set_cons_succ, i64_w, i32_w]
      rfl
     exact norm_ (by simp only [putAll, Act.put, List.setIfInBounds_toArray, List.set_cons_zero, List.set_cons_succ]) (hCont (.slice Ao27 y378.length co27, .slice Ao28 y381.length co28, v385, v388, gb392) _ ⟨hHeld, (by (with_reducible repeat (first | apply Kd.R_alloc | apply Kd.R_drewN | apply Kd.R_drew)); exact Kd.R_mono HO368.out (fun _ hk => hk.2)), (by (with_reducible repeat (first | apply Kd.R_alloc | apply Kd.R_drewN | apply Kd.R_drew)); exact Kd.R_mono HO371.out (fun _ hk => hk.2)), (by (with_reducible repeat (first | apply Kd.R_alloc | apply Kd.R_drewN | apply Kd.R_drew)); exact Kd.R_mono HO380.out (fun _ hk => ⟨hk.2, hk.1⟩)), (qR HO383), (by (with_reducible repeat (first | apply Kd.R_alloc | apply Kd.R_drewN | apply Kd.R_drew)); exact Kd.R_mono HO386.out (fun _ hk => hk.2)), (by (with_reducible repeat (first | apply Kd.R_alloc | apply Kd.R_drewN | apply Kd.R_drew)); exact Kd.R_mono HO389.out (fun _ hk => hk.2)), (qK BK364), (qK BK365), (qK BK374), (qK BK392), GW392.out, GE392.out, NB364_392.out, NB392_364.out, NB365_392.out, NB392_365.out, NB374_392.out, NB392_374.out, qB⟩)
   rintro ⟨v379, v382, v385, v388, gb392⟩ w30 ⟨hS_, h0_, h1_, h2_, h3_, h4_, h5_, h6_, h7_, h8_, h9_, h10_, h11_, h12_, h13_, h14_, h15_, h16_, h17_, h18_⟩
   have n0_ : Aside0 (Kd.R (Kd.int .i64) 3 w30 w.heap.size (fun k_ => some k_ ≠ (v385 : Value).ownBlock) v367 t366) := ⟨h0_⟩
   have n1_ : Aside0 (Kd.R k58 58 w30 w.heap.size (fun k_ => some k_ ≠ (v388 : Value).ownBlock) v370 t369) := ⟨h1_⟩
   have n2_ : Aside0 (Kd.R k62 62 w30 w.heap.size (fun k_ => some k_ ≠ (v382 : Value).ownBlock ∧ k_ ≠ gb365) v379 y378) := ⟨h2_⟩
   have n3_ : Aside0 (Kd.R k62 62 w30 w.heap.size (fun k_ => some k_ ≠ (v379 : Value).ownBlock ∧ k_ ≠ gb365) v382 y381) := ⟨h3_⟩
   have n4_ : Aside0 (Kd.R (Kd.int .i64) 3 w30 w.heap.size (fun k_ => some k_ ≠ (v367 : Value).ownBlock) v385 t384) := ⟨h4_⟩
   have n5_ : Aside0 (Kd.R k58 58 w30 w.heap.size (fun k_ => some k_ ≠ (v370 : Value).ownBlock) v388 t387) := ⟨h5_⟩
   have n6_ : Aside0 (w30.heap[gb364]? = some (.cells #[.slice A0_0 l0_0.length c0_0, .slice A0_1 l0_1.length c0_1] 46 (0, 0))) := ⟨h6_⟩
   have n7_ : Aside0 (w30.heap[gb365]? = some (.cells #[.int .i64 (wrap64 ((l0_0.length : Int) - 1)), .int .i64 a2_1, .int .i64 a2_2] 62 (0, 0))) := ⟨h7_⟩
   have n8_ : Aside0 (w30.heap[gb374]? = some (.cells #[.int .i64 t372, .int .i64 t373] 26 (0, 0))) := ⟨h8_⟩
   have n9_ : Aside0 (w30.heap[gb392]? = some (.cells #[.int .i64 0, .int .i64 0] 26 (0, 0))) := ⟨h9_⟩
   have n10_ : Aside0 (w.heap.size ≤ gb392) := ⟨h10_⟩
   have n11_ : Aside0 (w.heap.size ≤ gb392) := ⟨h11_⟩
   have n12_ : Aside0 (gb364 ≠ gb392) := ⟨h12_⟩
   have n13_ : Aside0 (gb392 ≠ gb364) := ⟨h13_⟩
   have n14_ : Aside0 (gb365 ≠ gb392) := ⟨h14_⟩
   have n15_ : Aside0 (gb392 ≠ gb365) := ⟨h15_⟩
   have n16_ : Aside0 (gb374 ≠ gb392) := ⟨h16_⟩
   have n17_ : Aside0 (gb392 ≠ gb374) := ⟨h17_⟩
   have n18_ : Aside0 (Below w.heap.size w w30) := ⟨h18_⟩
   clear HO368
   clear HO371
   clear HO377
   clear BK364
   clear BK365
   clear BK374
   clear HB
   clear h0_ h1_ h2_ h3_ h4_ h5_ h6_ h7_ h8_ h9_ h10_ h11_ h12_ h13_ h14_ h15_ h16_ h17_ h18_
   have HO368 := n0_
   have HO371 := n1_
   have HO380 := n2_
   have HO383 := n3_
   have HO386 := n4_
   have HO389 := n5_
   have BK364 := n6_
   have BK365 := n7_
   have BK374 := n8_
   have BK392 := n9_
   have GW392 := n10_
   have GE392 := n11_
   have NB364_392 := n12_
   have NB392_364 := n13_
   have NB365_392 := n14_
   have NB392_365 := n15_
   have NB374_392 := n16_
   have NB392_374 := n17_
   have HB := n18_
   clear n0_ n1_ n2_ n3_ n4_ n5_ n6_ n7_ n8_ n9_ n10_ n11_ n12_ n13_ n14_ n15_ n16_ n17_ n18_
   have hHeld : w30.cell? ⟨gb364, 0, none⟩ = some (.slice A0_0 l0_0.length c0_0) ∧ w30.cell? ⟨gb364, 1, none⟩ = some (.slice A0_1 l0_1.length c0_1) ∧ w30.cell? ⟨gb365, 0, none⟩ = some (.int .i64 (wrap64 ((l0_0.length : Int) - 1))) ∧ w30.cell? ⟨gb365, 1, none⟩ = some (.int .i64 a2_1) ∧ w30.cell? ⟨gb365, 2, none⟩ = some (.int .i64 a2_2) := hS_
   refine norm_ (a' := ?_) ?_ ?_
   rotate_left
   ·simp only [putAll, Act.put, List.setIfInBounds_toArray, List.set_cons_zero, List.set_cons_succ]
    rfl
   refine pure_ (i := 11) (N := some 11) (v := ?_) (a' := ?_) #[true, true, true, true, true, true, true, true, true, true, true, true, false, false] rfl rfl (any_of HT_.out (by kernel_rfl)) (fun _ _ _ h => h) (Or.inl ⟨by rfl, ?_⟩) ?_ ?_
   rotate_left
   ·intro w'
    go_simp
    with_reducible rfl
   rotate_left
   ·simp only [Act.put, List.setIfInBounds_toArray, List.set_cons_zero, List.set_cons_succ, i64_w, i32_w]
    rfl
   refine pure_ (i := 12) (N := some 12) (v := ?_) (a' := ?_) #[true, true, true, true, true, true, true, true, true, true, true, true, true, false] rfl rfl (any_of HT_.out (by kernel_rfl)) (fun _ _ _ h => h) (Or.inl ⟨by rfl, ?_⟩) ?_ ?_
   rotate_left
   ·intro w'
    go_simp
    with_reducible rfl
   rotate_left
   ·simp only [Act.put, List.setIfInBounds_toArray, List.set_cons_zero, List.set_cons_succ, i64_w, i32_w]
    rfl
   refine one_ (i := 13) (N := none) #[true, true, true, true, true, true, true, true, true, true, true, true, true, true] rfl rfl (one_of HT_.out (by kernel_rfl)) (by decide) (fun K hK => ?_)
   have hs31 : w30.cell? ⟨gb392, 0, none⟩ = some (.int .i64 0) := (blk_cell BK392.out 0).trans rfl
   have hfs31 := blk_frozen BK392.out 0
   have hns31_0 := NB364_392.out
   have hns31_1 := NB365_392.out
   have hns31_2 := NB374_392.out
   have hms31_0 := NB392_364.out
   have hms31_1 := NB392_365.out
   have hms31_2 := NB392_374.out
   have hs32 : w30.cell? ⟨gb392, 1, none⟩ = some (.int .i64 0) := (blk_cell BK392.out 1).trans rfl
   have hfs32 := blk_frozen BK392.out 1
   have hns32_0 := NB364_392.out
   have hns32_1 := NB365_392.out
   have hns32_2 := NB374_392.out
   have hms32_0 := NB392_364.out
   have hms32_1 := NB392_365.out
   have hms32_2 := NB392_374.out
   refine skip_ (w1 := ?_) (by rfl) rfl ?_ ?_
   rotate_left
   ·go_simp
    rfl
   refine hK.out _ _ ⟨((cell_far (p := ⟨gb392, _, none⟩) NB364_392.out _).trans (((cell_far (p := ⟨gb392, _, none⟩) NB364_392.out _).trans (hHeld.1)))), ((cell_far (p := ⟨gb392, _, none⟩) NB364_392.out _).trans (((cell_far (p := ⟨gb392, _, none⟩) NB364_392.out _).trans (hHeld.2.1)))), ((cell_far (p := ⟨gb392, _, none⟩) NB365_392.out _).trans (((cell_far (p := ⟨gb392, _, none⟩) NB365_392.out _).trans (hHeld.2.2.1)))), ((cell_far (p := ⟨gb392, _, none⟩) NB365_392.out _).trans (((cell_far (p := ⟨gb392, _, none⟩) NB365_392.out _).trans (hHeld.2.2.2.1)))), ((cell_far (p := ⟨gb392, _, none⟩) NB365_392.out _).trans (((cell_far (p := ⟨gb392, _, none⟩) NB365_392.out _).trans (hHeld.2.2.2.2))))⟩ (fun hHeld => ?_)
   clear hK K
   refine done_ (done_of HT_.out (by kernel_rfl)) ?_
   go_upto_region 6 with (fail)
   go_cut [50] (fun v50 wc => ∃ (kq : Nat) (x50_7 : Bool), v50 = .bool x50_7 ∧ Aside0 (law_PlaceMoreBehind.j0 kq t366 t384 x50_7 t372 t373 = some r) ∧ Aside0 (kq ≤ k) ∧ Aside0 (Kd.R (Kd.int .i64) 3 wc w.heap.size (fun k_ => some k_ ≠ (v385 : Value).ownBlock) v367 t366) ∧ Aside0 (Kd.R (Kd.int .i64) 3 wc w.heap.size (fun k_ => some k_ ≠ (v367 : Value).ownBlock) v385 t384) ∧ Aside0 (wc.heap[gb364]? = some (.cells #[(.slice A0_0 l0_0.length c0_0), (.slice A0_1 l0_1.length c0_1)] 46 (0, 0))) ∧ Aside0 (wc.heap[gb365]? = some (.cells #[.int .i64 (wrap64 ((l0_0.length : Int) - 1)), .int .i64 a2_1, .int .i64 a2_2] 62 (0, 0))) ∧ Aside0 (wc.heap[gb374]? = some (.cells #[.int .i64 t372, .int .i64 t373] 26 (0, 0))) ∧ Aside0 (wc.heap[gb392]? = some (.cells #[.int .i64 t390, .int .i64 t391] 26 (0, 0))) ∧ Aside0 (Below w.heap.size w wc))
   case first =>
    have H := HC8.out
    clear HC8
    replace H := Option.bind_eq_some_iff.mp H
    obtain ⟨t393, A330, H⟩ := H
    replace H : (if t393 = true then (if t372 = 0 then (law_PlaceMoreBehind.j0 k t366 t384 (t390 != 0) t372 t373) else (law_PlaceMoreBehind.j0 k t366 t384 true t372 t373)) else (law_PlaceMoreBehind.j0 k t366 t384 true t372 t373)) = some r := H
    have A33 := Aside0.mk A330
    clear A330
    by_cases c34 : t393 = true
    ·subst c34
     have H1 : (if t372 = 0 then (law_PlaceMoreBehind.j0 k t366 t384 (t390 != 0) t372 t373) else (law_PlaceMoreBehind.j0 k t366 t384 true t372 t373)) = some r := by rw [if_pos rfl] at H; exact H
     clear H
     have H := H1
     clear H1
     by_cases c35 : t372 = 0
     ·rw [if_pos c35] at H
      have c35b0 : (t372 == 0) = true := beq_iff_eq.mpr c35
      have c35b1 : (t372 != 0) = false := bne_eq_false_iff_eq.mpr c35
      clear c35
      (first | rw [c35b0] | (simp only [i64_w, i32_w]; rw [c35b0]) | skip)
      have H' := Aside0.mk H
      clear H
      go_wp2_with (first | ((with_reducible refine gate_callee (f := 24) rfl ?_); refine goesL_ (some 39) rfl rfl Try.func24 (by kernel_rfl) rfl #[] rfl qA ?_; (with_reducible refine (law_placesItems.calls k  true _ A33.out).mono ?_); rintro e w36 ⟨rfl, hb⟩; refine ⟨_, rfl, ?_⟩; have n0_ := Aside0.mk (Kd.R_below (by (with_reducible repeat (first | apply Kd.R_alloc | apply Kd.R_drewN | apply Kd.R_drew)); exact (Kd.R_mono (Kd.R_far (p := ⟨gb392, 1, none⟩) (Kd.R_far (p := ⟨gb392, 0, none⟩) (Kd.R_types HO368.out BK392.out (by decide)) (fun _ hk => hk.2) (.int .i64 t390)) (fun _ hk => hk.2) (.int .i64 t391)) (fun _ h_ => h_.1))) hb); have n1_ := Aside0.mk (Kd.R_below (by (with_reducible repeat (first | apply Kd.R_alloc | apply Kd.R_drewN | apply Kd.R_drew)); exact (Kd.R_mono (Kd.R_far (p := ⟨gb392, 1, none⟩) (Kd.R_far (p := ⟨gb392, 0, none⟩) (Kd.R_types HO371.out BK392.out (by decide)) (fun _ hk => hk.2) (.int .i64 t390)) (fun _ hk => hk.2) (.int .i64 t391)) (fun _ h_ => h_.1))) hb); have n2_ := Aside0.mk (Kd.R_below (by (with_reducible repeat (first | apply Kd.R_alloc | apply Kd.R_drewN | apply Kd.R_drew)); exact (Kd.R_mono (Kd.R_far (p := ⟨gb392, 1, none⟩) (Kd.R_far (p := ⟨gb392, 0, none⟩) (Kd.R_types HO380.out BK392.out (by decide)) (fun _ hk => hk.2) (.int .i64 t390)) (fun _ hk => hk.2) (.int .i64 t391)) (fun _ h_ => h_.1))) hb); have n3_ := Aside0.mk (Kd.R_below (by (with_reducible repeat (first | apply Kd.R_alloc | apply Kd.R_drewN | apply Kd.R_drew)); exact (Kd.R_mono (Kd.R_far (p := ⟨gb392, 1, none⟩) (Kd.R_far (p := ⟨gb392, 0, none⟩) (Kd.R_types HO383.out BK392.out (by decide)) (fun _ hk => hk.2) (.int .i64 t390)) (fun _ hk => hk.2) (.int .i64 t391)) (fun _ h_ => h_.1))) hb); have n4_ := Aside0.mk (Kd.R_below (by (with_reducible repeat (first | apply Kd.R_alloc | apply Kd.R_drewN | apply Kd.R_drew)); exact (Kd.R_mono (Kd.R_far (p := ⟨gb392, 1, none⟩) (Kd.R_far (p := ⟨gb392, 0, none⟩) (Kd.R_types HO386.out BK392.out (by decide)) (fun _ hk => hk.2) (.int .i64 t390)) (fun _ hk => hk.2) (.int .i64 t391)) (fun _ h_ => h_.1))) hb); have n5_ := Aside0.mk (Kd.R_below (by (with_reducible repeat (first | apply Kd.R_alloc | apply Kd.R_drewN | apply Kd.R_drew)); exact (Kd.R_mono (Kd.R_far (p := ⟨gb392, 1, none⟩) (Kd.R_far (p := ⟨gb392, 0, none⟩) (Kd.R_types HO389.out BK392.out (by decide)) (fun _ hk => hk.2) (.int .i64 t390)) (fun _ hk => hk.2) (.int .i64 t391)) (fun _ h_ => h_.1))) hb); have n6_ := Aside0.mk (blk_below (g := gb364) (o := .cells #[.slice A0_0 l0_0.length c0_0, .slice A0_1 l0_1.length c0_1] 46 (0, 0)) (by (with_reducible repeat (first | refine blk_drewN ?_ _ | refine blk_drew ?_ | refine blk_alloc ?_ _)); refine blk_far ?_ NB364_392.out _; (with_reducible repeat (first | refine blk_drewN ?_ _ | refine blk_drew ?_ | refine blk_alloc ?_ _)); refine blk_far ?_ NB364_392.out _; exact qK BK364) hb); have n7_ := Aside0.mk (blk_below (g := gb365) (o := .cells #[.int .i64 (wrap64 ((l0_0.length : Int) - 1)), .int .i64 a2_1, .int .i64 a2_2] 62 (0, 0)) (by (with_reducible repeat (first | refine blk_drewN ?_ _ | refine blk_drew ?_ | refine blk_alloc ?_ _)); refine blk_far ?_ NB365_392.out _; (with_reducible repeat (first | refine blk_drewN ?_ _ | refine blk_drew ?_ | refine blk_alloc ?_ _)); refine blk_far ?_ NB365_392.out _; exact qK BK365) hb); have n8_ := Aside0.mk (blk_below (g := gb374) (o := .cells #[.int .i64 t372, .int .i64 t373] 26 (0, 0)) (by (with_reducible repeat (first | refine blk_drewN ?_ _ | refine blk_drew ?_ | refine blk_alloc ?_ _)); refine blk_far ?_ NB374_392.out _; (with_reducible repeat (first | refine blk_drewN ?_ _ | refine blk_drew ?_ | refine blk_alloc ?_ _)); refine blk_far ?_ NB374_392.out _; exact qK BK374) hb); have n9_ := Aside0.mk (blk_below (g := gb392) (o := .cells #[.int .i64 t390, .int .i64 t391] 26 (0, 0)) (by (with_reducible repeat (first | refine blk_drewN ?_ _ | refine blk_drew ?_ | refine blk_alloc ?_ _)); refine blk_put (cs := #[.int .i64 t390, .int .i64 0]) ?_ 1 _ rfl; (with_reducible repeat (first | refine blk_drewN ?_ _ | refine blk_drew ?_ | refine blk_alloc ?_ _)); refine blk_put (cs := #[.int .i64 0, .int .i64 0]) ?_ 0 _ rfl; exact qK BK392) hb); have n10_ := Aside0.mk (below_step qB hb); clear HO368; clear HO371; clear HO380; clear HO383; clear HO386; clear HO389; clear BK364; clear BK365; clear BK374; clear BK392; clear HB; have HO368 := n0_; have HO371 := n1_; have HO380 := n2_; have HO383 := n3_; have HO386 := n4_; have HO389 := n5_; have BK364 := n6_; have BK365 := n7_; have BK374 := n8_; have BK392 := n9_; have HB := n10_; clear n0_ n1_ n2_ n3_ n4_ n5_ n6_ n7_ n8_ n9_ n10_; (try clear hb); (try clear hb2); (try clear hk); (try clear hi); have hnb37 := NB374_364.out; have hnc37 := NB364_374.out; have hnb38 := NB374_365.out; have hnc38 := NB365_374.out; have hnb39 := NB374_392.out; have hnc39 := NB392_374.out; have hcz40_0 : w36.cell? ⟨gb374, 0, none⟩ = some (.int .i64 t372) := (blk_cell BK374.out 0).trans rfl; have hcz40_1 : w36.cell? ⟨gb374, 1, none⟩ = some (.int .i64 t373) := (blk_cell BK374.out 1).trans rfl; have hfz40_0 := blk_frozen BK374.out 0; have hfz40_1 := blk_frozen BK374.out 1; have hnb41 := NB392_364.out; have hnc41 := NB364_392.out; have hnb42 := NB392_365.out; have hnc42 := NB365_392.out; have hcz43_0 : w36.cell? ⟨gb392, 0, none⟩ = some (.int .i64 t390) := (blk_cell BK392.out 0).trans rfl; have hcz43_1 : w36.cell? ⟨gb392, 1, none⟩ = some (.int .i64 t391) := (blk_cell BK392.out 1).trans rfl; have hfz43_0 := blk_frozen BK392.out 0; have hfz43_1 := blk_frozen BK392.out 1))
      go_meet
      case rel => exact ⟨_, ((t390 != 0)), qF, H', ⟨by first | omega | exact Nat.le_refl _⟩, ⟨qR HO368⟩, ⟨qR HO386⟩, ⟨qK BK364⟩, ⟨qK BK365⟩, ⟨qK BK374⟩, ⟨qK BK392⟩, ⟨qB⟩⟩
     ·rw [if_neg c35] at H
      have c35b0 : (t372 == 0) = false := beq_eq_false_iff_ne.mpr c35
      have c35b1 : (t372 != 0) = true := bne_iff_ne.mpr c35
      (first | rw [c35b0] | (simp only [i64_w, i32_w]; rw [c35b0]) | skip)
      have H' := Aside0.mk H
      clear H
      go_wp2_with (first | ((with_reducible refine gate_callee (f := 24) rfl ?_); refine goesL_ (some 39) rfl rfl Try.func24 (by kernel_rfl) rfl #[] rfl qA ?_; (with_reducible refine (law_placesItems.calls k  true _ A33.out).mono ?_); rintro e w44 ⟨rfl, hb⟩; refine ⟨_, rfl, ?_⟩; have n0_ := Aside0.mk (Kd.R_below (by (with_reducible repeat (first | apply Kd.R_alloc | apply Kd.R_drewN | apply Kd.R_drew)); exact (Kd.R_mono (Kd.R_far (p := ⟨gb392, 1, none⟩) (Kd.R_far (p := ⟨gb392, 0, none⟩) (Kd.R_types HO368.out BK392.out (by decide)) (fun _ hk => hk.2) (.int .i64 t390)) (fun _ hk => hk.2) (.int .i64 t391)) (fun _ h_ => h_.1))) hb); have n1_ := Aside0.mk (Kd.R_below (by (with_reducible repeat (first | apply Kd.R_alloc | apply Kd.R_drewN | apply Kd.R_drew)); exact (Kd.R_mono (Kd.R_far (p := ⟨gb392, 1, none⟩) (Kd.R_far (p := ⟨gb392, 0, none⟩) (Kd.R_types HO371.out BK392.out (by decide)) (fun _ hk => hk.2) (.int .i64 t390)) (fun _ hk => hk.2) (.int .i64 t391)) (fun _ h_ => h_.1))) hb); have n2_ := Aside0.mk (Kd.R_below (by (with_reducible repeat (first | apply Kd.R_alloc | apply Kd.R_drewN | apply Kd.R_drew)); exact (Kd.R_mono (Kd.R_far (p := ⟨gb392, 1, none⟩) (Kd.R_far (p := ⟨gb392, 0, none⟩) (Kd.R_types HO380.out BK392.out (by decide)) (fun _ hk => hk.2) (.int .i64 t390)) (fun _ hk => hk.2) (.int .i64 t391)) (fun _ h_ => h_.1))) hb); have n3_ := Aside0.mk (Kd.R_below (by (with_reducible repeat (first | apply Kd.R_alloc | apply Kd.R_drewN | apply Kd.R_drew)); exact (Kd.R_mono (Kd.R_far (p := ⟨gb392, 1, none⟩) (Kd.R_far (p := ⟨gb392, 0, none⟩) (Kd.R_types HO383.out BK392.out (by decide)) (fun _ hk => hk.2) (.int .i64 t390)) (fun _ hk => hk.2) (.int .i64 t391)) (fun _ h_ => h_.1))) hb); have n4_ := Aside0.mk (Kd.R_below (by (with_reducible repeat (first | apply Kd.R_alloc | apply Kd.R_drewN | apply Kd.R_drew)); exact (Kd.R_mono (Kd.R_far (p := ⟨gb392, 1, none⟩) (Kd.R_far (p := ⟨gb392, 0, none⟩) (Kd.R_types HO386.out BK392.out (by decide)) (fun _ hk => hk.2) (.int .i64 t390)) (fun _ hk => hk.2) (.int .i64 t391)) (fun _ h_ => h_.1))) hb); have n5_ := Aside0.mk (Kd.R_below (by (with_reducible repeat (first | apply Kd.R_alloc | apply Kd.R_drewN | apply Kd.R_drew)); exact (Kd.R_mono (Kd.R_far (p := ⟨gb392, 1, none⟩) (Kd.R_far (p := ⟨gb392, 0, none⟩) (Kd.R_types HO389.out BK392.out (by decide)) (fun _ hk => hk.2) (.int .i64 t390)) (fun _ hk => hk.2) (.int .i64 t391)) (fun _ h_ => h_.1))) hb); have n6_ := Aside0.mk (blk_below (g := gb364) (o := .cells #[.slice A0_0 l0_0.length c0_0, .slice A0_1 l0_1.length c0_1] 46 (0, 0)) (by (with_reducible repeat (first | refine blk_drewN ?_ _ | refine blk_drew ?_ | refine blk_alloc ?_ _)); refine blk_far ?_ NB364_392.out _; (with_reducible repeat (first | refine blk_drewN ?_ _ | refine blk_drew ?_ | refine blk_alloc ?_ _)); refine blk_far ?_ NB364_392.out _; exact qK BK364) hb); have n7_ := Aside0.mk (blk_below (g := gb365) (o := .cells #[.int .i64 (wrap64 ((l0_0.length : Int) - 1)), .int .i64 a2_1, .int .i64 a2_2] 62 (0, 0)) (by (with_reducible repeat (first | refine blk_drewN ?_ _ | refine blk_drew ?_ | refine blk_alloc ?_ _)); refine blk_far ?_ NB365_392.out _; (with_reducible repeat (first | refine blk_drewN ?_ _ | refine blk_drew ?_ | refine blk_alloc ?_ _)); refine blk_far ?_ NB365_392.out _; exact qK BK365) hb); have n8_ := Aside0.mk (blk_below (g := gb374) (o := .cells #[.int .i64 t372, .int .i64 t373] 26 (0, 0)) (by (with_reducible repeat (first | refine blk_drewN ?_ _ | refine blk_drew ?_ | refine blk_alloc ?_ _)); refine blk_far ?_ NB374_392.out _; (with_reducible repeat (first | refine blk_drewN ?_ _ | refine blk_drew ?_ | refine blk_alloc ?_ _)); refine blk_far ?_ NB374_392.out _; exact qK BK374) hb); have n9_ := Aside0.mk (blk_below (g := gb392) (o := .cells #[.int .i64 t390, .int .i64 t391] 26 (0, 0)) (by (with_reducible repeat (first | refine blk_drewN ?_ _ | refine blk_drew ?_ | refine blk_alloc ?_ _)); refine blk_put (cs := #[.int .i64 t390, .int .i64 0]) ?_ 1 _ rfl; (with_reducible repeat (first | refine blk_drewN ?_ _ | refine blk_drew ?_ | refine blk_alloc ?_ _)); refine blk_put (cs := #[.int .i64 0, .int .i64 0]) ?_ 0 _ rfl; exact qK BK392) hb); have n10_ := Aside0.mk (below_step qB hb); clear HO368; clear HO371; clear HO380; clear HO383; clear HO386; clear HO389; clear BK364; clear BK365; clear BK374; clear BK392; clear HB; have HO368 := n0_; have HO371 := n1_; have HO380 := n2_; have HO383 := n3_; have HO386 := n4_; have HO389 := n5_; have BK364 := n6_; have BK365 := n7_; have BK374 := n8_; have BK392 := n9_; have HB := n10_; clear n0_ n1_ n2_ n3_ n4_ n5_ n6_ n7_ n8_ n9_ n10_; (try clear hb); (try clear hb2); (try clear hk); (try clear hi); have hnb45 := NB374_364.out; have hnc45 := NB364_374.out; have hnb46 := NB374_365.out; have hnc46 := NB365_374.out; have hnb47 := NB374_392.out; have hnc47 := NB392_374.out; have hcz48_0 : w44.cell? ⟨gb374, 0, none⟩ = some (.int .i64 t372) := (blk_cell BK374.out 0).trans rfl; have hcz48_1 : w44.cell? ⟨gb374, 1, none⟩ = some (.int .i64 t373) := (blk_cell BK374.out 1).trans rfl; have hfz48_0 := blk_frozen BK374.out 0; have hfz48_1 := blk_frozen BK374.out 1))
      go_meet
      case rel => exact ⟨_, (true), qF, H', ⟨by first | omega | exact Nat.le_refl _⟩, ⟨qR HO368⟩, ⟨qR HO386⟩, ⟨qK BK364⟩, ⟨qK BK365⟩, ⟨qK BK374⟩, ⟨qK BK392⟩, ⟨qB⟩⟩
    ·replace c34 := Bool.eq_false_iff.mpr c34
     subst c34
     have H1 : (law_PlaceMoreBehind.j0 k t366 t384 true t372 t373) = some r := by rw [if_neg (show ¬ (false = true) by decide)] at H; exact H
     clear H
     have H := H1
     clear H1
     have H' := Aside0.mk H
     clear H
     go_wp2_with (first | ((with_reducible refine gate_callee (f := 24) rfl ?_); refine goesL_ (some 39) rfl rfl Try.func24 (by kernel_rfl) rfl #[] rfl qA ?_; (with_reducible refine (law_placesItems.calls k  false _ A33.out).mono ?_); rintro e w49 ⟨rfl, hb⟩; refine ⟨_, rfl, ?_⟩; have n0_ := Aside0.mk (Kd.R_below (by (with_reducible repeat (first | apply Kd.R_alloc | apply Kd.R_drewN | apply Kd.R_drew)); exact (Kd.R_mono (Kd.R_far (p := ⟨gb392, 1, none⟩) (Kd.R_far (p := ⟨gb392, 0, none⟩) (Kd.R_types HO368.out BK392.out (by decide)) (fun _ hk => hk.2) (.int .i64 t390)) (fun _ hk => hk.2) (.int .i64 t391)) (fun _ h_ => h_.1))) hb); have n1_ := Aside0.mk (Kd.R_below (by (with_reducible repeat (first | apply Kd.R_alloc | apply Kd.R_drewN | apply Kd.R_drew)); exact (Kd.R_mono (Kd.R_far (p := ⟨gb392, 1, none⟩) (Kd.R_far (p := ⟨gb392, 0, none⟩) (Kd.R_types HO371.out BK392.out (by decide)) (fun _ hk => hk.2) (.int .i64 t390)) (fun _ hk => hk.2) (.int .i64 t391)) (fun _ h_ => h_.1))) hb); have n2_ := Aside0.mk (Kd.R_below (by (with_reducible repeat (first | apply Kd.R_alloc | apply Kd.R_drewN | apply Kd.R_drew)); exact (Kd.R_mono (Kd.R_far (p := ⟨gb392, 1, none⟩) (Kd.R_far (p := ⟨gb392, 0, none⟩) (Kd.R_types HO380.out BK392.out (by decide)) (fun _ hk => hk.2) (.int .i64 t390)) (fun _ hk => hk.2) (.int .i64 t391)) (fun _ h_ => h_.1))) hb); have n3_ := Aside0.mk (Kd.R_below (by (with_reducible repeat (first | apply Kd.R_alloc | apply Kd.R_drewN | apply Kd.R_drew)); exact (Kd.R_mono (Kd.R_far (p := ⟨gb392, 1, none⟩) (Kd.R_far (p := ⟨gb392, 0, none⟩) (Kd.R_types HO383.out BK392.out (by decide)) (fun _ hk => hk.2) (.int .i64 t390)) (fun _ hk => hk.2) (.int .i64 t391)) (fun _ h_ => h_.1))) hb); have n4_ := Aside0.mk (Kd.R_below (by (with_reducible repeat (first | apply Kd.R_alloc | apply Kd.R_drewN | apply Kd.R_drew)); exact (Kd.R_mono (Kd.R_far (p := ⟨gb392, 1, none⟩) (Kd.R_far (p := ⟨gb392, 0, none⟩) (Kd.R_types HO386.out BK392.out (by decide)) (fun _ hk => hk.2) (.int .i64 t390)) (fun _ hk => hk.2) (.int .i64 t391)) (fun _ h_ => h_.1))) hb); have n5_ := Aside0.mk (Kd.R_below (by (with_reducible repeat (first | apply Kd.R_alloc | apply Kd.R_drewN | apply Kd.R_drew)); exact (Kd.R_mono (Kd.R_far (p := ⟨gb392, 1, none⟩) (Kd.R_far (p := ⟨gb392, 0, none⟩) (Kd.R_types HO389.out BK392.out (by decide)) (fun _ hk => hk.2) (.int .i64 t390)) (fun _ hk => hk.2) (.int .i64 t391)) (fun _ h_ => h_.1))) hb); have n6_ := Aside0.mk (blk_below (g := gb364) (o := .cells #[.slice A0_0 l0_0.length c0_0, .slice A0_1 l0_1.length c0_1] 46 (0, 0)) (by (with_reducible repeat (first | refine blk_drewN ?_ _ | refine blk_drew ?_ | refine blk_alloc ?_ _)); refine blk_far ?_ NB364_392.out _; (with_reducible repeat (first | refine blk_drewN ?_ _ | refine blk_drew ?_ | refine blk_alloc ?_ _)); refine blk_far ?_ NB364_392.out _; exact qK BK364) hb); have n7_ := Aside0.mk (blk_below (g := gb365) (o := .cells #[.int .i64 (wrap64 ((l0_0.length : Int) - 1)), .int .i64 a2_1, .int .i64 a2_2] 62 (0, 0)) (by (with_reducible repeat (first | refine blk_drewN ?_ _ | refine blk_drew ?_ | refine blk_alloc ?_ _)); refine blk_far ?_ NB365_392.out _; (with_reducible repeat (first | refine blk_drewN ?_ _ | refine blk_drew ?_ | refine blk_alloc ?_ _)); refine blk_far ?_ NB365_392.out _; exact qK BK365) hb); have n8_ := Aside0.mk (blk_below (g := gb374) (o := .cells #[.int .i64 t372, .int .i64 t373] 26 (0, 0)) (by (with_reducible repeat (first | refine blk_drewN ?_ _ | refine blk_drew ?_ | refine blk_alloc ?_ _)); refine blk_far ?_ NB374_392.out _; (with_reducible repeat (first | refine blk_drewN ?_ _ | refine blk_drew ?_ | refine blk_alloc ?_ _)); refine blk_far ?_ NB374_392.out _; exact qK BK374) hb); have n9_ := Aside0.mk (blk_below (g := gb392) (o := .cells #[.int .i64 t390, .int .i64 t391] 26 (0, 0)) (by (with_reducible repeat (first | refine blk_drewN ?_ _ | refine blk_drew ?_ | refine blk_alloc ?_ _)); refine blk_put (cs := #[.int .i64 t390, .int .i64 0]) ?_ 1 _ rfl; (with_reducible repeat (first | refine blk_drewN ?_ _ | refine blk_drew ?_ | refine blk_alloc ?_ _)); refine blk_put (cs := #[.int .i64 0, .int .i64 0]) ?_ 0 _ rfl; exact qK BK392) hb); have n10_ := Aside0.mk (below_step qB hb); clear HO368; clear HO371; clear HO380; clear HO383; clear HO386; clear HO389; clear BK364; clear BK365; clear BK374; clear BK392; clear HB; have HO368 := n0_; have HO371 := n1_; have HO380 := n2_; have HO383 := n3_; have HO386 := n4_; have HO389 := n5_; have BK364 := n6_; have BK365 := n7_; have BK374 := n8_; have BK392 := n9_; have HB := n10_; clear n0_ n1_ n2_ n3_ n4_ n5_ n6_ n7_ n8_ n9_ n10_; (try clear hb); (try clear hb2); (try clear hk); (try clear hi)))
     go_meet
     case rel => exact ⟨_, (true), qF, H', ⟨by first | omega | exact Nat.le_refl _⟩, ⟨qR HO368⟩, ⟨qR HO386⟩, ⟨qK BK364⟩, ⟨qK BK365⟩, ⟨qK BK374⟩, ⟨qK BK392⟩, ⟨qB⟩⟩
   case rest =>
    clear HC8
    try clear c2
    try clear p2
    try clear c3
    try clear c4
    try clear c6
    try clear p6
    try clear c23
    try clear c24
    try clear c34
    try clear c35
    try clear c35b0
    try clear c35b1
    try clear c37
    try clear c38
    try clear c39
    try clear c41
    try clear c42
    try clear c45
    try clear c46
    try clear c47
    try clear hcz40_0
    try clear hcz40_1
    try clear hcz43_0
    try clear hcz43_1
    try clear hcz48_0
    try clear hcz48_1
    try clear hfz40_0
    try clear hfz40_1
    try clear hfz43_0
    try clear hfz43_1
    try clear hfz48_0
    try clear hfz48_1
    obtain ⟨kq, x50_7, rfl, HA, HJ7, HO_7, HO_11, BK364, BK365, BK374, BK392, HB⟩ := hcut
    cases kq with
    | zero => exact absurd HA.out (by simp [law_PlaceMoreBehind.j0])
    | succ kj7 =>
     have H := HA.out
     clear HA
     simp only [law_PlaceMoreBehind.j0] at H
     by_cases c50 : x50_7 = true
     ·subst c50
      have H1 : ((law_placesItems.f kj7).bind fun t394 => (if t394 = true then (if t372 = 0 then (some true) else (some ((t366.length : Int) == 0))) else (none))) = some r := by rw [if_pos rfl] at H; exact H
      clear H
      have H := H1
      clear H1
      replace H := Option.bind_eq_some_iff.mp H
      obtain ⟨t394, A510, H⟩ := H
      replace H : (if t394 = true then (if t372 = 0 then (some true) else (some ((t366.length : Int) == 0))) else (none)) = some r := H
      have A51 := Aside0.mk A510
      clear A510
      by_cases c52 : t394 = true
      ·subst c52
       have H1 : (if t372 = 0 then (some true) else (some ((t366.length : Int) == 0))) = some r := by rw [if_pos rfl] at H; exact H
       clear H
       have H := H1
       clear H1
       by_cases c53 : t372 = 0
       ·rw [if_pos c53] at H
        have c53b0 : (t372 == 0) = true := beq_iff_eq.mpr c53
        have c53b1 : (t372 != 0) = false := bne_eq_false_iff_eq.mpr c53
        clear c53
        obtain rfl := Option.some.inj H
        go_wp2_with (first | ((with_reducible refine gate_callee (f := 24) rfl ?_); refine goesL_ (some 51) rfl rfl Try.func24 (by kernel_rfl) rfl #[] rfl qA ?_; (with_reducible refine (law_placesItems.calls kj7  true _ A51.out).mono ?_); rintro e w54 ⟨rfl, hb⟩; refine ⟨_, rfl, ?_⟩; have n0_ := Aside0.mk (Kd.R_below (qR HO_7) hb); have n1_ := Aside0.mk (Kd.R_below (qR HO_11) hb); have n2_ := Aside0.mk (blk_below (g := gb364) (o := .cells #[.slice A0_0 l0_0.length c0_0, .slice A0_1 l0_1.length c0_1] 46 (0, 0)) (qK BK364) hb); have n3_ := Aside0.mk (blk_below (g := gb365) (o := .cells #[.int .i64 (wrap64 ((l0_0.length : Int) - 1)), .int .i64 a2_1, .int .i64 a2_2] 62 (0, 0)) (qK BK365) hb); have n4_ := Aside0.mk (blk_below (g := gb374) (o := .cells #[.int .i64 t372, .int .i64 t373] 26 (0, 0)) (qK BK374) hb); have n5_ := Aside0.mk (blk_below (g := gb392) (o := .cells #[.int .i64 t390, .int .i64 t391] 26 (0, 0)) (qK BK392) hb); have n6_ := Aside0.mk (below_step qB hb); clear HO_7; clear HO_11; clear BK364; clear BK365; clear BK374; clear BK392; clear HB; have HO_7 := n0_; have HO_11 := n1_; have BK364 := n2_; have BK365 := n3_; have BK374 := n4_; have BK392 := n5_; have HB := n6_; clear n0_ n1_ n2_ n3_ n4_ n5_ n6_; (try clear hb); (try clear hb2); (try clear hk); (try clear hi); have hnb55 := NB374_364.out; have hnc55 := NB364_374.out; have hnb56 := NB374_365.out; have hnc56 := NB365_374.out; have hnb57 := NB374_392.out; have hnc57 := NB392_374.out; have hcz58_0 : w54.cell? ⟨gb374, 0, none⟩ = some (.int .i64 t372) := (blk_cell BK374.out 0).trans rfl; have hcz58_1 : w54.cell? ⟨gb374, 1, none⟩ = some (.int .i64 t373) := (blk_cell BK374.out 1).trans rfl; have hfz58_0 := blk_frozen BK374.out 0; have hfz58_1 := blk_frozen BK374.out 1))
        go_ret
        exact ⟨qE, qB⟩
       ·rw [if_neg c53] at H
        have c53b0 : (t372 == 0) = false := beq_eq_false_iff_ne.mpr c53
        have c53b1 : (t372 != 0) = true := bne_iff_ne.mpr c53
        obtain rfl := Option.some.inj H
        go_wp2_with (first | ((with_reducible refine gate_callee (f := 24) rfl ?_); refine goesL_ (some 51) rfl rfl Try.func24 (by kernel_rfl) rfl #[] rfl qA ?_; (with_reducible refine (law_placesItems.calls kj7  true _ A51.out).mono ?_); rintro e w59 ⟨rfl, hb⟩; refine ⟨_, rfl, ?_⟩; have n0_ := Aside0.mk (Kd.R_below (qR HO_7) hb); have n1_ := Aside0.mk (Kd.R_below (qR HO_11) hb); have n2_ := Aside0.mk (blk_below (g := gb364) (o := .cells #[.slice A0_0 l0_0.length c0_0, .slice A0_1 l0_1.length c0_1] 46 (0, 0)) (qK BK364) hb); have n3_ := Aside0.mk (blk_below (g := gb365) (o := .cells #[.int .i64 (wrap64 ((l0_0.length : Int) - 1)), .int .i64 a2_1, .int .i64 a2_2] 62 (0, 0)) (qK BK365) hb); have n4_ := Aside0.mk (blk_below (g := gb374) (o := .cells #[.int .i64 t372, .int .i64 t373] 26 (0, 0)) (qK BK374) hb); have n5_ := Aside0.mk (blk_below (g := gb392) (o := .cells #[.int .i64 t390, .int .i64 t391] 26 (0, 0)) (qK BK392) hb); have n6_ := Aside0.mk (below_step qB hb); clear HO_7; clear HO_11; clear BK364; clear BK365; clear BK374; clear BK392; clear HB; have HO_7 := n0_; have HO_11 := n1_; have BK364 := n2_; have BK365 := n3_; have BK374 := n4_; have BK392 := n5_; have HB := n6_; clear n0_ n1_ n2_ n3_ n4_ n5_ n6_; (try clear hb); (try clear hb2); (try clear hk); (try clear hi); have hnb60 := NB374_364.out; have hnc60 := NB364_374.out; have hnb61 := NB374_365.out; have hnc61 := NB365_374.out; have hnb62 := NB374_392.out; have hnc62 := NB392_374.out; have hcz63_0 : w59.cell? ⟨gb374, 0, none⟩ = some (.int .i64 t372) := (blk_cell BK374.out 0).trans rfl; have hcz63_1 : w59.cell? ⟨gb374, 1, none⟩ = some (.int .i64 t373) := (blk_cell BK374.out 1).trans rfl; have hfz63_0 := blk_frozen BK374.out 0; have hfz63_1 := blk_frozen BK374.out 1; obtain ⟨Ao64, co64, eo64⟩ := Kd.R_slice HO_7.out; subst eo64))
        go_ret
        exact ⟨qE, qB⟩
      ·replace c52 := Bool.eq_false_iff.mpr c52
       subst c52
       have H1 : (none) = some r := by rw [if_neg (show ¬ (false = true) by decide)] at H; exact H
       clear H
       have H := H1
       clear H1
       exact absurd H (by simp)
     ·replace c50 := Bool.eq_false_iff.mpr c50
      subst c50
      have H1 : (if (t384.length : Int) = (wrap64 ((t366.length : Int) + 1)) then (if 0 ≤ (t366.length : Int) then (if (t366.length : Int) ≤ (t384.length : Int) then ((law_ints.f kj7 (t384.take ((t366.length : Int) : Int).toNat) t366).bind fun t399 => (some t399)) else (none)) else (none)) else (none)) = some r := by rw [if_neg (show ¬ (false = true) by decide)] at H; exact H
      clear H
      have H := H1
      clear H1
      by_cases c65 : (t384.length : Int) = (wrap64 ((t366.length : Int) + 1))
      ·rw [if_pos c65] at H
       have c65b0 : ((t384.length : Int) == (wrap64 ((t366.length : Int) + 1))) = true := beq_iff_eq.mpr c65
       have c65b1 : ((t384.length : Int) != (wrap64 ((t366.length : Int) + 1))) = false := bne_eq_false_iff_eq.mpr c65
       clear c65
       by_cases c66 : 0 ≤ (t366.length : Int)
       ·rw [if_pos c66] at H
        have c66b0 := eq_true c66
        have c66b1 : decide (0 ≤ (t366.length : Int)) = true := decide_eq_true c66
        clear c66
        by_cases c67 : (t366.length : Int) ≤ (t384.length : Int)
        ·rw [if_pos c67] at H
         have c67b0 := eq_true c67
         have c67b1 : decide ((t366.length : Int) ≤ (t384.length : Int)) = true := decide_eq_true c67
         clear c67
         obtain ⟨y395, hy395⟩ : ∃ y_ : List Int, y_ = (t384.take ((t366.length : Int) : Int).toNat) := ⟨_, rfl⟩
         replace H : ((law_ints.f kj7 y395 t366).bind fun t399 => (some t399)) = some r := by first | (rw [hy395]; with_reducible exact H) | (have H2_ := (Option.bind_some _ _).symm.trans H; rw [hy395]; with_reducible exact H2_) | (have H2_ := (Option.bind_some _ _).symm.trans H; with_reducible exact H2_) | with_reducible exact H | (rw [hy395]; exact H) | exact H
         have Ny395 := Aside0.mk hy395
         clear hy395
         replace H := Option.bind_eq_some_iff.mp H
         obtain ⟨t399, A680, H⟩ := H
         replace H : (some t399) = some r := H
         have A68 := Aside0.mk A680
         clear A680
         obtain rfl := Option.some.inj H
         obtain ⟨Ao69, co69, eo69⟩ := Kd.R_slice HO_11.out
         subst eo69
         obtain ⟨Ao70, co70, eo70⟩ := Kd.R_slice HO_7.out
         subst eo70
         have q71 : ((t366.length : Int) : Int) ≤ ((t384.length : Int) : Int) := of_decide_eq_true qO
         obtain ⟨i071, hi071, _, hsz71, _⟩ := info_parts info3
         have hroom71 : t384.length ≤ co69 := (Kd.R_reads' HO_11.out).2.1
         have hC71 : Kd.C (Kd.int .i64) _ Ao69 t384.length t384 := (Kd.R_reads' HO_11.out).2.2
         have hcut71 := cut_to (P := Try.prog) 50 3 .i64 Try.underlying50 hi071 Ao69 t384.length co69 (t366.length : Int) (of_decide_eq_true qO) q71 hroom71
         have hr71 := Kd.C_take (m := ((t366.length : Int) : Int).toNat) hC71 (by omega)
         have hy71 : y395.length = ((t366.length : Int) : Int).toNat := (by rw [Ny395.out, List.length_take]; omega)
         rw [← Ny395.out] at hr71
         rw [← hy71] at hcut71
         have HR398 := Aside0.mk hr71
         have HC398 := Aside0.mk (show y395.length ≤ co69 from by omega)
         clear hr71 hC71 hroom71 hi071 hsz71
         have KY71 := Aside0.mk hy71
         clear hy71
         have KL71 := Aside0.mk (show ((t366.length : Int) : Int).toNat ≤ t384.length from by omega)
         replace q71 := eq_true q71
         go_wp2_with (first | (go_at_call 25; (with_reducible refine (law_ints.calls kj7 _ _ y395 _ _ t366 t399 _ ?side1 ?side2 ?side3 ?side4 A68.out).mono ?_); (case side1 => repeat (first | exact (by repeat (first | (with_reducible exact HR398.out) | (with_reducible refine Kd.C_alloc ?_ _) | (with_reducible refine Kd.C_drewN ?_ _) | (with_reducible refine Kd.C_drew ?_) | exact HR398.out)) | (with_reducible refine Kd.C_alloc ?_ _) | (with_reducible refine Kd.C_drewN ?_ _) | (with_reducible refine Kd.C_drew ?_))); (case side2 => exact HC398.out); (case side3 => repeat (first | exact (Kd.R_reads' HO_7.out).2.2 | (with_reducible refine Kd.C_alloc ?_ _) | (with_reducible refine Kd.C_drewN ?_ _) | (with_reducible refine Kd.C_drew ?_))); (case side4 => exact (Kd.R_reads' HO_7.out).2.1); rintro e w' ⟨rfl, ⟨nd, rfl⟩⟩))
         go_ret
         exact ⟨qE, qB⟩
        ·rw [if_neg c67] at H
         exact absurd H (by simp)
       ·rw [if_neg c66] at H
        exact absurd H (by simp)
      ·rw [if_neg c65] at H
       exact absurd H (by simp)
  ·rw [if_neg c6] at H
   exact absurd H (by simp)
 ·rw [if_neg c5] at H
  exact absurd H (by simp)

/-- What is left to prove of law_PlaceMoreBehind. -/
def law_PlaceMoreBehind.Pure : Prop := ∀ (l0_0 : List (S60)) (l0_1 : List (S72)) (l1 : List (S62)) (a2_0 : Int) (a2_1 : Int) (a2_2 : Int), G46 (⟨l0_0, l0_1⟩ : S46) → l1.length ≤ 9223372036854775807 → l1.length * 24 ≤ 140737488351232 → (∀ y ∈ l1, G62 y) → G62 (⟨a2_0, a2_1, a2_2⟩ : S62) → ∃ k, law_PlaceMoreBehind.f k l0_0 l0_1 l1 a2_0 a2_1 a2_2 = some true

end Go.Proofs.Ytnbeamaoblmbhaa.PPlace
