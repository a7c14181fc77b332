/- Written by a program of this session, for the law(s) Place: contracts of the Go functions that the law reaches, each against a plain Lean function. No condition. -/
import Derived.Test.YtnbeamaoblmbhaaPPlacex0
import Derived.Test.YtnbeamaoblmbhaaPPlacex1
import Derived.Test.YtnbeamaoblmbhaaPPlacex2
import Derived.Test.YtnbeamaoblmbhaaPPlacex3
import Derived.Test.YtnbeamaoblmbhaaPPlacex12
namespace Go.Proofs.Ytnbeamaoblmbhaa.PPlace
open Go.RowKit Go.Proofs.YtnbeamaoblmbhaaW.PrintWords Go.Proofs.YtnbeamaoblmbhaaW.PrintLast Go.Proofs.YtnbeamaoblmbhaaW.PrintMore
attribute [local go_sem] max2_int min2_int max_two min_two max_three min_three max_four min_four   -- for this text's walks alone
set_option linter.unusedVariables false
set_option linter.unusedSimpArgs false

attribute [local go_sem high] eqA26 eqA58
/-! ### law_placesItems: function 24 -/
def law_placesItems.f (k : Nat)  : Option (Bool) := (script_Default.f).bind fun bt251 => ((place_Layout.f k bt251.1 bt251.2 (([(⟨0, 3, 1⟩ : S62), (⟨0, 1, 2⟩ : S62), (⟨2, 4, 4⟩ : S62)] : List (S62)))).bind fun bt260 => ((script_Default.f).bind fun bt269 => ((place_Layout.f k bt269.1 bt269.2 (([(⟨3, 0, 1⟩ : S62)] : List (S62)))).bind fun bt278 => (if bt260.2.2.1 = 0 then ((ref_At.f 3 (-100)).bind fun bt287 => (if (bt278.2.2.1 == bt287.1 && (bt278.2.2.2 == bt287.2)) = true then ((law_ints.f k bt260.1 (([256, 260, 512] : List Int))).bind fun t292 => (if t292 = true then (if (bt260.2.1.length : Int) = 3 then (if 0 < (bt260.2.1.length : Int) then (if (((rd_T58 bt260.2.1 0).f0) == 256 && (((rd_T58 bt260.2.1 0).f1) == 5)) = true then (if 1 < (bt260.2.1.length : Int) then (if (((rd_T58 bt260.2.1 1).f0) == 512 && (((rd_T58 bt260.2.1 1).f1) == 0)) = true then (if 2 < (bt260.2.1.length : Int) then (some (((rd_T58 bt260.2.1 2).f0) == 512 && (((rd_T58 bt260.2.1 2).f1) == 4))) else (none)) else (none)) else (none)) else (none)) else (none)) else (none)) else (none))) else (none))) else (none)))))
theorem law_placesItems.mono : ∀ k, LeO (law_placesItems.f k ) (law_placesItems.f (k + 1) ) := by
 intro  k
 unfold law_placesItems.f
 repeat' first
   | (with_reducible exact law_ints.mono _ _ _)
   | (with_reducible exact place_Layout.mono _ _ _ _)
   | (with_reducible exact LeO.refl _)
   | (with_reducible exact LeO.none _)
   | (with_reducible refine LeO.ite ?_ ?_)
   | (with_reducible refine LeO.bind ?_ (fun _ => ?_))
   | exact law_ints.mono _ _ _
   | exact place_Layout.mono _ _ _ _
   | exact LeO.none _
   | refine LeO.ite ?_ ?_
   | refine LeO.bind ?_ (fun _ => ?_)
def law_placesItems.T3 : Bool × List (List Nat × List Nat) := (true, [([], []), ([0], [0]), ([1], [1]), ([2], [2]), ([3], [3]), ([3, 3], [3]), ([4, 5, 3], [3, 4, 5]), ([3, 6], [3, 6]), ([7, 5], [7]), ([8], [8]), ([8], [8]), ([9, 10, 8, 8], [8, 9, 10]), ([8, 11], [8, 11]), ([12, 11], [12]), ([13], [13]), ([14, 13], [13, 14]), ([15, 13], [13, 15]), ([13, 16], [13, 16]), ([17, 13], [17]), ([18], [18]), ([19, 18], [18, 19]), ([20, 18], [18, 20]), ([18], [18]), ([21, 22, 18], [18, 21, 22]), ([18, 23], [18, 23]), ([24, 18], [24]), ([25], [25]), ([26, 25], [25, 26]), ([27, 25], [25, 27]), ([25], [25]), ([28, 29, 25], [25, 28, 29]), ([25, 30], [25, 30]), ([31, 25], [31]), ([32], [32]), ([33, 32], [32, 33]), ([34, 32], [32, 34]), ([32], [32]), ([35, 36, 32], [32, 35, 36]), ([32, 37], [32, 37]), ([38, 32, 0, 1, 2, 3, 4, 5, 6, 7, 8, 9, 10, 11, 12, 13, 14, 15, 16, 17, 18, 19, 20, 21, 22, 23, 24, 25, 26, 27, 28, 29, 30, 31, 32, 33, 34, 35, 36, 37, 38], [38])])
def law_placesItems.B3 : List Nat := [0, 1, 3, 7, 15, 15, 63, 127, 255, 511, 511, 2047, 4095, 8191, 16383, 32767, 65535, 131071, 262143, 524287, 1048575, 2097151, 524287, 8388607, 16777215, 33554431, 67108863, 134217727, 268435455, 67108863, 1073741823, 2147483647, 4294967295, 8589934591, 17179869183, 34359738367, 8589934591, 137438953471, 274877906943, 549755813887]
theorem law_placesItems.tab3 : rtab .any (opsOf Try.f24 3) = law_placesItems.T3 := by kernel_rfl
theorem law_placesItems.bits3 : waitsOk law_placesItems.T3.2 law_placesItems.B3 = true := by kernel_rfl
set_option maxHeartbeats 8000000 in
set_option maxRecDepth 100000 in
theorem law_placesItems.calls (k : Nat)  (r : Bool) (w : World) (h : law_placesItems.f k  = some r) :
  Calls Try.prog 24 #[] w fun e w' => e = .returned (.bool r) ∧ Below w.heap.size w w' := by
 have hu62 := Try.underlying62
 have hu26 := Try.underlying26
 have hu58 := Try.underlying58
 have HB := Aside0.mk (Below.refl w.heap.size w)
 have H : ((script_Default.f).bind fun bt251 => ((place_Layout.f k bt251.1 bt251.2 (([(⟨0, 3, 1⟩ : S62), (⟨0, 1, 2⟩ : S62), (⟨2, 4, 4⟩ : S62)] : List (S62)))).bind fun bt260 => ((script_Default.f).bind fun bt269 => ((place_Layout.f k bt269.1 bt269.2 (([(⟨3, 0, 1⟩ : S62)] : List (S62)))).bind fun bt278 => (if bt260.2.2.1 = 0 then ((ref_At.f 3 (-100)).bind fun bt287 => (if (bt278.2.2.1 == bt287.1 && (bt278.2.2.2 == bt287.2)) = true then ((law_ints.f k bt260.1 (([256, 260, 512] : List Int))).bind fun t292 => (if t292 = true then (if (bt260.2.1.length : Int) = 3 then (if 0 < (bt260.2.1.length : Int) then (if (((rd_T58 bt260.2.1 0).f0) == 256 && (((rd_T58 bt260.2.1 0).f1) == 5)) = true then (if 1 < (bt260.2.1.length : Int) then (if (((rd_T58 bt260.2.1 1).f0) == 512 && (((rd_T58 bt260.2.1 1).f1) == 0)) = true then (if 2 < (bt260.2.1.length : Int) then (some (((rd_T58 bt260.2.1 2).f0) == 512 && (((rd_T58 bt260.2.1 2).f1) == 4))) else (none)) else (none)) else (none)) else (none)) else (none)) else (none)) else (none))) else (none))) else (none)))))) = some r := h
 clear h
 replace H := Option.bind_eq_some_iff.mp H
 obtain ⟨⟨t251, t254⟩, A10, H⟩ := H
 replace H : ((place_Layout.f k t251 t254 (([(⟨0, 3, 1⟩ : S62), (⟨0, 1, 2⟩ : S62), (⟨2, 4, 4⟩ : S62)] : List (S62)))).bind fun bt260 => ((script_Default.f).bind fun bt269 => ((place_Layout.f k bt269.1 bt269.2 (([(⟨3, 0, 1⟩ : S62)] : List (S62)))).bind fun bt278 => (if bt260.2.2.1 = 0 then ((ref_At.f 3 (-100)).bind fun bt287 => (if (bt278.2.2.1 == bt287.1 && (bt278.2.2.2 == bt287.2)) = true then ((law_ints.f k bt260.1 (([256, 260, 512] : List Int))).bind fun t292 => (if t292 = true then (if (bt260.2.1.length : Int) = 3 then (if 0 < (bt260.2.1.length : Int) then (if (((rd_T58 bt260.2.1 0).f0) == 256 && (((rd_T58 bt260.2.1 0).f1) == 5)) = true then (if 1 < (bt260.2.1.length : Int) then (if (((rd_T58 bt260.2.1 1).f0) == 512 && (((rd_T58 bt260.2.1 1).f1) == 0)) = true then (if 2 < (bt260.2.1.length : Int) then (some (((rd_T58 bt260.2.1 2).f0) == 512 && (((rd_T58 bt260.2.1 2).f1) == 4))) else (none)) else (none)) else (none)) else (none)) else (none)) else (none)) else (none))) else (none))) else (none))))) = some r := H
 have A1 := Aside0.mk A10
 clear A10
 obtain ⟨y257, hy257⟩ : ∃ y_ : List (S62), y_ = (([(⟨0, 3, 1⟩ : S62), (⟨0, 1, 2⟩ : S62), (⟨2, 4, 4⟩ : S62)] : List (S62))) := ⟨_, rfl⟩
 replace H : ((place_Layout.f k t251 t254 y257).bind fun bt260 => ((script_Default.f).bind fun bt269 => ((place_Layout.f k bt269.1 bt269.2 (([(⟨3, 0, 1⟩ : S62)] : List (S62)))).bind fun bt278 => (if bt260.2.2.1 = 0 then ((ref_At.f 3 (-100)).bind fun bt287 => (if (bt278.2.2.1 == bt287.1 && (bt278.2.2.2 == bt287.2)) = true then ((law_ints.f k bt260.1 (([256, 260, 512] : List Int))).bind fun t292 => (if t292 = true then (if (bt260.2.1.length : Int) = 3 then (if 0 < (bt260.2.1.length : Int) then (if (((rd_T58 bt260.2.1 0).f0) == 256 && (((rd_T58 bt260.2.1 0).f1) == 5)) = true then (if 1 < (bt260.2.1.length : Int) then (if (((rd_T58 bt260.2.1 1).f0) == 512 && (((rd_T58 bt260.2.1 1).f1) == 0)) = true then (if 2 < (bt260.2.1.length : Int) then (some (((rd_T58 bt260.2.1 2).f0) == 512 && (((rd_T58 bt260.2.1 2).f1) == 4))) else (none)) else (none)) else (none)) else (none)) else (none)) else (none)) else (none))) else (none))) else (none))))) = some r := by first | (rw [hy257]; with_reducible exact H) | (have H2_ := (Option.bind_some _ _).symm.trans H; rw [hy257]; with_reducible exact H2_) | (have H2_ := (Option.bind_some _ _).symm.trans H; with_reducible exact H2_) | with_reducible exact H | (rw [hy257]; exact H) | exact H
 have Ny257 := Aside0.mk hy257
 clear hy257
 replace H := Option.bind_eq_some_iff.mp H
 obtain ⟨⟨t260, t263, t266, t267⟩, A20, H⟩ := H
 replace H : ((script_Default.f).bind fun bt269 => ((place_Layout.f k bt269.1 bt269.2 (([(⟨3, 0, 1⟩ : S62)] : List (S62)))).bind fun bt278 => (if t266 = 0 then ((ref_At.f 3 (-100)).bind fun bt287 => (if (bt278.2.2.1 == bt287.1 && (bt278.2.2.2 == bt287.2)) = true then ((law_ints.f k t260 (([256, 260, 512] : List Int))).bind fun t292 => (if t292 = true then (if (t263.length : Int) = 3 then (if 0 < (t263.length : Int) then (if (((rd_T58 t263 0).f0) == 256 && (((rd_T58 t263 0).f1) == 5)) = true then (if 1 < (t263.length : Int) then (if (((rd_T58 t263 1).f0) == 512 && (((rd_T58 t263 1).f1) == 0)) = true then (if 2 < (t263.length : Int) then (some (((rd_T58 t263 2).f0) == 512 && (((rd_T58 t263 2).f1) == 4))) else (none)) else (none)) else (none)) else (none)) else (none)) else (none)) else (none))) else (none))) else (none)))) = some r := H
 have A2 := Aside0.mk A20
 clear A20
 replace H := Option.bind_eq_some_iff.mp H
 obtain ⟨⟨t269, t272⟩, A30, H⟩ := H
 replace H : ((place_Layout.f k t269 t272 (([(⟨3, 0, 1⟩ : S62)] : List (S62)))).bind fun bt278 => (if t266 = 0 then ((ref_At.f 3 (-100)).bind fun bt287 => (if (bt278.2.2.1 == bt287.1 && (bt278.2.2.2 == bt287.2)) = true then ((law_ints.f k t260 (([256, 260, 512] : List Int))).bind fun t292 => (if t292 = true then (if (t263.length : Int) = 3 then (if 0 < (t263.length : Int) then (if (((rd_T58 t263 0).f0) == 256 && (((rd_T58 t263 0).f1) == 5)) = true then (if 1 < (t263.length : Int) then (if (((rd_T58 t263 1).f0) == 512 && (((rd_T58 t263 1).f1) == 0)) = true then (if 2 < (t263.length : Int) then (some (((rd_T58 t263 2).f0) == 512 && (((rd_T58 t263 2).f1) == 4))) else (none)) else (none)) else (none)) else (none)) else (none)) else (none)) else (none))) else (none))) else (none))) = some r := H
 have A3 := Aside0.mk A30
 clear A30
 obtain ⟨y275, hy275⟩ : ∃ y_ : List (S62), y_ = (([(⟨3, 0, 1⟩ : S62)] : List (S62))) := ⟨_, rfl⟩
 replace H : ((place_Layout.f k t269 t272 y275).bind fun bt278 => (if t266 = 0 then ((ref_At.f 3 (-100)).bind fun bt287 => (if (bt278.2.2.1 == bt287.1 && (bt278.2.2.2 == bt287.2)) = true then ((law_ints.f k t260 (([256, 260, 512] : List Int))).bind fun t292 => (if t292 = true then (if (t263.length : Int) = 3 then (if 0 < (t263.length : Int) then (if (((rd_T58 t263 0).f0) == 256 && (((rd_T58 t263 0).f1) == 5)) = true then (if 1 < (t263.length : Int) then (if (((rd_T58 t263 1).f0) == 512 && (((rd_T58 t263 1).f1) == 0)) = true then (if 2 < (t263.length : Int) then (some (((rd_T58 t263 2).f0) == 512 && (((rd_T58 t263 2).f1) == 4))) else (none)) else (none)) else (none)) else (none)) else (none)) else (none)) else (none))) else (none))) else (none))) = some r := by first | (rw [hy275]; with_reducible exact H) | (have H2_ := (Option.bind_some _ _).symm.trans H; rw [hy275]; with_reducible exact H2_) | (have H2_ := (Option.bind_some _ _).symm.trans H; with_reducible exact H2_) | with_reducible exact H | (rw [hy275]; exact H) | exact H
 have Ny275 := Aside0.mk hy275
 clear hy275
 replace H := Option.bind_eq_some_iff.mp H
 obtain ⟨⟨t278, t281, t284, t285⟩, A40, H⟩ := H
 replace H : (if t266 = 0 then ((ref_At.f 3 (-100)).bind fun bt287 => (if (t284 == bt287.1 && (t285 == bt287.2)) = true then ((law_ints.f k t260 (([256, 260, 512] : List Int))).bind fun t292 => (if t292 = true then (if (t263.length : Int) = 3 then (if 0 < (t263.length : Int) then (if (((rd_T58 t263 0).f0) == 256 && (((rd_T58 t263 0).f1) == 5)) = true then (if 1 < (t263.length : Int) then (if (((rd_T58 t263 1).f0) == 512 && (((rd_T58 t263 1).f1) == 0)) = true then (if 2 < (t263.length : Int) then (some (((rd_T58 t263 2).f0) == 512 && (((rd_T58 t263 2).f1) == 4))) else (none)) else (none)) else (none)) else (none)) else (none)) else (none)) else (none))) else (none))) else (none)) = some r := H
 have A4 := Aside0.mk A40
 clear A40
 by_cases c5 : t266 = 0
 ·rw [if_pos c5] at H
  have c5b0 : (t266 == 0) = true := beq_iff_eq.mpr c5
  have c5b1 : (t266 != 0) = false := bne_eq_false_iff_eq.mpr c5
  clear c5
  replace H := Option.bind_eq_some_iff.mp H
  obtain ⟨⟨t287, t288⟩, A60, H⟩ := H
  replace H : (if (t284 == t287 && (t285 == t288)) = true then ((law_ints.f k t260 (([256, 260, 512] : List Int))).bind fun t292 => (if t292 = true then (if (t263.length : Int) = 3 then (if 0 < (t263.length : Int) then (if (((rd_T58 t263 0).f0) == 256 && (((rd_T58 t263 0).f1) == 5)) = true then (if 1 < (t263.length : Int) then (if (((rd_T58 t263 1).f0) == 512 && (((rd_T58 t263 1).f1) == 0)) = true then (if 2 < (t263.length : Int) then (some (((rd_T58 t263 2).f0) == 512 && (((rd_T58 t263 2).f1) == 4))) else (none)) else (none)) else (none)) else (none)) else (none)) else (none)) else (none))) else (none)) = some r := H
  have A6 := Aside0.mk A60
  clear A60
  by_cases c7 : (t284 == t287 && (t285 == t288)) = true
  ·rw [if_pos c7] at H
   have c7b0 : (t284 == t287 && (t285 == t288)) = true := c7
   (try (have c7b1 : decide (t284 = t287 && (t285 == t288)) = true := by simpa using c7))
   (try (have c7b2 : (t284 == t287 && (t285 == t288)) = true := by simpa using c7))
   clear c7
   obtain ⟨y289, hy289⟩ : ∃ y_ : List Int, y_ = (([256, 260, 512] : List Int)) := ⟨_, rfl⟩
   replace H : ((law_ints.f k t260 y289).bind fun t292 => (if t292 = true then (if (t263.length : Int) = 3 then (if 0 < (t263.length : Int) then (if (((rd_T58 t263 0).f0) == 256 && (((rd_T58 t263 0).f1) == 5)) = true then (if 1 < (t263.length : Int) then (if (((rd_T58 t263 1).f0) == 512 && (((rd_T58 t263 1).f1) == 0)) = true then (if 2 < (t263.length : Int) then (some (((rd_T58 t263 2).f0) == 512 && (((rd_T58 t263 2).f1) == 4))) else (none)) else (none)) else (none)) else (none)) else (none)) else (none)) else (none))) = some r := by first | (rw [hy289]; with_reducible exact H) | (have H2_ := (Option.bind_some _ _).symm.trans H; rw [hy289]; with_reducible exact H2_) | (have H2_ := (Option.bind_some _ _).symm.trans H; with_reducible exact H2_) | with_reducible exact H | (rw [hy289]; exact H) | exact H
   have Ny289 := Aside0.mk hy289
   clear hy289
   replace H := Option.bind_eq_some_iff.mp H
   obtain ⟨t292, A80, H⟩ := H
   replace H : (if t292 = true then (if (t263.length : Int) = 3 then (if 0 < (t263.length : Int) then (if (((rd_T58 t263 0).f0) == 256 && (((rd_T58 t263 0).f1) == 5)) = true then (if 1 < (t263.length : Int) then (if (((rd_T58 t263 1).f0) == 512 && (((rd_T58 t263 1).f1) == 0)) = true then (if 2 < (t263.length : Int) then (some (((rd_T58 t263 2).f0) == 512 && (((rd_T58 t263 2).f1) == 4))) else (none)) else (none)) else (none)) else (none)) else (none)) else (none)) else (none)) = some r := H
   have A8 := Aside0.mk A80
   clear A80
   by_cases c9 : t292 = true
   ·subst c9
    have H1 : (if (t263.length : Int) = 3 then (if 0 < (t263.length : Int) then (if (((rd_T58 t263 0).f0) == 256 && (((rd_T58 t263 0).f1) == 5)) = true then (if 1 < (t263.length : Int) then (if (((rd_T58 t263 1).f0) == 512 && (((rd_T58 t263 1).f1) == 0)) = true then (if 2 < (t263.length : Int) then (some (((rd_T58 t263 2).f0) == 512 && (((rd_T58 t263 2).f1) == 4))) else (none)) else (none)) else (none)) else (none)) else (none)) else (none)) = some r := by rw [if_pos rfl] at H; exact H
    clear H
    have H := H1
    clear H1
    by_cases c10 : (t263.length : Int) = 3
    ·rw [if_pos c10] at H
     have c10b0 : ((t263.length : Int) == 3) = true := beq_iff_eq.mpr c10
     have c10b1 : ((t263.length : Int) != 3) = false := bne_eq_false_iff_eq.mpr c10
     clear c10
     by_cases c11 : 0 < (t263.length : Int)
     ·rw [if_pos c11] at H
      have c11b0 : decide (0 < (t263.length : Int)) = true := decide_eq_true c11
      have c11b1 : decide (0 < t263.length) = true := decide_eq_true (by omega)
      clear c11
      by_cases c12 : (((rd_T58 t263 0).f0) == 256 && (((rd_T58 t263 0).f1) == 5)) = true
      ·rw [if_pos c12] at H
       have c12b0 : (((rd_T58 t263 0).f0) == 256 && (((rd_T58 t263 0).f1) == 5)) = true := c12
       (try (have c12b1 : decide (((rd_T58 t263 0).f0) = 256 && (((rd_T58 t263 0).f1) == 5)) = true := by simpa using c12))
       (try (have c12b2 : (((rd_T58 t263 0).f0) == 256 && (((rd_T58 t263 0).f1) == 5)) = true := by simpa using c12))
       clear c12
       by_cases c13 : 1 < (t263.length : Int)
       ·rw [if_pos c13] at H
        have c13b0 : decide (1 < (t263.length : Int)) = true := decide_eq_true c13
        have c13b1 : decide (1 < t263.length) = true := decide_eq_true (by omega)
        clear c13
        by_cases c14 : (((rd_T58 t263 1).f0) == 512 && (((rd_T58 t263 1).f1) == 0)) = true
        ·rw [if_pos c14] at H
         have c14b0 : (((rd_T58 t263 1).f0) == 512 && (((rd_T58 t263 1).f1) == 0)) = true := c14
         (try (have c14b1 : decide (((rd_T58 t263 1).f0) = 512 && (((rd_T58 t263 1).f1) == 0)) = true := by simpa using c14))
         (try (have c14b2 : (((rd_T58 t263 1).f0) == 512 && (((rd_T58 t263 1).f1) == 0)) = true := by simpa using c14))
         clear c14
         by_cases c15 : 2 < (t263.length : Int)
         ·rw [if_pos c15] at H
          have c15b0 : decide (2 < (t263.length : Int)) = true := decide_eq_true c15
          have c15b1 : decide (2 < t263.length) = true := decide_eq_true (by omega)
          clear c15
          obtain rfl := Option.some.inj H
          go_enter Try.func24, Try.ntmps24
          try go_wp2_with (first | ((with_reducible refine gate_callee (f := 41) rfl ?_); refine goesL_ (some 8) rfl rfl Try.func41 (by kernel_rfl) rfl #[] rfl qA ?_; (with_reducible refine (script_Default.calls  t251 t254 _ A1.out).mono ?_); rintro e w16 ⟨v252, v255, rfl, ho0, ho1, hb⟩; refine ⟨_, rfl, ?_⟩; have n0_ := Aside0.mk (Kd.R_lower ho0 (below_size qB)); have n1_ := Aside0.mk (Kd.R_lower ho1 (below_size qB)); have n2_ := Aside0.mk (below_step qB hb); clear HB; have HO253 := n0_; have HO256 := n1_; have HB := n2_; clear n0_ n1_ n2_; (try clear hb); (try clear hb2); (try clear hk); (try clear hi); (try clear ho0); (try clear ho1)) | ((with_reducible refine gate_dst (N := 12) rfl ?_); (try (refine gate_guard (by rfl) ?_; dsimp only)); refine Kd.R_lit k62 _ 62 ?hg (N := 12) ?hd (xs := ([(⟨0, 3, 1⟩ : S62), (⟨0, 1, 2⟩ : S62), (⟨2, 4, 4⟩ : S62)] : List (S62))) (inner := [.int .i64 0, .int .i64 3, .int .i64 1, .int .i64 0, .int .i64 1, .int .i64 2, .int .i64 2, .int .i64 4, .int .i64 4]) (ok := fun _ => True) (okp := fun _ => True) ?hr ?hp (fun _ hk => hk) trivial (Below.refl _ _) (Nat.le_refl _) (by simp) ?_; (case hd => rfl); (case hg => rfl); (case hr => first | (go_simp; done) | (go_simp; rfl)); (case hp => exact (Reps.c3 (show Kd.M k62 _ _ _ (⟨0, 3, 1⟩ : S62) [.int .i64 0, .int .i64 3, .int .i64 1] from (k62_mkM _ _ _ (⟨0, 3, 1⟩ : S62) )) (Reps.c3 (show Kd.M k62 _ _ _ (⟨0, 1, 2⟩ : S62) [.int .i64 0, .int .i64 1, .int .i64 2] from (k62_mkM _ _ _ (⟨0, 1, 2⟩ : S62) )) (Reps.c3 (show Kd.M k62 _ _ _ (⟨2, 4, 4⟩ : S62) [.int .i64 2, .int .i64 4, .int .i64 4] from (k62_mkM _ _ _ (⟨2, 4, 4⟩ : S62) )) (Reps.none _ _))))); intro v258 w17 ho18 hb hg_ hnew_; clear hg_ hnew_; (first | rw [← Ny257.out] at ho18 | (simp only [Int.reduceToNat] at ho18; rw [← Ny257.out] at ho18)); have n0_ := Aside0.mk (Kd.R_below (qR HO253) hb); have n1_ := Aside0.mk (Kd.R_below (qR HO256) hb); have n2_ := Aside0.mk (Kd.R_lower ho18 (below_size qB)); have n3_ := Aside0.mk (below_step qB hb); clear HO253; clear HO256; clear HB; have HO253 := n0_; have HO256 := n1_; have HO259 := n2_; have HB := n3_; clear n0_ n1_ n2_ n3_; clear hb ho18; obtain ⟨Ao19, co19, eo19⟩ := Kd.R_slice HO253.out; subst eo19; obtain ⟨Ao20, co20, eo20⟩ := Kd.R_slice HO256.out; subst eo20; obtain ⟨Ao21, co21, eo21⟩ := Kd.R_slice HO259.out; subst eo21) | ((with_reducible refine gate_callee (f := 23) rfl ?_); refine goesL_ (some 13) rfl rfl Try.func23 (by kernel_rfl) rfl #[.agg #[.slice Ao19 t251.length co19, .slice Ao20 t254.length co20], .slice Ao21 y257.length co21] rfl qA ?_; (with_reducible refine (place_Layout.calls k _ _ t251 _ _ t254 _ _ y257 t260 t263 t266 t267 _ ?side1 ?side2 ?side3 ?side4 ?side5 ?side6 A2.out).mono ?_); (case side1 => repeat (first | exact (Kd.R_reads' HO253.out).2.2 | (with_reducible refine Kd.C_alloc ?_ _) | (with_reducible refine Kd.C_drewN ?_ _) | (with_reducible refine Kd.C_drew ?_))); (case side2 => exact (Kd.R_reads' HO253.out).2.1); (case side3 => repeat (first | exact (Kd.R_reads' HO256.out).2.2 | (with_reducible refine Kd.C_alloc ?_ _) | (with_reducible refine Kd.C_drewN ?_ _) | (with_reducible refine Kd.C_drew ?_))); (case side4 => exact (Kd.R_reads' HO256.out).2.1); (case side5 => repeat (first | exact (Kd.R_reads' HO259.out).2.2 | (with_reducible refine Kd.C_alloc ?_ _) | (with_reducible refine Kd.C_drewN ?_ _) | (with_reducible refine Kd.C_drew ?_))); (case side6 => exact (Kd.R_reads' HO259.out).2.1); rintro e w22 ⟨v261, v264, rfl, ho0, ho1, hb⟩; refine ⟨_, rfl, ?_⟩; have n0_ := Aside0.mk (Kd.R_below (qR HO253) hb); have n1_ := Aside0.mk (Kd.R_below (qR HO256) hb); have n2_ := Aside0.mk (Kd.R_below (qR HO259) hb); have n3_ := Aside0.mk (Kd.R_lower ho0 (below_size qB)); have n4_ := Aside0.mk (Kd.R_lower ho1 (below_size qB)); have n5_ := Aside0.mk (below_step qB hb); clear HO253; clear HO256; clear HO259; clear HB; have HO253 := n0_; have HO256 := n1_; have HO259 := n2_; have HO262 := n3_; have HO265 := n4_; have HB := n5_; clear n0_ n1_ n2_ n3_ n4_ n5_; (try clear hb); (try clear hb2); (try clear hk); (try clear hi); (try clear ho0); (try clear ho1)) | ((with_reducible refine gate_dst (N := 3) rfl ?_); (try (refine gate_guard (by rfl) ?_; dsimp only)); refine qX (N := 3) (cs := #[.int .i64 0, .int .i64 0]) (t := 26) ?_; intro gb268 hg w23 hbox hb; have n0_ := Aside0.mk (Kd.R_below (qR HO253) hb); have n1_ := Aside0.mk (Kd.R_below (qR HO256) hb); have n2_ := Aside0.mk (Kd.R_below (qR HO259) hb); have n3_ := Aside0.mk (Kd.R_below (qR HO262) hb); have n4_ := Aside0.mk (Kd.R_below (qR HO265) hb); have n5_ := Aside0.mk (below_step qB hb); have n6_ := Aside0.mk (hbox); have n7_ := Aside0.mk ((qG hg : w.heap.size ≤ gb268)); have n8_ := Aside0.mk ((qG hg : w.heap.size ≤ gb268)); clear HO253; clear HO256; clear HO259; clear HO262; clear HO265; clear HB; have HO253 := n0_; have HO256 := n1_; have HO259 := n2_; have HO262 := n3_; have HO265 := n4_; have HB := n5_; have BK268 := n6_; have GW268 := n7_; have GE268 := n8_; clear n0_ n1_ n2_ n3_ n4_ n5_ n6_ n7_ n8_; clear hb hbox hg; have hcz24_0 : w23.cell? ⟨gb268, 0, none⟩ = some (.int .i64 0) := (blk_cell BK268.out 0).trans rfl; have hcz24_1 : w23.cell? ⟨gb268, 1, none⟩ = some (.int .i64 0) := (blk_cell BK268.out 1).trans rfl; have hfz24_0 := blk_frozen BK268.out 0; have hfz24_1 := blk_frozen BK268.out 1) | ((with_reducible refine gate_callee (f := 41) rfl ?_); refine goesL_ (some 18) rfl rfl Try.func41 (by kernel_rfl) rfl #[] rfl qA ?_; (with_reducible refine (script_Default.calls  t269 t272 _ A3.out).mono ?_); rintro e w25 ⟨v270, v273, rfl, ho0, ho1, hb⟩; refine ⟨_, rfl, ?_⟩; have n0_ := Aside0.mk (Kd.R_elder' (by (with_reducible repeat (first | apply Kd.R_alloc | apply Kd.R_drewN | apply Kd.R_drew)); exact (Kd.R_mono (Kd.R_far (p := ⟨gb268, 1, none⟩) (Kd.R_far (p := ⟨gb268, 0, none⟩) (Kd.R_types HO253.out BK268.out (by decide)) (fun _ hk => hk.2) (.int .i64 t266)) (fun _ hk => hk.2) (.int .i64 t267)) (fun _ h_ => h_.1))) (Kd.R_base ho0) hb); have n1_ := Aside0.mk (Kd.R_elder' (by (with_reducible repeat (first | apply Kd.R_alloc | apply Kd.R_drewN | apply Kd.R_drew)); exact (Kd.R_mono (Kd.R_far (p := ⟨gb268, 1, none⟩) (Kd.R_far (p := ⟨gb268, 0, none⟩) (Kd.R_types HO256.out BK268.out (by decide)) (fun _ hk => hk.2) (.int .i64 t266)) (fun _ hk => hk.2) (.int .i64 t267)) (fun _ h_ => h_.1))) (Kd.R_base ho1) hb); have n2_ := Aside0.mk (Kd.R_below (by (with_reducible repeat (first | apply Kd.R_alloc | apply Kd.R_drewN | apply Kd.R_drew)); exact (Kd.R_mono (Kd.R_far (p := ⟨gb268, 1, none⟩) (Kd.R_far (p := ⟨gb268, 0, none⟩) (Kd.R_types HO259.out BK268.out (by decide)) (fun _ hk => hk.2) (.int .i64 t266)) (fun _ hk => hk.2) (.int .i64 t267)) (fun _ h_ => h_.1))) hb); have n3_ := Aside0.mk (Kd.R_below (by (with_reducible repeat (first | apply Kd.R_alloc | apply Kd.R_drewN | apply Kd.R_drew)); exact (Kd.R_mono (Kd.R_far (p := ⟨gb268, 1, none⟩) (Kd.R_far (p := ⟨gb268, 0, none⟩) (Kd.R_types HO262.out BK268.out (by decide)) (fun _ hk => hk.2) (.int .i64 t266)) (fun _ hk => hk.2) (.int .i64 t267)) (fun _ h_ => h_.1))) hb); have n4_ := Aside0.mk (Kd.R_below (by (with_reducible repeat (first | apply Kd.R_alloc | apply Kd.R_drewN | apply Kd.R_drew)); exact (Kd.R_mono (Kd.R_far (p := ⟨gb268, 1, none⟩) (Kd.R_far (p := ⟨gb268, 0, none⟩) (Kd.R_types HO265.out BK268.out (by decide)) (fun _ hk => hk.2) (.int .i64 t266)) (fun _ hk => hk.2) (.int .i64 t267)) (fun _ h_ => h_.1))) hb); have n5_ := Aside0.mk (Kd.R_lower (Kd.R_new' ho0 (Kd.R_lt (by (with_reducible repeat (first | apply Kd.R_alloc | apply Kd.R_drewN | apply Kd.R_drew)); exact (Kd.R_mono (Kd.R_far (p := ⟨gb268, 1, none⟩) (Kd.R_far (p := ⟨gb268, 0, none⟩) (Kd.R_types HO253.out BK268.out (by decide)) (fun _ hk => hk.2) (.int .i64 t266)) (fun _ hk => hk.2) (.int .i64 t267)) (fun _ h_ => h_.1))))) (below_size qB)); have n6_ := Aside0.mk (Kd.R_lower (Kd.R_new' ho1 (Kd.R_lt (by (with_reducible repeat (first | apply Kd.R_alloc | apply Kd.R_drewN | apply Kd.R_drew)); exact (Kd.R_mono (Kd.R_far (p := ⟨gb268, 1, none⟩) (Kd.R_far (p := ⟨gb268, 0, none⟩) (Kd.R_types HO256.out BK268.out (by decide)) (fun _ hk => hk.2) (.int .i64 t266)) (fun _ hk => hk.2) (.int .i64 t267)) (fun _ h_ => h_.1))))) (below_size qB)); have n7_ := Aside0.mk (blk_below (g := gb268) (o := .cells #[.int .i64 t266, .int .i64 t267] 26 (0, 0)) (by (with_reducible repeat (first | refine blk_drewN ?_ _ | refine blk_drew ?_ | refine blk_alloc ?_ _)); refine blk_put (cs := #[.int .i64 t266, .int .i64 0]) ?_ 1 _ rfl; (with_reducible repeat (first | refine blk_drewN ?_ _ | refine blk_drew ?_ | refine blk_alloc ?_ _)); refine blk_put (cs := #[.int .i64 0, .int .i64 0]) ?_ 0 _ rfl; exact qK BK268) hb); have n8_ := Aside0.mk (below_step qB hb); clear HO253; clear HO256; clear HO259; clear HO262; clear HO265; clear BK268; clear HB; have HO253 := n0_; have HO256 := n1_; have HO259 := n2_; have HO262 := n3_; have HO265 := n4_; have HO271 := n5_; have HO274 := n6_; have BK268 := n7_; have HB := n8_; clear n0_ n1_ n2_ n3_ n4_ n5_ n6_ n7_ n8_; (try clear hb); (try clear hb2); (try clear hk); (try clear hi); (try clear ho0); (try clear ho1)) | ((with_reducible refine gate_dst (N := 20) rfl ?_); (try (refine gate_guard (by rfl) ?_; dsimp only)); refine Kd.R_lit k62 _ 62 ?hg (N := 20) ?hd (xs := ([(⟨3, 0, 1⟩ : S62)] : List (S62))) (inner := [.int .i64 3, .int .i64 0, .int .i64 1]) (ok := fun _ => True) (okp := fun _ => True) ?hr ?hp (fun _ hk => hk) trivial (Below.refl _ _) (Nat.le_refl _) (by simp) ?_; (case hd => rfl); (case hg => rfl); (case hr => first | (go_simp; done) | (go_simp; rfl)); (case hp => exact (Reps.c3 (show Kd.M k62 _ _ _ (⟨3, 0, 1⟩ : S62) [.int .i64 3, .int .i64 0, .int .i64 1] from (k62_mkM _ _ _ (⟨3, 0, 1⟩ : S62) )) (Reps.none _ _))); intro v276 w26 ho27 hb hg_ hnew_; clear hg_ hnew_; (first | rw [← Ny275.out] at ho27 | (simp only [Int.reduceToNat] at ho27; rw [← Ny275.out] at ho27)); have n0_ := Aside0.mk (Kd.R_below (qR HO253) hb); have n1_ := Aside0.mk (Kd.R_below (qR HO256) hb); have n2_ := Aside0.mk (Kd.R_elder' (qR HO259) (Kd.R_base ho27) hb); have n3_ := Aside0.mk (Kd.R_below (qR HO262) hb); have n4_ := Aside0.mk (Kd.R_below (qR HO265) hb); have n5_ := Aside0.mk (Kd.R_below (qR HO271) hb); have n6_ := Aside0.mk (Kd.R_below (qR HO274) hb); have n7_ := Aside0.mk (Kd.R_lower (Kd.R_new' ho27 (Kd.R_lt (qR HO259))) (below_size qB)); have n8_ := Aside0.mk (blk_below (g := gb268) (o := .cells #[.int .i64 t266, .int .i64 t267] 26 (0, 0)) (qK BK268) hb); have n9_ := Aside0.mk (below_step qB hb); clear HO253; clear HO256; clear HO259; clear HO262; clear HO265; clear HO271; clear HO274; clear BK268; clear HB; have HO253 := n0_; have HO256 := n1_; have HO259 := n2_; have HO262 := n3_; have HO265 := n4_; have HO271 := n5_; have HO274 := n6_; have HO277 := n7_; have BK268 := n8_; have HB := n9_; clear n0_ n1_ n2_ n3_ n4_ n5_ n6_ n7_ n8_ n9_; clear hb ho27; obtain ⟨Ao28, co28, eo28⟩ := Kd.R_slice HO271.out; subst eo28; obtain ⟨Ao29, co29, eo29⟩ := Kd.R_slice HO274.out; subst eo29; obtain ⟨Ao30, co30, eo30⟩ := Kd.R_slice HO277.out; subst eo30) | ((with_reducible refine gate_callee (f := 23) rfl ?_); refine goesL_ (some 21) rfl rfl Try.func23 (by kernel_rfl) rfl #[.agg #[.slice Ao28 t269.length co28, .slice Ao29 t272.length co29], .slice Ao30 y275.length co30] rfl qA ?_; (with_reducible refine (place_Layout.calls k _ _ t269 _ _ t272 _ _ y275 t278 t281 t284 t285 _ ?side1 ?side2 ?side3 ?side4 ?side5 ?side6 A4.out).mono ?_); (case side1 => repeat (first | exact (Kd.R_reads' HO271.out).2.2 | (with_reducible refine Kd.C_alloc ?_ _) | (with_reducible refine Kd.C_drewN ?_ _) | (with_reducible refine Kd.C_drew ?_))); (case side2 => exact (Kd.R_reads' HO271.out).2.1); (case side3 => repeat (first | exact (Kd.R_reads' HO274.out).2.2 | (with_reducible refine Kd.C_alloc ?_ _) | (with_reducible refine Kd.C_drewN ?_ _) | (with_reducible refine Kd.C_drew ?_))); (case side4 => exact (Kd.R_reads' HO274.out).2.1); (case side5 => repeat (first | exact (Kd.R_reads' HO277.out).2.2 | (with_reducible refine Kd.C_alloc ?_ _) | (with_reducible refine Kd.C_drewN ?_ _) | (with_reducible refine Kd.C_drew ?_))); (case side6 => exact (Kd.R_reads' HO277.out).2.1); rintro e w31 ⟨v279, v282, rfl, ho0, ho1, hb⟩; refine ⟨_, rfl, ?_⟩; have n0_ := Aside0.mk (Kd.R_below (qR HO253) hb); have n1_ := Aside0.mk (Kd.R_below (qR HO256) hb); have n2_ := Aside0.mk (Kd.R_below (qR HO259) hb); have n3_ := Aside0.mk (Kd.R_elder' (qR HO262) (Kd.R_base ho0) hb); have n4_ := Aside0.mk (Kd.R_elder' (qR HO265) (Kd.R_base ho1) hb); have n5_ := Aside0.mk (Kd.R_below (qR HO271) hb); have n6_ := Aside0.mk (Kd.R_below (qR HO274) hb); have n7_ := Aside0.mk (Kd.R_below (qR HO277) hb); have n8_ := Aside0.mk (Kd.R_lower (Kd.R_new' ho0 (Kd.R_lt (qR HO262))) (below_size qB)); have n9_ := Aside0.mk (Kd.R_lower (Kd.R_new' ho1 (Kd.R_lt (qR HO265))) (below_size qB)); have n10_ := Aside0.mk (blk_below (g := gb268) (o := .cells #[.int .i64 t266, .int .i64 t267] 26 (0, 0)) (qK BK268) hb); have n11_ := Aside0.mk (below_step qB hb); clear HO253; clear HO256; clear HO259; clear HO262; clear HO265; clear HO271; clear HO274; clear HO277; clear BK268; clear HB; have HO253 := n0_; have HO256 := n1_; have HO259 := n2_; have HO262 := n3_; have HO265 := n4_; have HO271 := n5_; have HO274 := n6_; have HO277 := n7_; have HO280 := n8_; have HO283 := n9_; have BK268 := n10_; have HB := n11_; clear n0_ n1_ n2_ n3_ n4_ n5_ n6_ n7_ n8_ n9_ n10_ n11_; (try clear hb); (try clear hb2); (try clear hk); (try clear hi); (try clear ho0); (try clear ho1)) | ((with_reducible refine gate_dst (N := 6) rfl ?_); (try (refine gate_guard (by rfl) ?_; dsimp only)); refine qX (N := 6) (cs := #[.int .i64 0, .int .i64 0]) (t := 26) ?_; intro gb286 hg w32 hbox hb; have n0_ := Aside0.mk (Kd.R_below (qR HO253) hb); have n1_ := Aside0.mk (Kd.R_below (qR HO256) hb); have n2_ := Aside0.mk (Kd.R_below (qR HO259) hb); have n3_ := Aside0.mk (Kd.R_below (qR HO262) hb); have n4_ := Aside0.mk (Kd.R_below (qR HO265) hb); have n5_ := Aside0.mk (Kd.R_below (qR HO271) hb); have n6_ := Aside0.mk (Kd.R_below (qR HO274) hb); have n7_ := Aside0.mk (Kd.R_below (qR HO277) hb); have n8_ := Aside0.mk (Kd.R_below (qR HO280) hb); have n9_ := Aside0.mk (Kd.R_below (qR HO283) hb); have n10_ := Aside0.mk (blk_below (g := gb268) (o := .cells #[.int .i64 t266, .int .i64 t267] 26 (0, 0)) (qK BK268) hb); have n11_ := Aside0.mk (below_step qB hb); have n12_ := Aside0.mk (hbox); have n13_ := Aside0.mk ((qG hg : w.heap.size ≤ gb286)); have n14_ := Aside0.mk ((qG hg : w.heap.size ≤ gb286)); have n15_ := Aside0.mk ((by rw [hg]; exact Nat.ne_of_lt (blk_lt (g := gb268) (o := .cells #[.int .i64 t266, .int .i64 t267] 26 (0, 0)) (qK BK268)) : gb268 ≠ gb286)); have n16_ := Aside0.mk ((by rw [hg]; exact Nat.ne_of_gt (blk_lt (g := gb268) (o := .cells #[.int .i64 t266, .int .i64 t267] 26 (0, 0)) (qK BK268)) : gb286 ≠ gb268)); clear HO253; clear HO256; clear HO259; clear HO262; clear HO265; clear HO271; clear HO274; clear HO277; clear HO280; clear HO283; clear BK268; clear HB; have HO253 := n0_; have HO256 := n1_; have HO259 := n2_; have HO262 := n3_; have HO265 := n4_; have HO271 := n5_; have HO274 := n6_; have HO277 := n7_; have HO280 := n8_; have HO283 := n9_; have BK268 := n10_; have HB := n11_; have BK286 := n12_; have GW286 := n13_; have GE286 := n14_; have NB268_286 := n15_; have NB286_268 := n16_; clear n0_ n1_ n2_ n3_ n4_ n5_ n6_ n7_ n8_ n9_ n10_ n11_ n12_ n13_ n14_ n15_ n16_; clear hb hbox hg; have hnb33 := NB286_268.out; have hnc33 := NB268_286.out; have hcz34_0 : w32.cell? ⟨gb286, 0, none⟩ = some (.int .i64 0) := (blk_cell BK286.out 0).trans rfl; have hcz34_1 : w32.cell? ⟨gb286, 1, none⟩ = some (.int .i64 0) := (blk_cell BK286.out 1).trans rfl; have hfz34_0 := blk_frozen BK286.out 0; have hfz34_1 := blk_frozen BK286.out 1))
          have n0_ : Aside0 (Kd.R k60 60 ((w32.setCell ⟨gb286, 0, none⟩ (.int .i64 t284)).setCell ⟨gb286, 1, none⟩ (.int .i64 t285)) w.heap.size (fun k_ => some k_ ≠ (.slice Ao28 t269.length co28 : Value).ownBlock) (.slice Ao19 t251.length co19) t251) := ⟨by (with_reducible repeat (first | apply Kd.R_alloc | apply Kd.R_drewN | apply Kd.R_drew)); exact Kd.R_mono (Kd.R_far (p := ⟨gb286, 1, none⟩) (Kd.R_far (p := ⟨gb286, 0, none⟩) (Kd.R_types HO253.out BK286.out (by decide)) (fun _ hk => hk.2) (.int .i64 t284)) (fun _ hk => hk.2) (.int .i64 t285)) (fun _ hk => hk.1.2)⟩
          have n1_ : Aside0 (Kd.R k72 72 ((w32.setCell ⟨gb286, 0, none⟩ (.int .i64 t284)).setCell ⟨gb286, 1, none⟩ (.int .i64 t285)) w.heap.size (fun k_ => some k_ ≠ (.slice Ao29 t272.length co29 : Value).ownBlock) (.slice Ao20 t254.length co20) t254) := ⟨by (with_reducible repeat (first | apply Kd.R_alloc | apply Kd.R_drewN | apply Kd.R_drew)); exact Kd.R_mono (Kd.R_far (p := ⟨gb286, 1, none⟩) (Kd.R_far (p := ⟨gb286, 0, none⟩) (Kd.R_types HO256.out BK286.out (by decide)) (fun _ hk => hk.2) (.int .i64 t284)) (fun _ hk => hk.2) (.int .i64 t285)) (fun _ hk => hk.1.2)⟩
          have n2_ : Aside0 (Kd.R k62 62 ((w32.setCell ⟨gb286, 0, none⟩ (.int .i64 t284)).setCell ⟨gb286, 1, none⟩ (.int .i64 t285)) w.heap.size (fun k_ => some k_ ≠ (.slice Ao30 y275.length co30 : Value).ownBlock) (.slice Ao21 y257.length co21) y257) := ⟨by (with_reducible repeat (first | apply Kd.R_alloc | apply Kd.R_drewN | apply Kd.R_drew)); exact Kd.R_mono (Kd.R_far (p := ⟨gb286, 1, none⟩) (Kd.R_far (p := ⟨gb286, 0, none⟩) (Kd.R_types HO259.out BK286.out (by decide)) (fun _ hk => hk.2) (.int .i64 t284)) (fun _ hk => hk.2) (.int .i64 t285)) (fun _ hk => hk.1.2)⟩
          have n3_ : Aside0 (Kd.R (Kd.int .i64) 3 ((w32.setCell ⟨gb286, 0, none⟩ (.int .i64 t284)).setCell ⟨gb286, 1, none⟩ (.int .i64 t285)) w.heap.size (fun k_ => some k_ ≠ (v279 : Value).ownBlock) v261 t260) := ⟨by (with_reducible repeat (first | apply Kd.R_alloc | apply Kd.R_drewN | apply Kd.R_drew)); exact Kd.R_mono (Kd.R_far (p := ⟨gb286, 1, none⟩) (Kd.R_far (p := ⟨gb286, 0, none⟩) (Kd.R_types HO262.out BK286.out (by decide)) (fun _ hk => hk.2) (.int .i64 t284)) (fun _ hk => hk.2) (.int .i64 t285)) (fun _ hk => hk.1.2)⟩
          have n4_ : Aside0 (Kd.R k58 58 ((w32.setCell ⟨gb286, 0, none⟩ (.int .i64 t284)).setCell ⟨gb286, 1, none⟩ (.int .i64 t285)) w.heap.size (fun k_ => some k_ ≠ (v282 : Value).ownBlock) v264 t263) := ⟨by (with_reducible repeat (first | apply Kd.R_alloc | apply Kd.R_drewN | apply Kd.R_drew)); exact Kd.R_mono (Kd.R_far (p := ⟨gb286, 1, none⟩) (Kd.R_far (p := ⟨gb286, 0, none⟩) (Kd.R_types HO265.out BK286.out (by decide)) (fun _ hk => hk.2) (.int .i64 t284)) (fun _ hk => hk.2) (.int .i64 t285)) (fun _ hk => hk.1.2)⟩
          have n5_ : Aside0 (Kd.R k60 60 ((w32.setCell ⟨gb286, 0, none⟩ (.int .i64 t284)).setCell ⟨gb286, 1, none⟩ (.int .i64 t285)) w.heap.size (fun k_ => some k_ ≠ (.slice Ao19 t251.length co19 : Value).ownBlock) (.slice Ao28 t269.length co28) t269) := ⟨by (with_reducible repeat (first | apply Kd.R_alloc | apply Kd.R_drewN | apply Kd.R_drew)); exact Kd.R_mono (Kd.R_far (p := ⟨gb286, 1, none⟩) (Kd.R_far (p := ⟨gb286, 0, none⟩) (Kd.R_types HO271.out BK286.out (by decide)) (fun _ hk => hk.2) (.int .i64 t284)) (fun _ hk => hk.2) (.int .i64 t285)) (fun _ hk => hk.1.2)⟩
          have n6_ : Aside0 (Kd.R k72 72 ((w32.setCell ⟨gb286, 0, none⟩ (.int .i64 t284)).setCell ⟨gb286, 1, none⟩ (.int .i64 t285)) w.heap.size (fun k_ => some k_ ≠ (.slice Ao20 t254.length co20 : Value).ownBlock) (.slice Ao29 t272.length co29) t272) := ⟨by (with_reducible repeat (first | apply Kd.R_alloc | apply Kd.R_drewN | apply Kd.R_drew)); exact Kd.R_mono (Kd.R_far (p := ⟨gb286, 1, none⟩) (Kd.R_far (p := ⟨gb286, 0, none⟩) (Kd.R_types HO274.out BK286.out (by decide)) (fun _ hk => hk.2) (.int .i64 t284)) (fun _ hk => hk.2) (.int .i64 t285)) (fun _ hk => hk.1.2)⟩
          have n7_ : Aside0 (Kd.R k62 62 ((w32.setCell ⟨gb286, 0, none⟩ (.int .i64 t284)).setCell ⟨gb286, 1, none⟩ (.int .i64 t285)) w.heap.size (fun k_ => some k_ ≠ (.slice Ao21 y257.length co21 : Value).ownBlock) (.slice Ao30 y275.length co30) y275) := ⟨by (with_reducible repeat (first | apply Kd.R_alloc | apply Kd.R_drewN | apply Kd.R_drew)); exact Kd.R_mono (Kd.R_far (p := ⟨gb286, 1, none⟩) (Kd.R_far (p := ⟨gb286, 0, none⟩) (Kd.R_types HO277.out BK286.out (by decide)) (fun _ hk => hk.2) (.int .i64 t284)) (fun _ hk => hk.2) (.int .i64 t285)) (fun _ hk => hk.1.2)⟩
          have n8_ : Aside0 (Kd.R (Kd.int .i64) 3 ((w32.setCell ⟨gb286, 0, none⟩ (.int .i64 t284)).setCell ⟨gb286, 1, none⟩ (.int .i64 t285)) w.heap.size (fun k_ => some k_ ≠ (v261 : Value).ownBlock) v279 t278) := ⟨by (with_reducible repeat (first | apply Kd.R_alloc | apply Kd.R_drewN | apply Kd.R_drew)); exact Kd.R_mono (Kd.R_far (p := ⟨gb286, 1, none⟩) (Kd.R_far (p := ⟨gb286, 0, none⟩) (Kd.R_types HO280.out BK286.out (by decide)) (fun _ hk => hk.2) (.int .i64 t284)) (fun _ hk => hk.2) (.int .i64 t285)) (fun _ hk => hk.1.2)⟩
          have n9_ : Aside0 (Kd.R k58 58 ((w32.setCell ⟨gb286, 0, none⟩ (.int .i64 t284)).setCell ⟨gb286, 1, none⟩ (.int .i64 t285)) w.heap.size (fun k_ => some k_ ≠ (v264 : Value).ownBlock) v282 t281) := ⟨by (with_reducible repeat (first | apply Kd.R_alloc | apply Kd.R_drewN | apply Kd.R_drew)); exact Kd.R_mono (Kd.R_far (p := ⟨gb286, 1, none⟩) (Kd.R_far (p := ⟨gb286, 0, none⟩) (Kd.R_types HO283.out BK286.out (by decide)) (fun _ hk => hk.2) (.int .i64 t284)) (fun _ hk => hk.2) (.int .i64 t285)) (fun _ hk => hk.1.2)⟩
          have n10_ : Aside0 (((w32.setCell ⟨gb286, 0, none⟩ (.int .i64 t284)).setCell ⟨gb286, 1, none⟩ (.int .i64 t285)).heap[gb268]? = some (.cells #[.int .i64 t266, .int .i64 t267] 26 (0, 0))) := ⟨by (with_reducible repeat (first | refine blk_drewN ?_ _ | refine blk_drew ?_ | refine blk_alloc ?_ _)); refine blk_far ?_ NB268_286.out _; (with_reducible repeat (first | refine blk_drewN ?_ _ | refine blk_drew ?_ | refine blk_alloc ?_ _)); refine blk_far ?_ NB268_286.out _; exact qK BK268⟩
          have n11_ : Aside0 (((w32.setCell ⟨gb286, 0, none⟩ (.int .i64 t284)).setCell ⟨gb286, 1, none⟩ (.int .i64 t285)).heap[gb286]? = some (.cells #[.int .i64 t284, .int .i64 t285] 26 (0, 0))) := ⟨by (with_reducible repeat (first | refine blk_drewN ?_ _ | refine blk_drew ?_ | refine blk_alloc ?_ _)); refine blk_put (cs := #[.int .i64 t284, .int .i64 0]) ?_ 1 _ rfl; (with_reducible repeat (first | refine blk_drewN ?_ _ | refine blk_drew ?_ | refine blk_alloc ?_ _)); refine blk_put (cs := #[.int .i64 0, .int .i64 0]) ?_ 0 _ rfl; exact qK BK286⟩
          have n12_ : Aside0 (Below w.heap.size w ((w32.setCell ⟨gb286, 0, none⟩ (.int .i64 t284)).setCell ⟨gb286, 1, none⟩ (.int .i64 t285))) := ⟨qB⟩
          (try clear HO253)
          (try clear HO256)
          (try clear HO259)
          (try clear HO262)
          (try clear HO265)
          (try clear HO271)
          (try clear HO274)
          (try clear HO277)
          (try clear HO280)
          (try clear HO283)
          (try clear BK268)
          (try clear BK286)
          (try clear HB)
          generalize ((w32.setCell ⟨gb286, 0, none⟩ (.int .i64 t284)).setCell ⟨gb286, 1, none⟩ (.int .i64 t285)) = w35 at n0_ n1_ n2_ n3_ n4_ n5_ n6_ n7_ n8_ n9_ n10_ n11_ n12_ ⊢
          have HO253 := n0_
          have HO256 := n1_
          have HO259 := n2_
          have HO262 := n3_
          have HO265 := n4_
          have HO271 := n5_
          have HO274 := n6_
          have HO277 := n7_
          have HO280 := n8_
          have HO283 := n9_
          have BK268 := n10_
          have BK286 := n11_
          have HB := n12_
          clear n0_ n1_ n2_ n3_ n4_ n5_ n6_ n7_ n8_ n9_ n10_ n11_ n12_
          have n0_ := Aside0.mk (Kd.R_drew HO253.out)
          have n1_ := Aside0.mk (Kd.R_drew HO256.out)
          have n2_ := Aside0.mk (Kd.R_drew HO259.out)
          have n3_ := Aside0.mk (Kd.R_drew HO262.out)
          have n4_ := Aside0.mk (Kd.R_drew HO265.out)
          have n5_ := Aside0.mk (Kd.R_drew HO271.out)
          have n6_ := Aside0.mk (Kd.R_drew HO274.out)
          have n7_ := Aside0.mk (Kd.R_drew HO277.out)
          have n8_ := Aside0.mk (Kd.R_drew HO280.out)
          have n9_ := Aside0.mk (Kd.R_drew HO283.out)
          have n10_ := Aside0.mk (blk_drew BK268.out)
          have n11_ := Aside0.mk (blk_drew BK286.out)
          have n12_ := Aside0.mk (below_drew1 HB.out)
          clear HO253
          clear HO256
          clear HO259
          clear HO262
          clear HO265
          clear HO271
          clear HO274
          clear HO277
          clear HO280
          clear HO283
          clear BK268
          clear BK286
          clear HB
          have HO253 := n0_
          have HO256 := n1_
          have HO259 := n2_
          have HO262 := n3_
          have HO265 := n4_
          have HO271 := n5_
          have HO274 := n6_
          have HO277 := n7_
          have HO280 := n8_
          have HO283 := n9_
          have BK268 := n10_
          have BK286 := n11_
          have HB := n12_
          clear n0_ n1_ n2_ n3_ n4_ n5_ n6_ n7_ n8_ n9_ n10_ n11_ n12_
          (try (obtain ⟨Ao43, co43, eo43⟩ := Kd.R_slice HO265.out; subst eo43))
          have p293 : 0 ≤ (0 : Int) := (by omega)
          have q293 : 0 < (t263.length : Int) := of_decide_eq_true qO
          obtain ⟨ad293, e293, hx293_0, hx293_1⟩ := at_T58 (Kd.R_reads' HO265.out).2.2 0 p293 q293
          cases e293
          have qi293 : (0 < t263.length) = True := eq_true (by omega)
          (try rw [show ((0 : Int)).toNat = 0 from rfl] at hx293_0)
          (try rw [show 0 * 2 = 0 from rfl] at hx293_0)
          (try rw [Addr.add_zero'] at hx293_0)
          (try rw [show ((0 : Int)).toNat = 0 from rfl] at hx293_1)
          (try rw [show 0 * 2 = 0 from rfl] at hx293_1)
          (try rw [Addr.add_zero'] at hx293_1)
          replace p293 := eq_true p293
          replace q293 := eq_true q293
          (try (obtain ⟨Ao44, co44, eo44⟩ := Kd.R_slice HO265.out; subst eo44))
          have p294 : 0 ≤ (1 : Int) := (by omega)
          have q294 : 1 < (t263.length : Int) := of_decide_eq_true qO
          obtain ⟨ad294, e294, hx294_0, hx294_1⟩ := at_T58 (Kd.R_reads' HO265.out).2.2 1 p294 q294
          obtain rfl : ad293 = ad294 := (by injection e294)
          (try simp only [show (1 : Int).toNat = 1 from rfl, Nat.reduceMul, Nat.reduceEqDiff, Go.Addr.add, ↓reduceIte] at hx294_0)
          (try simp only [show (1 : Int).toNat = 1 from rfl, Nat.reduceMul, Nat.reduceEqDiff, Go.Addr.add, ↓reduceIte] at hx294_1)
          have qi294 : (1 < t263.length) = True := eq_true (by omega)
          (try rw [show ((1 : Int)).toNat = 1 from rfl] at hx294_0)
          (try rw [show 1 * 2 = 2 from rfl] at hx294_0)
          (try rw [show ((1 : Int)).toNat = 1 from rfl] at hx294_1)
          (try rw [show 1 * 2 = 2 from rfl] at hx294_1)
          replace p294 := eq_true p294
          replace q294 := eq_true q294
          (try (obtain ⟨Ao45, co45, eo45⟩ := Kd.R_slice HO265.out; subst eo45))
          have p295 : 0 ≤ (2 : Int) := (by omega)
          have q295 : 2 < (t263.length : Int) := of_decide_eq_true qO
          obtain ⟨ad295, e295, hx295_0, hx295_1⟩ := at_T58 (Kd.R_reads' HO265.out).2.2 2 p295 q295
          obtain rfl : ad293 = ad295 := (by injection e295)
          (try simp only [show (2 : Int).toNat = 2 from rfl, Nat.reduceMul, Nat.reduceEqDiff, Go.Addr.add, ↓reduceIte] at hx295_0)
          (try simp only [show (2 : Int).toNat = 2 from rfl, Nat.reduceMul, Nat.reduceEqDiff, Go.Addr.add, ↓reduceIte] at hx295_1)
          have qi295 : (2 < t263.length) = True := eq_true (by omega)
          (try rw [show ((2 : Int)).toNat = 2 from rfl] at hx295_0)
          (try rw [show 2 * 2 = 4 from rfl] at hx295_0)
          (try rw [show ((2 : Int)).toNat = 2 from rfl] at hx295_1)
          (try rw [show 2 * 2 = 4 from rfl] at hx295_1)
          replace p295 := eq_true p295
          replace q295 := eq_true q295
          refine start_ (n := 40) (S := fun w' => w'.cell? ⟨gb268, 0, none⟩ = some (.int .i64 t266) ∧ w'.cell? ⟨gb268, 1, none⟩ = some (.int .i64 t267) ∧ w'.cell? ⟨gb286, 0, none⟩ = some (.int .i64 t284) ∧ w'.cell? ⟨gb286, 1, none⟩ = some (.int .i64 t285) ∧ w'.cell? ad293 = some (.int .i64 ((rd_T58 t263 0).f0)) ∧ w'.cell? ⟨ad293.block, ad293.off + 1, none⟩ = some (.int .i64 ((rd_T58 t263 0).f1)) ∧ w'.cell? ⟨ad293.block, ad293.off + 2, none⟩ = some (.int .i64 ((rd_T58 t263 1).f0)) ∧ w'.cell? ⟨ad293.block, ad293.off + 2 + 1, none⟩ = some (.int .i64 ((rd_T58 t263 1).f1)) ∧ w'.cell? ⟨ad293.block, ad293.off + 4, none⟩ = some (.int .i64 ((rd_T58 t263 2).f0)) ∧ w'.cell? ⟨ad293.block, ad293.off + 4 + 1, none⟩ = some (.int .i64 ((rd_T58 t263 2).f1))) (ds := []) #[false, false, false, false, false, false, false, false, false, false, false, false, false, false, false, false, false, false, false, false, false, false, false, false, false, false, false, false, false, false, false, false, false, false, false, false, false, false, false, false] (by kernel_rfl) rfl rfl ⟨(blk_cell BK268.out 0).trans rfl, (blk_cell BK268.out 1).trans rfl, (blk_cell BK286.out 0).trans rfl, (blk_cell BK286.out 1).trans rfl, hx293_0, hx293_1, hx294_0, hx294_1, hx295_0, hx295_1⟩ (fun hHeld => ?_); refine with_tabW law_placesItems.tab3 law_placesItems.bits3 (fun HT_ HW_ => ?_)
          generalize w35.drew = w36 at HO253 HO256 HO259 HO262 HO265 HO271 HO274 HO277 HO280 HO283 BK268 BK286 HB hx293_0 hx293_1 hx294_0 hx294_1 hx295_0 hx295_1 hHeld ⊢
          refine pure_ (i := 0) (N := some 25) (v := ?_) (a' := ?_) #[true, false, false, false, false, false, false, false, false, false, false, false, false, false, false, false, false, false, false, false, false, false, false, false, false, false, false, false, false, false, false, false, false, false, false, false, false, false, false, false] rfl rfl (any_of HT_.out (by kernel_rfl)) (fun _ _ _ h => h) (Or.inl ⟨by rfl, ?_⟩) ?_ ?_
          rotate_left
          ·intro w'
           go_simp
           with_reducible rfl
          rotate_left
          ·simp only [Act.put, List.setIfInBounds_toArray, List.set_cons_zero, List.set_cons_succ, i64_w, i32_w]
           rfl
          refine take_ (i := 1) (N := some 26) (v := ?_) (a' := ?_) #[true, true, false, false, false, false, false, false, false, false, false, false, false, false, false, false, false, false, false, false, false, false, false, false, false, false, false, false, false, false, false, false, false, false, false, false, false, false, false, false] rfl rfl (take_ofW HT_.out HW_.out (by kernel_rfl)) (fun _ _ _ h => h) (Or.inl ⟨by rfl, ?_⟩) hHeld ?_ ?_
          rotate_left
          ·rintro w' ⟨s0, s1, s2, s3, s4, s5, s6, s7, s8, s9⟩
           go_simp
           with_reducible rfl
          rotate_left
          ·simp only [Act.put, List.setIfInBounds_toArray, List.set_cons_zero, List.set_cons_succ, i64_w, i32_w]
           rfl
          refine pure_ (i := 2) (N := some 27) (v := ?_) (a' := ?_) #[true, true, true, false, false, false, false, false, false, false, false, false, false, false, false, false, false, false, false, false, false, false, false, false, false, false, false, false, false, false, false, false, false, false, false, false, false, false, false, false] rfl rfl (any_of HT_.out (by kernel_rfl)) (fun _ _ _ h => h) (Or.inl ⟨by rfl, ?_⟩) ?_ ?_
          rotate_left
          ·intro w'
           go_simp
           with_reducible rfl
          rotate_left
          ·simp only [Act.put, List.setIfInBounds_toArray, List.set_cons_zero, List.set_cons_succ, i64_w, i32_w]
           rfl
          refine pure_ (i := 3) (N := some 28) (v := ?_) (a' := ?_) #[true, true, true, true, false, false, false, false, false, false, false, false, false, false, false, false, false, false, false, false, false, false, false, false, false, false, false, false, false, false, false, false, false, false, false, false, false, false, false, false] rfl rfl (any_of HT_.out (by kernel_rfl)) (fun _ _ _ h => h) (Or.inl ⟨by rfl, ?_⟩) ?_ ?_
          rotate_left
          ·intro w'
           go_simp
           with_reducible rfl
          rotate_left
          ·simp only [Act.put, List.setIfInBounds_toArray, List.set_cons_zero, List.set_cons_succ, i64_w, i32_w]
           rfl
          refine take_ (i := 4) (N := some 29) (v := ?_) (a' := ?_) #[true, true, true, true, true, false, false, false, false, false, false, false, false, false, false, false, false, false, false, false, false, false, false, false, false, false, false, false, false, false, false, false, false, false, false, false, false, false, false, false] rfl rfl (take_ofW HT_.out HW_.out (by kernel_rfl)) (fun _ _ _ h => h) (Or.inl ⟨by rfl, ?_⟩) hHeld ?_ ?_
          rotate_left
          ·rintro w' ⟨s0, s1, s2, s3, s4, s5, s6, s7, s8, s9⟩
           go_simp
           with_reducible rfl
          rotate_left
          ·simp only [Act.put, List.setIfInBounds_toArray, List.set_cons_zero, List.set_cons_succ, i64_w, i32_w]
           rfl
          refine one_ (i := 5) (N := some 30) #[true, true, true, true, true, true, false, false, false, false, false, false, false, false, false, false, false, false, false, false, false, false, false, false, false, false, false, false, false, false, false, false, false, false, false, false, false, false, false, false] rfl rfl (one_of HT_.out (by kernel_rfl)) (by decide) (fun K hK => ?_)
          refine goes_ Try.func14 (by kernel_rfl) rfl #[.int .i64 3, .int .i64 (-100)] (by rfl) rfl rfl qA ?_
          with_reducible refine (ref_At.calls 3 (-100) t287 t288 _ A6.out).mono ?_
          rintro e w37 ⟨rfl, hb⟩
          have HS4_ := (hb.cell (World.block_lt_of_cell? _ _ (hHeld.2.2.2.2.1))).trans (hHeld.2.2.2.2.1)
          have HS5_ := (hb.cell (World.block_lt_of_cell? _ _ (hHeld.2.2.2.2.2.1))).trans (hHeld.2.2.2.2.2.1)
          have HS6_ := (hb.cell (World.block_lt_of_cell? _ _ (hHeld.2.2.2.2.2.2.1))).trans (hHeld.2.2.2.2.2.2.1)
          have HS7_ := (hb.cell (World.block_lt_of_cell? _ _ (hHeld.2.2.2.2.2.2.2.1))).trans (hHeld.2.2.2.2.2.2.2.1)
          have HS8_ := (hb.cell (World.block_lt_of_cell? _ _ (hHeld.2.2.2.2.2.2.2.2.1))).trans (hHeld.2.2.2.2.2.2.2.2.1)
          have HS9_ := (hb.cell (World.block_lt_of_cell? _ _ (hHeld.2.2.2.2.2.2.2.2.2))).trans (hHeld.2.2.2.2.2.2.2.2.2)
          refine ⟨_, rfl, ?_⟩
          have n0_ := Aside0.mk (Kd.R_below (qR HO253) hb)
          have n1_ := Aside0.mk (Kd.R_below (qR HO256) hb)
          have n2_ := Aside0.mk (Kd.R_below (qR HO259) hb)
          have n3_ := Aside0.mk (Kd.R_below (qR HO262) hb)
          have n4_ := Aside0.mk (Kd.R_below (qR HO265) hb)
          have n5_ := Aside0.mk (Kd.R_below (qR HO271) hb)
          have n6_ := Aside0.mk (Kd.R_below (qR HO274) hb)
          have n7_ := Aside0.mk (Kd.R_below (qR HO277) hb)
          have n8_ := Aside0.mk (Kd.R_below (qR HO280) hb)
          have n9_ := Aside0.mk (Kd.R_below (qR HO283) hb)
          have n10_ := Aside0.mk (blk_below (g := gb268) (o := .cells #[.int .i64 t266, .int .i64 t267] 26 (0, 0)) (qK BK268) hb)
          have n11_ := Aside0.mk (blk_below (g := gb286) (o := .cells #[.int .i64 t284, .int .i64 t285] 26 (0, 0)) (qK BK286) hb)
          have n12_ := Aside0.mk (below_step qB hb)
          clear HO253
          clear HO256
          clear HO259
          clear HO262
          clear HO265
          clear HO271
          clear HO274
          clear HO277
          clear HO280
          clear HO283
          clear BK268
          clear BK286
          clear HB
          have HO253 := n0_
          have HO256 := n1_
          have HO259 := n2_
          have HO262 := n3_
          have HO265 := n4_
          have HO271 := n5_
          have HO274 := n6_
          have HO277 := n7_
          have HO280 := n8_
          have HO283 := n9_
          have BK268 := n10_
          have BK286 := n11_
          have HB := n12_
          clear n0_ n1_ n2_ n3_ n4_ n5_ n6_ n7_ n8_ n9_ n10_ n11_ n12_
          (try clear hb)
          (try clear hb2)
          (try clear hk)
          (try clear hi)
          refine hK.out _ _ ⟨(blk_cell BK268.out 0).trans rfl, (blk_cell BK268.out 1).trans rfl, (blk_cell BK286.out 0).trans rfl, (blk_cell BK286.out 1).trans rfl, HS4_, HS5_, HS6_, HS7_, HS8_, HS9_⟩ (fun hHeld => ?_)
          clear hK K
          refine norm_ (a' := ?_) ?_ ?_
          rotate_left
          ·show Act.put _ (some 30) _ = _
           simp only [Act.put, List.setIfInBounds_toArray, List.set_cons_zero, List.set_cons_succ, i64_w, i32_w]
           rfl
          refine pure_ (i := 6) (N := some 31) (v := ?_) (a' := ?_) #[true, true, true, true, true, true, true, false, false, false, false, false, false, false, false, false, false, false, false, false, false, false, false, false, false, false, false, false, false, false, false, false, false, false, false, false, false, false, false, false] rfl rfl (any_of HT_.out (by kernel_rfl)) (fun _ _ _ h => h) (Or.inl ⟨by rfl, ?_⟩) ?_ ?_
          rotate_left
          ·intro w'
           go_simp
           with_reducible rfl
          rotate_left
          ·simp only [Act.put, List.setIfInBounds_toArray, List.set_cons_zero, List.set_cons_succ, i64_w, i32_w]
           rfl
          refine pure_ (i := 7) (N := some 32) (v := ?_) (a' := ?_) #[true, true, true, true, true, true, true, true, false, false, false, false, false, false, false, false, false, false, false, false, false, false, false, false, false, false, false, false, false, false, false, false, false, false, false, false, false, false, false, false] rfl rfl (any_of HT_.out (by kernel_rfl)) (fun _ _ _ h => h) (Or.inl ⟨by rfl, ?_⟩) ?_ ?_
          rotate_left
          ·intro w'
           go_simp
           with_reducible rfl
          rotate_left
          ·simp only [Act.put, List.setIfInBounds_toArray, List.set_cons_zero, List.set_cons_succ, i64_w, i32_w]
           rfl
          refine pure_ (i := 8) (N := some 33) (v := ?_) (a' := ?_) #[true, true, true, true, true, true, true, true, true, false, false, false, false, false, false, false, false, false, false, false, false, false, false, false, false, false, false, false, false, false, false, false, false, false, false, false, false, false, false, false] rfl rfl (any_of HT_.out (by kernel_rfl)) (fun _ _ _ h => h) (Or.inl ⟨by rfl, ?_⟩) ?_ ?_
          rotate_left
          ·intro w'
           go_simp
           with_reducible rfl
          rotate_left
          ·simp only [Act.put, List.setIfInBounds_toArray, List.set_cons_zero, List.set_cons_succ, i64_w, i32_w]
           rfl
          refine pure_ (i := 9) (N := some 34) (v := ?_) (a' := ?_) #[true, true, true, true, true, true, true, true, true, true, false, false, false, false, false, false, false, false, false, false, false, false, false, false, false, false, false, false, false, false, false, false, false, false, false, false, false, false, false, false] rfl rfl (any_of HT_.out (by kernel_rfl)) (fun _ _ _ h => h) (Or.inl ⟨by rfl, ?_⟩) ?_ ?_
          rotate_left
          ·intro w'
           go_simp
           with_reducible rfl
          rotate_left
          ·simp only [Act.put, List.setIfInBounds_toArray, List.set_cons_zero, List.set_cons_succ, i64_w, i32_w]
           rfl
          refine one_ (i := 10) (N := some 35) #[true, true, true, true, true, true, true, true, true, true, true, false, false, false, false, false, false, false, false, false, false, false, false, false, false, false, false, false, false, false, false, false, false, false, false, false, false, false, false, false] rfl rfl (one_of HT_.out (by kernel_rfl)) (by decide) (fun K hK => ?_)
          refine Kd.R_lit_step (Kd.int .i64) _ 3 ?hg (N := 35) ?hd (xs := ([256, 260, 512] : List Int)) (inner := [.int .i64 256, .int .i64 260, .int .i64 512]) (ok := fun _ => True) (okp := fun _ => True) ?hr ?hp (fun _ hk => hk) trivial (Below.refl _ _) (Nat.le_refl _) (by simp) ?_; (case hd => rfl); (case hg => rfl); (case hr => first | (go_simp; done) | (go_simp; rfl)); (case hp => exact (Reps.one (show Kd.M (Kd.int .i64) _ _ _ 256 [.int .i64 256] from rfl) (Reps.one (show Kd.M (Kd.int .i64) _ _ _ 260 [.int .i64 260] from rfl) (Reps.one (show Kd.M (Kd.int .i64) _ _ _ 512 [.int .i64 512] from rfl) (Reps.none _ _)))))
          intro v290 w38 ho39 hb hg_ hnew_
          have HS4_ := (hb.cell (World.block_lt_of_cell? _ _ (hHeld.2.2.2.2.1))).trans (hHeld.2.2.2.2.1)
          have HS5_ := (hb.cell (World.block_lt_of_cell? _ _ (hHeld.2.2.2.2.2.1))).trans (hHeld.2.2.2.2.2.1)
          have HS6_ := (hb.cell (World.block_lt_of_cell? _ _ (hHeld.2.2.2.2.2.2.1))).trans (hHeld.2.2.2.2.2.2.1)
          have HS7_ := (hb.cell (World.block_lt_of_cell? _ _ (hHeld.2.2.2.2.2.2.2.1))).trans (hHeld.2.2.2.2.2.2.2.1)
          have HS8_ := (hb.cell (World.block_lt_of_cell? _ _ (hHeld.2.2.2.2.2.2.2.2.1))).trans (hHeld.2.2.2.2.2.2.2.2.1)
          have HS9_ := (hb.cell (World.block_lt_of_cell? _ _ (hHeld.2.2.2.2.2.2.2.2.2))).trans (hHeld.2.2.2.2.2.2.2.2.2)
          clear hg_ hnew_
          (first | rw [← Ny289.out] at ho39 | (simp only [Int.reduceToNat] at ho39; rw [← Ny289.out] at ho39))
          have n0_ := Aside0.mk (Kd.R_below (qR HO253) hb)
          have n1_ := Aside0.mk (Kd.R_below (qR HO256) hb)
          have n2_ := Aside0.mk (Kd.R_below (qR HO259) hb)
          have n3_ := Aside0.mk (Kd.R_elder' (qR HO262) (Kd.R_base ho39) hb)
          have n4_ := Aside0.mk (Kd.R_below (qR HO265) hb)
          have n5_ := Aside0.mk (Kd.R_below (qR HO271) hb)
          have n6_ := Aside0.mk (Kd.R_below (qR HO274) hb)
          have n7_ := Aside0.mk (Kd.R_below (qR HO277) hb)
          have n8_ := Aside0.mk (Kd.R_elder' (qR HO280) (Kd.R_base ho39) hb)
          have n9_ := Aside0.mk (Kd.R_below (qR HO283) hb)
          have n10_ := Aside0.mk (Kd.R_lower (Kd.R_new' (Kd.R_new' ho39 (Kd.R_lt (qR HO262))) (Kd.R_lt (qR HO280))) (below_size qB))
          have n11_ := Aside0.mk (blk_below (g := gb268) (o := .cells #[.int .i64 t266, .int .i64 t267] 26 (0, 0)) (qK BK268) hb)
          have n12_ := Aside0.mk (blk_below (g := gb286) (o := .cells #[.int .i64 t284, .int .i64 t285] 26 (0, 0)) (qK BK286) hb)
          have n13_ := Aside0.mk (below_step qB hb)
          clear HO253
          clear HO256
          clear HO259
          clear HO262
          clear HO265
          clear HO271
          clear HO274
          clear HO277
          clear HO280
          clear HO283
          clear BK268
          clear BK286
          clear HB
          have HO253 := n0_
          have HO256 := n1_
          have HO259 := n2_
          have HO262 := n3_
          have HO265 := n4_
          have HO271 := n5_
          have HO274 := n6_
          have HO277 := n7_
          have HO280 := n8_
          have HO283 := n9_
          have HO291 := n10_
          have BK268 := n11_
          have BK286 := n12_
          have HB := n13_
          clear n0_ n1_ n2_ n3_ n4_ n5_ n6_ n7_ n8_ n9_ n10_ n11_ n12_ n13_
          clear hb ho39
          obtain ⟨Ao40, co40, eo40⟩ := Kd.R_slice HO262.out
          (first | subst eo40 | (injection eo40 with f1_ f2_ f3_; have f4_ := f1_.symm; have f5_ := f3_.symm; clear f1_ f2_ f3_; subst f4_; subst f5_))
          obtain ⟨Ao41, co41, eo41⟩ := Kd.R_slice HO291.out
          (first | subst eo41 | (injection eo41 with f1_ f2_ f3_; have f4_ := f1_.symm; have f5_ := f3_.symm; clear f1_ f2_ f3_; subst f4_; subst f5_))
          refine hK.out _ _ ⟨(blk_cell BK268.out 0).trans rfl, (blk_cell BK268.out 1).trans rfl, (blk_cell BK286.out 0).trans rfl, (blk_cell BK286.out 1).trans rfl, HS4_, HS5_, HS6_, HS7_, HS8_, HS9_⟩ (fun hHeld => ?_)
          clear hK K
          refine norm_ (a' := ?_) ?_ ?_
          rotate_left
          ·show Act.put _ (some 35) _ = _
           simp only [Act.put, List.setIfInBounds_toArray, List.set_cons_zero, List.set_cons_succ, i64_w, i32_w]
           rfl
          refine one_ (i := 11) (N := some 36) #[true, true, true, true, true, true, true, true, true, true, true, true, false, false, false, false, false, false, false, false, false, false, false, false, false, false, false, false, false, false, false, false, false, false, false, false, false, false, false, false] rfl rfl (one_of HT_.out (by kernel_rfl)) (by decide) (fun K hK => ?_)
          refine goes_ Try.func25 (by kernel_rfl) rfl #[.slice Ao40 t260.length co40, .slice Ao41 y289.length co41] (by rfl) rfl rfl qA ?_
          with_reducible refine (law_ints.calls k _ _ t260 _ _ y289 true _ ?side1 ?side2 ?side3 ?side4 A8.out).mono ?_
          (case side1 => repeat (first | exact (Kd.R_reads' HO262.out).2.2 | (with_reducible refine Kd.C_alloc ?_ _) | (with_reducible refine Kd.C_drewN ?_ _) | (with_reducible refine Kd.C_drew ?_)))
          (case side2 => exact (Kd.R_reads' HO262.out).2.1)
          (case side3 => repeat (first | exact (Kd.R_reads' HO291.out).2.2 | (with_reducible refine Kd.C_alloc ?_ _) | (with_reducible refine Kd.C_drewN ?_ _) | (with_reducible refine Kd.C_drew ?_)))
          (case side4 => exact (Kd.R_reads' HO291.out).2.1)
          rintro e w' ⟨rfl, ⟨nd, rfl⟩⟩
          refine ⟨_, rfl, ?_⟩
          obtain ⟨Ao42, co42, eo42⟩ := Kd.R_slice HO265.out
          (first | subst eo42 | (injection eo42 with f1_ f2_ f3_; have f4_ := f1_.symm; have f5_ := f3_.symm; clear f1_ f2_ f3_; subst f4_; subst f5_))
          refine hK.out _ _ ⟨(blk_cell BK268.out 0).trans rfl, (blk_cell BK268.out 1).trans rfl, (blk_cell BK286.out 0).trans rfl, (blk_cell BK286.out 1).trans rfl, hHeld.2.2.2.2.1, hHeld.2.2.2.2.2.1, hHeld.2.2.2.2.2.2.1, hHeld.2.2.2.2.2.2.2.1, hHeld.2.2.2.2.2.2.2.2.1, hHeld.2.2.2.2.2.2.2.2.2⟩ (fun hHeld => ?_)
          clear hK K
          refine norm_ (a' := ?_) ?_ ?_
          rotate_left
          ·show Act.put _ (some 36) _ = _
           simp only [Act.put, List.setIfInBounds_toArray, List.set_cons_zero, List.set_cons_succ, i64_w, i32_w]
           rfl
          refine pure_ (i := 12) (N := some 37) (v := ?_) (a' := ?_) #[true, true, true, true, true, true, true, true, true, true, true, true, true, false, false, false, false, false, false, false, false, false, false, false, false, false, false, false, false, false, false, false, false, false, false, false, false, false, false, false] rfl rfl (any_of HT_.out (by kernel_rfl)) (fun _ _ _ h => h) (Or.inl ⟨by rfl, ?_⟩) ?_ ?_
          rotate_left
          ·intro w'
           go_simp
           with_reducible rfl
          rotate_left
          ·simp only [Act.put, List.setIfInBounds_toArray, List.set_cons_zero, List.set_cons_succ, i64_w, i32_w]
           rfl
          refine pure_ (i := 13) (N := some 38) (v := ?_) (a' := ?_) #[true, true, true, true, true, true, true, true, true, true, true, true, true, true, false, false, false, false, false, false, false, false, false, false, false, false, false, false, false, false, false, false, false, false, false, false, false, false, false, false] rfl rfl (any_of HT_.out (by kernel_rfl)) (fun _ _ _ h => h) (Or.inl ⟨by rfl, ?_⟩) ?_ ?_
          rotate_left
          ·intro w'
           go_simp
           with_reducible rfl
          rotate_left
          ·simp only [Act.put, List.setIfInBounds_toArray, List.set_cons_zero, List.set_cons_succ, i64_w, i32_w]
           rfl
          refine pure_ (i := 14) (N := some 39) (v := ?_) (a' := ?_) #[true, true, true, true, true, true, true, true, true, true, true, true, true, true, true, false, false, false, false, false, false, false, false, false, false, false, false, false, false, false, false, false, false, false, false, false, false, false, false, false] rfl rfl (any_of HT_.out (by kernel_rfl)) (fun _ _ _ h => h) (Or.inl ⟨by rfl, ?_⟩) ?_ ?_
          rotate_left
          ·intro w'
           go_simp
           with_reducible rfl
          rotate_left
          ·simp only [Act.put, List.setIfInBounds_toArray, List.set_cons_zero, List.set_cons_succ, i64_w, i32_w]
           rfl
          refine pure_ (i := 15) (N := some 40) (v := ?_) (a' := ?_) #[true, true, true, true, true, true, true, true, true, true, true, true, true, true, true, true, false, false, false, false, false, false, false, false, false, false, false, false, false, false, false, false, false, false, false, false, false, false, false, false] rfl rfl (any_of HT_.out (by kernel_rfl)) (fun _ _ _ h => h) (Or.inl ⟨by rfl, ?_⟩) ?_ ?_
          rotate_left
          ·intro w'
           go_simp
           with_reducible rfl
          rotate_left
          ·simp only [Act.put, List.setIfInBounds_toArray, List.set_cons_zero, List.set_cons_succ, i64_w, i32_w]
           rfl
          refine pure_ (i := 16) (N := some 41) (v := ?_) (a' := ?_) #[true, true, true, true, true, true, true, true, true, true, true, true, true, true, true, true, true, false, false, false, false, false, false, false, false, false, false, false, false, false, false, false, false, false, false, false, false, false, false, false] rfl rfl (any_of HT_.out (by kernel_rfl)) (fun _ _ _ h => h) (Or.inl ⟨by rfl, ?_⟩) ?_ ?_
          rotate_left
          ·intro w'
           go_simp
           with_reducible rfl
          rotate_left
          ·simp only [Act.put, List.setIfInBounds_toArray, List.set_cons_zero, List.set_cons_succ, i64_w, i32_w]
           rfl
          refine pure_ (i := 17) (N := some 42) (v := ?_) (a' := ?_) #[true, true, true, true, true, true, true, true, true, true, true, true, true, true, true, true, true, true, false, false, false, false, false, false, false, false, false, false, false, false, false, false, false, false, false, false, false, false, false, false] rfl rfl (any_of HT_.out (by kernel_rfl)) (fun _ _ _ h => h) (Or.inl ⟨by rfl, ?_⟩) ?_ ?_
          rotate_left
          ·intro w'
           go_simp
           with_reducible rfl
          rotate_left
          ·simp only [Act.put, List.setIfInBounds_toArray, List.set_cons_zero, List.set_cons_succ, i64_w, i32_w]
           rfl
          refine pure_ (i := 18) (N := some 43) (v := ?_) (a' := ?_) #[true, true, true, true, true, true, true, true, true, true, true, true, true, true, true, true, true, true, true, false, false, false, false, false, false, false, false, false, false, false, false, false, false, false, false, false, false, false, false, false] rfl rfl (any_of HT_.out (by kernel_rfl)) (fun _ _ _ h => h) (Or.inl ⟨by rfl, ?_⟩) ?_ ?_
          rotate_left
          ·intro w'
           go_simp
           with_reducible rfl
          rotate_left
          ·simp only [Act.put, List.setIfInBounds_toArray, List.set_cons_zero, List.set_cons_succ, i64_w, i32_w]
           rfl
          refine pure_ (i := 19) (N := some 44) (v := ?_) (a' := ?_) #[true, true, true, true, true, true, true, true, true, true, true, true, true, true, true, true, true, true, true, true, false, false, false, false, false, false, false, false, false, false, false, false, false, false, false, false, false, false, false, false] rfl rfl (any_of HT_.out (by kernel_rfl)) (fun _ _ _ h => h) (Or.inl ⟨by rfl, ?_⟩) ?_ ?_
          rotate_left
          ·intro w'
           go_simp
           with_reducible rfl
          rotate_left
          ·simp only [Act.put, List.setIfInBounds_toArray, List.set_cons_zero, List.set_cons_succ, i64_w, i32_w]
           rfl
          refine pure_ (i := 20) (N := some 45) (v := ?_) (a' := ?_) #[true, true, true, true, true, true, true, true, true, true, true, true, true, true, true, true, true, true, true, true, true, false, false, false, false, false, false, false, false, false, false, false, false, false, false, false, false, false, false, false] rfl rfl (any_of HT_.out (by kernel_rfl)) (fun _ _ _ h => h) (Or.inl ⟨by rfl, ?_⟩) ?_ ?_
          rotate_left
          ·intro w'
           go_simp
           with_reducible rfl
          rotate_left
          ·simp only [Act.put, List.setIfInBounds_toArray, List.set_cons_zero, List.set_cons_succ, i64_w, i32_w]
           rfl
          refine pure_ (i := 22) (N := some 47) (v := ?_) (a' := ?_) #[true, true, true, true, true, true, true, true, true, true, true, true, true, true, true, true, true, true, true, true, true, false, true, false, false, false, false, false, false, false, false, false, false, false, false, false, false, false, false, false] rfl rfl (any_of HT_.out (by kernel_rfl)) (fun _ _ _ h => h) (Or.inl ⟨by rfl, ?_⟩) ?_ ?_
          rotate_left
          ·intro w'
           go_simp
           with_reducible rfl
          rotate_left
          ·simp only [Act.put, List.setIfInBounds_toArray, List.set_cons_zero, List.set_cons_succ, i64_w, i32_w]
           rfl
          refine take_ (i := 21) (N := some 46) (v := ?_) (a' := ?_) #[true, true, true, true, true, true, true, true, true, true, true, true, true, true, true, true, true, true, true, true, true, true, true, false, false, false, false, false, false, false, false, false, false, false, false, false, false, false, false, false] rfl rfl (take_ofW HT_.out HW_.out (by kernel_rfl)) (fun _ _ _ h => h) (Or.inl ⟨by rfl, ?_⟩) hHeld ?_ ?_
          rotate_left
          ·rintro w' ⟨s0, s1, s2, s3, s4, s5, s6, s7, s8, s9⟩
           go_simp
           with_reducible rfl
          rotate_left
          ·simp only [Act.put, List.setIfInBounds_toArray, List.set_cons_zero, List.set_cons_succ, i64_w, i32_w]
           rfl
          refine pure_ (i := 23) (N := some 48) (v := ?_) (a' := ?_) #[true, true, true, true, true, true, true, true, true, true, true, true, true, true, true, true, true, true, true, true, true, true, true, true, false, false, false, false, false, false, false, false, false, false, false, false, false, false, false, false] rfl rfl (any_of HT_.out (by kernel_rfl)) (fun _ _ _ h => h) (Or.inl ⟨by rfl, ?_⟩) ?_ ?_
          rotate_left
          ·intro w'
           go_simp
           with_reducible rfl
          rotate_left
          ·simp only [Act.put, List.setIfInBounds_toArray, List.set_cons_zero, List.set_cons_succ, i64_w, i32_w]
           rfl
          refine pure_ (i := 24) (N := some 49) (v := ?_) (a' := ?_) #[true, true, true, true, true, true, true, true, true, true, true, true, true, true, true, true, true, true, true, true, true, true, true, true, true, false, false, false, false, false, false, false, false, false, false, false, false, false, false, false] rfl rfl (any_of HT_.out (by kernel_rfl)) (fun _ _ _ h => h) (Or.inl ⟨by rfl, ?_⟩) ?_ ?_
          rotate_left
          ·intro w'
           go_simp
           with_reducible rfl
          rotate_left
          ·simp only [Act.put, List.setIfInBounds_toArray, List.set_cons_zero, List.set_cons_succ, i64_w, i32_w]
           rfl
          refine pure_ (i := 25) (N := some 50) (v := ?_) (a' := ?_) #[true, true, true, true, true, true, true, true, true, true, true, true, true, true, true, true, true, true, true, true, true, true, true, true, true, true, false, false, false, false, false, false, false, false, false, false, false, false, false, false] rfl rfl (any_of HT_.out (by kernel_rfl)) (fun _ _ _ h => h) (Or.inl ⟨by rfl, ?_⟩) ?_ ?_
          rotate_left
          ·intro w'
           go_simp
           with_reducible rfl
          rotate_left
          ·simp only [Act.put, List.setIfInBounds_toArray, List.set_cons_zero, List.set_cons_succ, i64_w, i32_w]
           rfl
          refine pure_ (i := 26) (N := some 51) (v := ?_) (a' := ?_) #[true, true, true, true, true, true, true, true, true, true, true, true, true, true, true, true, true, true, true, true, true, true, true, true, true, true, true, false, false, false, false, false, false, false, false, false, false, false, false, false] rfl rfl (any_of HT_.out (by kernel_rfl)) (fun _ _ _ h => h) (Or.inl ⟨by rfl, ?_⟩) ?_ ?_
          rotate_left
          ·intro w'
           go_simp
           with_reducible rfl
          rotate_left
          ·simp only [Act.put, List.setIfInBounds_toArray, List.set_cons_zero, List.set_cons_succ, i64_w, i32_w]
           rfl
          refine pure_ (i := 27) (N := some 52) (v := ?_) (a' := ?_) #[true, true, true, true, true, true, true, true, true, true, true, true, true, true, true, true, true, true, true, true, true, true, true, true, true, true, true, true, false, false, false, false, false, false, false, false, false, false, false, false] rfl rfl (any_of HT_.out (by kernel_rfl)) (fun _ _ _ h => h) (Or.inl ⟨by rfl, ?_⟩) ?_ ?_
          rotate_left
          ·intro w'
           go_simp
           with_reducible rfl
          rotate_left
          ·simp only [Act.put, List.setIfInBounds_toArray, List.set_cons_zero, List.set_cons_succ, i64_w, i32_w]
           rfl
          refine pure_ (i := 29) (N := some 54) (v := ?_) (a' := ?_) #[true, true, true, true, true, true, true, true, true, true, true, true, true, true, true, true, true, true, true, true, true, true, true, true, true, true, true, true, false, true, false, false, false, false, false, false, false, false, false, false] rfl rfl (any_of HT_.out (by kernel_rfl)) (fun _ _ _ h => h) (Or.inl ⟨by rfl, ?_⟩) ?_ ?_
          rotate_left
          ·intro w'
           go_simp
           with_reducible rfl
          rotate_left
          ·simp only [Act.put, List.setIfInBounds_toArray, List.set_cons_zero, List.set_cons_succ, i64_w, i32_w]
           rfl
          refine take_ (i := 28) (N := some 53) (v := ?_) (a' := ?_) #[true, true, true, true, true, true, true, true, true, true, true, true, true, true, true, true, true, true, true, true, true, true, true, true, true, true, true, true, true, true, false, false, false, false, false, false, false, false, false, false] rfl rfl (take_ofW HT_.out HW_.out (by kernel_rfl)) (fun _ _ _ h => h) (Or.inl ⟨by rfl, ?_⟩) hHeld ?_ ?_
          rotate_left
          ·rintro w' ⟨s0, s1, s2, s3, s4, s5, s6, s7, s8, s9⟩
           go_simp
           with_reducible rfl
          rotate_left
          ·simp only [Act.put, List.setIfInBounds_toArray, List.set_cons_zero, List.set_cons_succ, i64_w, i32_w]
           rfl
          refine pure_ (i := 30) (N := some 55) (v := ?_) (a' := ?_) #[true, true, true, true, true, true, true, true, true, true, true, true, true, true, true, true, true, true, true, true, true, true, true, true, true, true, true, true, true, true, true, false, false, false, false, false, false, false, false, false] rfl rfl (any_of HT_.out (by kernel_rfl)) (fun _ _ _ h => h) (Or.inl ⟨by rfl, ?_⟩) ?_ ?_
          rotate_left
          ·intro w'
           go_simp
           with_reducible rfl
          rotate_left
          ·simp only [Act.put, List.setIfInBounds_toArray, List.set_cons_zero, List.set_cons_succ, i64_w, i32_w]
           rfl
          refine pure_ (i := 31) (N := some 56) (v := ?_) (a' := ?_) #[true, true, true, true, true, true, true, true, true, true, true, true, true, true, true, true, true, true, true, true, true, true, true, true, true, true, true, true, true, true, true, true, false, false, false, false, false, false, false, false] rfl rfl (any_of HT_.out (by kernel_rfl)) (fun _ _ _ h => h) (Or.inl ⟨by rfl, ?_⟩) ?_ ?_
          rotate_left
          ·intro w'
           go_simp
           with_reducible rfl
          rotate_left
          ·simp only [Act.put, List.setIfInBounds_toArray, List.set_cons_zero, List.set_cons_succ, i64_w, i32_w]
           rfl
          refine pure_ (i := 32) (N := some 57) (v := ?_) (a' := ?_) #[true, true, true, true, true, true, true, true, true, true, true, true, true, true, true, true, true, true, true, true, true, true, true, true, true, true, true, true, true, true, true, true, true, false, false, false, false, false, false, false] rfl rfl (any_of HT_.out (by kernel_rfl)) (fun _ _ _ h => h) (Or.inl ⟨by rfl, ?_⟩) ?_ ?_
          rotate_left
          ·intro w'
           go_simp
           with_reducible rfl
          rotate_left
          ·simp only [Act.put, List.setIfInBounds_toArray, List.set_cons_zero, List.set_cons_succ, i64_w, i32_w]
           rfl
          refine pure_ (i := 33) (N := some 58) (v := ?_) (a' := ?_) #[true, true, true, true, true, true, true, true, true, true, true, true, true, true, true, true, true, true, true, true, true, true, true, true, true, true, true, true, true, true, true, true, true, true, false, false, false, false, false, false] rfl rfl (any_of HT_.out (by kernel_rfl)) (fun _ _ _ h => h) (Or.inl ⟨by rfl, ?_⟩) ?_ ?_
          rotate_left
          ·intro w'
           go_simp
           with_reducible rfl
          rotate_left
          ·simp only [Act.put, List.setIfInBounds_toArray, List.set_cons_zero, List.set_cons_succ, i64_w, i32_w]
           rfl
          refine pure_ (i := 34) (N := some 59) (v := ?_) (a' := ?_) #[true, true, true, true, true, true, true, true, true, true, true, true, true, true, true, true, true, true, true, true, true, true, true, true, true, true, true, true, true, true, true, true, true, true, true, false, false, false, false, false] rfl rfl (any_of HT_.out (by kernel_rfl)) (fun _ _ _ h => h) (Or.inl ⟨by rfl, ?_⟩) ?_ ?_
          rotate_left
          ·intro w'
           go_simp
           with_reducible rfl
          rotate_left
          ·simp only [Act.put, List.setIfInBounds_toArray, List.set_cons_zero, List.set_cons_succ, i64_w, i32_w]
           rfl
          refine pure_ (i := 36) (N := some 61) (v := ?_) (a' := ?_) #[true, true, true, true, true, true, true, true, true, true, true, true, true, true, true, true, true, true, true, true, true, true, true, true, true, true, true, true, true, true, true, true, true, true, true, false, true, false, false, false] rfl rfl (any_of HT_.out (by kernel_rfl)) (fun _ _ _ h => h) (Or.inl ⟨by rfl, ?_⟩) ?_ ?_
          rotate_left
          ·intro w'
           go_simp
           with_reducible rfl
          rotate_left
          ·simp only [Act.put, List.setIfInBounds_toArray, List.set_cons_zero, List.set_cons_succ, i64_w, i32_w]
           rfl
          refine take_ (i := 35) (N := some 60) (v := ?_) (a' := ?_) #[true, true, true, true, true, true, true, true, true, true, true, true, true, true, true, true, true, true, true, true, true, true, true, true, true, true, true, true, true, true, true, true, true, true, true, true, true, false, false, false] rfl rfl (take_ofW HT_.out HW_.out (by kernel_rfl)) (fun _ _ _ h => h) (Or.inl ⟨by rfl, ?_⟩) hHeld ?_ ?_
          rotate_left
          ·rintro w' ⟨s0, s1, s2, s3, s4, s5, s6, s7, s8, s9⟩
           go_simp
           with_reducible rfl
          rotate_left
          ·simp only [Act.put, List.setIfInBounds_toArray, List.set_cons_zero, List.set_cons_succ, i64_w, i32_w]
           rfl
          refine pure_ (i := 37) (N := some 62) (v := ?_) (a' := ?_) #[true, true, true, true, true, true, true, true, true, true, true, true, true, true, true, true, true, true, true, true, true, true, true, true, true, true, true, true, true, true, true, true, true, true, true, true, true, true, false, false] rfl rfl (any_of HT_.out (by kernel_rfl)) (fun _ _ _ h => h) (Or.inl ⟨by rfl, ?_⟩) ?_ ?_
          rotate_left
          ·intro w'
           go_simp
           with_reducible rfl
          rotate_left
          ·simp only [Act.put, List.setIfInBounds_toArray, List.set_cons_zero, List.set_cons_succ, i64_w, i32_w]
           rfl
          refine pure_ (i := 38) (N := some 63) (v := ?_) (a' := ?_) #[true, true, true, true, true, true, true, true, true, true, true, true, true, true, true, true, true, true, true, true, true, true, true, true, true, true, true, true, true, true, true, true, true, true, true, true, true, true, true, false] rfl rfl (any_of HT_.out (by kernel_rfl)) (fun _ _ _ h => h) (Or.inl ⟨by rfl, ?_⟩) ?_ ?_
          rotate_left
          ·intro w'
           go_simp
           with_reducible rfl
          rotate_left
          ·simp only [Act.put, List.setIfInBounds_toArray, List.set_cons_zero, List.set_cons_succ, i64_w, i32_w]
           rfl
          refine pure_ (i := 39) (N := some 0) (v := ?_) (a' := ?_) #[true, true, true, true, true, true, true, true, true, true, true, true, true, true, true, true, true, true, true, true, true, true, true, true, true, true, true, true, true, true, true, true, true, true, true, true, true, true, true, true] rfl rfl (any_of HT_.out (by kernel_rfl)) (fun _ _ _ h => h) (Or.inl ⟨by rfl, ?_⟩) ?_ ?_
          rotate_left
          ·intro w'
           go_simp
           with_reducible rfl
          rotate_left
          ·simp only [Act.put, List.setIfInBounds_toArray, List.set_cons_zero, List.set_cons_succ, i64_w, i32_w]
           rfl
          refine done_ (done_of HT_.out (by kernel_rfl)) ?_
          try go_wp2
          go_ret
          exact ⟨qE, qB⟩
         ·rw [if_neg c15] at H
          exact absurd H (by simp)
        ·rw [if_neg c14] at H
         have c14b0 : (((rd_T58 t263 1).f0) == 512 && (((rd_T58 t263 1).f1) == 0)) = false := by simpa using c14
         (try (have c14b1 : decide (((rd_T58 t263 1).f0) = 512 && (((rd_T58 t263 1).f1) == 0)) = false := by simpa using c14))
         (try (have c14b2 : (((rd_T58 t263 1).f0) == 512 && (((rd_T58 t263 1).f1) == 0)) = false := by simpa using c14))
         (try (have c14b3 : ¬ (((rd_T58 t263 1).f0) = 512 && (((rd_T58 t263 1).f1) == 0)) := by simpa using c14))
         clear c14
         exact absurd H (by simp)
       ·rw [if_neg c13] at H
        exact absurd H (by simp)
      ·rw [if_neg c12] at H
       have c12b0 : (((rd_T58 t263 0).f0) == 256 && (((rd_T58 t263 0).f1) == 5)) = false := by simpa using c12
       (try (have c12b1 : decide (((rd_T58 t263 0).f0) = 256 && (((rd_T58 t263 0).f1) == 5)) = false := by simpa using c12))
       (try (have c12b2 : (((rd_T58 t263 0).f0) == 256 && (((rd_T58 t263 0).f1) == 5)) = false := by simpa using c12))
       (try (have c12b3 : ¬ (((rd_T58 t263 0).f0) = 256 && (((rd_T58 t263 0).f1) == 5)) := by simpa using c12))
       clear c12
       exact absurd H (by simp)
     ·rw [if_neg c11] at H
      exact absurd H (by simp)
    ·rw [if_neg c10] at H
     have c10b0 : ((t263.length : Int) == 3) = false := beq_eq_false_iff_ne.mpr c10
     have c10b1 : ((t263.length : Int) != 3) = true := bne_iff_ne.mpr c10
     exact absurd H (by simp)
   ·replace c9 := Bool.eq_false_iff.mpr c9
    subst c9
    have H1 : (none) = some r := by rw [if_neg (show ¬ (false = true) by decide)] at H; exact H
    clear H
    have H := H1
    clear H1
    exact absurd H (by simp)
  ·rw [if_neg c7] at H
   have c7b0 : (t284 == t287 && (t285 == t288)) = false := by simpa using c7
   (try (have c7b1 : decide (t284 = t287 && (t285 == t288)) = false := by simpa using c7))
   (try (have c7b2 : (t284 == t287 && (t285 == t288)) = false := by simpa using c7))
   (try (have c7b3 : ¬ (t284 = t287 && (t285 == t288)) := by simpa using c7))
   clear c7
   exact absurd H (by simp)
 ·rw [if_neg c5] at H
  have c5b0 : (t266 == 0) = false := beq_eq_false_iff_ne.mpr c5
  have c5b1 : (t266 != 0) = true := bne_iff_ne.mpr c5
  exact absurd H (by simp)

/-! ### law_sameSpans: function 26 -/
def law_sameSpans.l0 : Nat → List (S58) → List (S58) → Int → Option (Bool)
 | 0, _, _, _ => none
 | k + 1, x0, x1, x5 => if x5 < (x0.length : Int) then (if 0 ≤ x5 then (if x5 < (x1.length : Int) then (if (!(((rd_T58 x0 x5).f0) == ((rd_T58 x1 x5).f0)) || (!(((rd_T58 x0 x5).f1) == ((rd_T58 x1 x5).f1)))) = true then (some false) else (law_sameSpans.l0 k x0 x1 (wrap64 (x5 + 1)))) else (none)) else (none)) else (some true)
def law_sameSpans.f (k : Nat) (l0 : List (S58)) (l1 : List (S58)) : Option (Bool) := if (l0.length : Int) = (l1.length : Int) then (law_sameSpans.l0 k l0 l1 0) else (some false)
theorem law_sameSpans.mono_l : ∀ k, (∀ y0 y1 y2, LeO (law_sameSpans.l0 k y0 y1 y2) (law_sameSpans.l0 (k + 1) y0 y1 y2))
 | 0 => fun _ _ _ r h => by simp [law_sameSpans.l0] at h
 | k + 1 => by
  have ih0 := law_sameSpans.mono_l k
  ·intro y0 y1 y2
   unfold law_sameSpans.l0
   repeat' first
   | (with_reducible exact ih0 _ _ _)
   | (with_reducible exact LeO.refl _)
   | (with_reducible exact LeO.none _)
   | (with_reducible refine LeO.ite ?_ ?_)
   | (with_reducible refine LeO.bind ?_ (fun _ => ?_))
   | exact ih0 _ _ _
   | exact LeO.none _
   | refine LeO.ite ?_ ?_
   | refine LeO.bind ?_ (fun _ => ?_)
theorem law_sameSpans.mono : ∀ a0 a1 k, LeO (law_sameSpans.f k a0 a1) (law_sameSpans.f (k + 1) a0 a1) := by
 intro a0 a1 k
 have ih0 := law_sameSpans.mono_l k
 unfold law_sameSpans.f
 repeat' first
   | (with_reducible exact ih0 _ _ _)
   | (with_reducible exact LeO.refl _)
   | (with_reducible exact LeO.none _)
   | (with_reducible refine LeO.ite ?_ ?_)
   | (with_reducible refine LeO.bind ?_ (fun _ => ?_))
   | exact ih0 _ _ _
   | exact LeO.none _
   | refine LeO.ite ?_ ?_
   | refine LeO.bind ?_ (fun _ => ?_)
set_option maxHeartbeats 8000000 in
set_option maxRecDepth 100000 in
theorem law_sameSpans.calls (k : Nat) (A0 : Option Addr) (c0 : Nat) (l0 : List (S58)) (A1 : Option Addr) (c1 : Nat) (l1 : List (S58)) (r : Bool) (w : World) (hr0 : Kd.C k58 w A0 l0.length l0) (hc0 : l0.length ≤ c0) (hr1 : Kd.C k58 w A1 l1.length l1) (hc1 : l1.length ≤ c1) (h : law_sameSpans.f k l0 l1 = some r) :
  Calls Try.prog 26 #[.slice A0 l0.length c0, .slice A1 l1.length c1] w fun e w' => e = .returned (.bool r) ∧ Drawn0 w w' := by
 have hu58 := Try.underlying58
 have HR0 := Aside0.mk hr0
 have HC0 := Aside0.mk hc0
 clear hr0 hc0
 have HR1 := Aside0.mk hr1
 have HC1 := Aside0.mk hc1
 clear hr1 hc1
 have H : (if (l0.length : Int) = (l1.length : Int) then (law_sameSpans.l0 k l0 l1 0) else (some false)) = some r := h
 clear h
 by_cases c3 : (l0.length : Int) = (l1.length : Int)
 ·rw [if_pos c3] at H
  have c3b0 : ((l0.length : Int) == (l1.length : Int)) = true := beq_iff_eq.mpr c3
  have c3b1 : ((l0.length : Int) != (l1.length : Int)) = false := bne_eq_false_iff_eq.mpr c3
  have c3b2 : (l0.length == l1.length) = true := by first | simpa using c3 | (simp at c3 ⊢; omega)
  clear c3
  have H' := Aside0.mk H
  clear H
  go_enter Try.func26, Try.ntmps26
  go_wp2
  repeat (go_quiet (fail); try go_wp2)
  go_loopg [5] k (fun kq v5 w' => ∃ (x5_1 : Int), v5 = .int .i64 x5_1 ∧ Aside0 (law_sameSpans.l0 kq l0 l1 x5_1 = some r) ∧ Aside0 (kq ≤ k) ∧ Drawn0 w w')
  case atStart => exact ⟨(0), qF, H', ⟨Nat.le_refl _⟩, by repeat (first | exact Drawn0.refl _ | apply Drawn0.step)⟩
  case round =>
   clear H'
   try clear c1
   try clear c2
   try clear p2
   try clear c3
   try clear c3b0
   try clear c3b1
   try clear c3b2
   obtain ⟨x5_1, rfl, HA, HK1, ⟨m1, rfl⟩⟩ := hrel
   cases gk with
   | zero => exact absurd HA.out (by simp [law_sameSpans.l0])
   | succ k1 =>
    have H := HA.out
    clear HA
    simp only [law_sameSpans.l0] at H
    by_cases c4 : x5_1 < (l0.length : Int)
    ·rw [if_pos c4] at H
     have c4b0 : decide (x5_1 < (l0.length : Int)) = true := decide_eq_true c4
     clear c4
     by_cases c5 : 0 ≤ x5_1
     ·rw [if_pos c5] at H
      have c5b0 : decide (0 ≤ x5_1) = true := decide_eq_true c5
      clear c5
      by_cases c6 : x5_1 < (l1.length : Int)
      ·rw [if_pos c6] at H
       have c6b0 : decide (x5_1 < (l1.length : Int)) = true := decide_eq_true c6
       clear c6
       by_cases c7 : (!(((rd_T58 l0 x5_1).f0) == ((rd_T58 l1 x5_1).f0)) || (!(((rd_T58 l0 x5_1).f1) == ((rd_T58 l1 x5_1).f1)))) = true
       ·rw [if_pos c7] at H
        have c7b0 : (!(((rd_T58 l0 x5_1).f0) == ((rd_T58 l1 x5_1).f0)) || (!(((rd_T58 l0 x5_1).f1) == ((rd_T58 l1 x5_1).f1)))) = true := c7
        clear c7
        obtain rfl := Option.some.inj H
        have p296 : 0 ≤ (x5_1 : Int) := of_decide_eq_true qO
        have q296 : x5_1 < (l0.length : Int) := of_decide_eq_true qO
        obtain ⟨ad296, e296, hx296_0, hx296_1⟩ := at_T58 HR0.out x5_1 p296 q296
        cases e296
        replace p296 := eq_true p296
        replace q296 := eq_true q296
        have p297 : 0 ≤ (x5_1 : Int) := of_decide_eq_true qO
        have q297 : x5_1 < (l1.length : Int) := of_decide_eq_true qO
        obtain ⟨ad297, e297, hx297_0, hx297_1⟩ := at_T58 HR1.out x5_1 p297 q297
        cases e297
        replace p297 := eq_true p297
        replace q297 := eq_true q297
        go_wp2
        repeat (go_quiet (fail); try go_wp2)
        go_ret
        exact ⟨qF, by repeat (first | exact Drawn0.refl _ | apply Drawn0.step)⟩
       ·rw [if_neg c7] at H
        have c7b0 : (!(((rd_T58 l0 x5_1).f0) == ((rd_T58 l1 x5_1).f0)) || (!(((rd_T58 l0 x5_1).f1) == ((rd_T58 l1 x5_1).f1)))) = false := by simpa using c7
        clear c7
        have H' := Aside0.mk H
        clear H
        have p296 : 0 ≤ (x5_1 : Int) := of_decide_eq_true qO
        have q296 : x5_1 < (l0.length : Int) := of_decide_eq_true qO
        obtain ⟨ad296, e296, hx296_0, hx296_1⟩ := at_T58 HR0.out x5_1 p296 q296
        cases e296
        replace p296 := eq_true p296
        replace q296 := eq_true q296
        have p297 : 0 ≤ (x5_1 : Int) := of_decide_eq_true qO
        have q297 : x5_1 < (l1.length : Int) := of_decide_eq_true qO
        obtain ⟨ad297, e297, hx297_0, hx297_1⟩ := at_T58 HR1.out x5_1 p297 q297
        cases e297
        replace p297 := eq_true p297
        replace q297 := eq_true q297
        go_wp2
        repeat (go_quiet (fail); try go_wp2)
        go_roundg k1
        case measure => have := HK1.out; omega
        case rel => exact ⟨(wrap64 (x5_1 + 1)), qF, H', ⟨by have := HK1.out; omega⟩, by repeat (first | exact Drawn0.refl _ | apply Drawn0.step)⟩
      ·rw [if_neg c6] at H
       exact absurd H (by simp)
     ·rw [if_neg c5] at H
      exact absurd H (by simp)
    ·rw [if_neg c4] at H
     have c4b0 : decide (x5_1 < (l0.length : Int)) = false := decide_eq_false c4
     clear c4
     obtain rfl := Option.some.inj H
     go_wp2
     repeat (go_quiet (fail); try go_wp2)
     go_ret
     exact ⟨qF, by repeat (first | exact Drawn0.refl _ | apply Drawn0.step)⟩
 ·rw [if_neg c3] at H
  have c3b0 : ((l0.length : Int) == (l1.length : Int)) = false := beq_eq_false_iff_ne.mpr c3
  have c3b1 : ((l0.length : Int) != (l1.length : Int)) = true := bne_iff_ne.mpr c3
  have c3b2 : (l0.length == l1.length) = false := by first | simpa using c3 | (simp at c3 ⊢; omega)
  obtain rfl := Option.some.inj H
  go_enter Try.func26, Try.ntmps26
  go_wp2
  repeat (go_quiet (fail); try go_wp2)
  go_ret
  exact ⟨qF, by repeat (first | exact Drawn0.refl _ | apply Drawn0.step)⟩

end Go.Proofs.Ytnbeamaoblmbhaa.PPlace
