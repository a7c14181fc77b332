/- Written by a program of this session, for the law(s) Arr: contracts of the Go functions that the law reaches, each against a plain Lean function. No condition. -/
import Derived.Test.YtoegghjhepkfkaaPArrx0
import Derived.Test.YtoegghjhepkfkaaPArrx1
import Derived.Test.YtoegghjhepkfkaaPArrx2
import Derived.Test.YtoegghjhepkfkaaPArrx7
import Derived.Test.YtoegghjhepkfkaaPArrx8
import Derived.Test.YtoegghjhepkfkaaPArrx10
namespace Go.Proofs.Ytoegghjhepkfkaa.PArr
open Go.RowKit Go.Proofs.YtoegghjhepkfkaaW.PrintWords Go.Proofs.YtoegghjhepkfkaaW.PrintLast Go.Proofs.YtoegghjhepkfkaaW.PrintMore
attribute [local go_sem] max2_int min2_int max_two min_two max_three min_three max_four min_four   -- for this text's walks alone
set_option linter.unusedVariables false
set_option linter.unusedSimpArgs false

attribute [local go_sem high] eqA24
/-! ### law_orders: function 10 -/
def law_orders.f (k : Nat)  : Option (Bool) := (arrange_ByNames.f (([(⟨#[97]⟩ : ByteArray), (⟨#[98]⟩ : ByteArray), (⟨#[97]⟩ : ByteArray)] : List ByteArray)) (([(⟨#[98]⟩ : ByteArray)] : List ByteArray))).bind fun bt133 => ((arrange_ByWeights.f (([1, 5, 1] : List Int))).bind fun bt142 => ((arrange_Inverse.f (([1, 2, 0] : List Int))).bind fun bt151 => ((arrange_Inverse.f (([1] : List Int))).bind fun bt160 => (if bt133.2.1 = 0 then (if bt142.2.1 = 0 then (if bt151.2.1 = 0 then ((ref_At.f 5 (-2)).bind fun bt166 => (if (bt160.2.1 == bt166.1 && (bt160.2.2 == bt166.2)) = true then ((law_ints.f k bt133.1 (([1, 0, 2] : List Int))).bind fun t171 => (if t171 = true then ((law_ints.f k bt142.1 (([1, 0, 2] : List Int))).bind fun t175 => (if t175 = true then ((law_ints.f k bt151.1 (([2, 0, 1] : List Int))).bind fun t179 => (some t179)) else (none))) else (none))) else (none))) else (none)) else (none)) else (none)))))
theorem law_orders.mono : ∀ k, LeO (law_orders.f k ) (law_orders.f (k + 1) ) := by
 intro  k
 unfold law_orders.f
 repeat' first
   | (with_reducible exact law_ints.mono _ _ _)
   | (with_reducible exact LeO.refl _)
   | (with_reducible exact LeO.none _)
   | (with_reducible refine LeO.ite ?_ ?_)
   | (with_reducible refine LeO.bind ?_ (fun _ => ?_))
   | exact law_ints.mono _ _ _
   | exact LeO.none _
   | refine LeO.ite ?_ ?_
   | refine LeO.bind ?_ (fun _ => ?_)
def law_orders.T5 : Bool × List (List Nat × List Nat) := (true, [([], []), ([0], [0]), ([1], [1]), ([2], [2]), ([3], [3]), ([4, 3], [3, 4]), ([5, 3], [3, 5]), ([3, 6], [3, 6]), ([7, 3], [7]), ([8], [8]), ([9, 8], [8, 9]), ([10, 8], [8, 10]), ([8, 11], [8, 11]), ([12, 8], [12]), ([13], [13]), ([13, 13], [13]), ([14, 15, 13], [13, 14, 15]), ([13, 16], [13, 16]), ([17, 15], [17]), ([18], [18]), ([18], [18]), ([19, 20, 18, 18], [18, 19, 20]), ([18, 21], [18, 21]), ([22, 21], [22]), ([23], [23]), ([23], [23]), ([24, 25, 23, 23], [23, 24, 25]), ([23, 26], [23, 26]), ([27, 26], [27]), ([28], [28]), ([28], [28]), ([29, 30, 28, 28], [28, 29, 30]), ([28, 31], [28, 31]), ([32, 31, 0, 1, 2, 3, 4, 5, 6, 7, 8, 9, 10, 11, 12, 13, 14, 15, 16, 17, 18, 19, 20, 21, 22, 23, 24, 25, 26, 27, 28, 29, 30, 31, 32], [32])])
def law_orders.B5 : List Nat := [0, 1, 3, 7, 15, 31, 63, 127, 255, 511, 1023, 2047, 4095, 8191, 16383, 16383, 65535, 131071, 262143, 524287, 524287, 2097151, 4194303, 8388607, 16777215, 16777215, 67108863, 134217727, 268435455, 536870911, 536870911, 2147483647, 4294967295, 8589934591]
theorem law_orders.tab5 : rtab .any (opsOf Try.f10 5) = law_orders.T5 := by kernel_rfl
theorem law_orders.bits5 : waitsOk law_orders.T5.2 law_orders.B5 = true := by kernel_rfl
set_option maxHeartbeats 8000000 in
set_option maxRecDepth 100000 in
theorem law_orders.calls (k : Nat)  (r : Bool) (w : World) (h : law_orders.f k  = some r) :
  Calls Try.prog 10 #[] w fun e w' => e = .returned (.bool r) ∧ Below w.heap.size w w' := by
 have hu24 := Try.underlying24
 have HB := Aside0.mk (Below.refl w.heap.size w)
 have H : ((arrange_ByNames.f (([(⟨#[97]⟩ : ByteArray), (⟨#[98]⟩ : ByteArray), (⟨#[97]⟩ : ByteArray)] : List ByteArray)) (([(⟨#[98]⟩ : ByteArray)] : List ByteArray))).bind fun bt133 => ((arrange_ByWeights.f (([1, 5, 1] : List Int))).bind fun bt142 => ((arrange_Inverse.f (([1, 2, 0] : List Int))).bind fun bt151 => ((arrange_Inverse.f (([1] : List Int))).bind fun bt160 => (if bt133.2.1 = 0 then (if bt142.2.1 = 0 then (if bt151.2.1 = 0 then ((ref_At.f 5 (-2)).bind fun bt166 => (if (bt160.2.1 == bt166.1 && (bt160.2.2 == bt166.2)) = true then ((law_ints.f k bt133.1 (([1, 0, 2] : List Int))).bind fun t171 => (if t171 = true then ((law_ints.f k bt142.1 (([1, 0, 2] : List Int))).bind fun t175 => (if t175 = true then ((law_ints.f k bt151.1 (([2, 0, 1] : List Int))).bind fun t179 => (some t179)) else (none))) else (none))) else (none))) else (none)) else (none)) else (none)))))) = some r := h
 clear h
 obtain ⟨y127, hy127⟩ : ∃ y_ : List ByteArray, y_ = (([(⟨#[97]⟩ : ByteArray), (⟨#[98]⟩ : ByteArray), (⟨#[97]⟩ : ByteArray)] : List ByteArray)) := ⟨_, rfl⟩
 replace H : ((arrange_ByNames.f y127 (([(⟨#[98]⟩ : ByteArray)] : List ByteArray))).bind fun bt133 => ((arrange_ByWeights.f (([1, 5, 1] : List Int))).bind fun bt142 => ((arrange_Inverse.f (([1, 2, 0] : List Int))).bind fun bt151 => ((arrange_Inverse.f (([1] : List Int))).bind fun bt160 => (if bt133.2.1 = 0 then (if bt142.2.1 = 0 then (if bt151.2.1 = 0 then ((ref_At.f 5 (-2)).bind fun bt166 => (if (bt160.2.1 == bt166.1 && (bt160.2.2 == bt166.2)) = true then ((law_ints.f k bt133.1 (([1, 0, 2] : List Int))).bind fun t171 => (if t171 = true then ((law_ints.f k bt142.1 (([1, 0, 2] : List Int))).bind fun t175 => (if t175 = true then ((law_ints.f k bt151.1 (([2, 0, 1] : List Int))).bind fun t179 => (some t179)) else (none))) else (none))) else (none))) else (none)) else (none)) else (none)))))) = some r := by first | (rw [hy127]; with_reducible exact H) | (have H2_ := (Option.bind_some _ _).symm.trans H; rw [hy127]; with_reducible exact H2_) | (have H2_ := (Option.bind_some _ _).symm.trans H; with_reducible exact H2_) | with_reducible exact H | (rw [hy127]; exact H) | exact H
 have Ny127 := Aside0.mk hy127
 clear hy127
 obtain ⟨y130, hy130⟩ : ∃ y_ : List ByteArray, y_ = (([(⟨#[98]⟩ : ByteArray)] : List ByteArray)) := ⟨_, rfl⟩
 replace H : ((arrange_ByNames.f y127 y130).bind fun bt133 => ((arrange_ByWeights.f (([1, 5, 1] : List Int))).bind fun bt142 => ((arrange_Inverse.f (([1, 2, 0] : List Int))).bind fun bt151 => ((arrange_Inverse.f (([1] : List Int))).bind fun bt160 => (if bt133.2.1 = 0 then (if bt142.2.1 = 0 then (if bt151.2.1 = 0 then ((ref_At.f 5 (-2)).bind fun bt166 => (if (bt160.2.1 == bt166.1 && (bt160.2.2 == bt166.2)) = true then ((law_ints.f k bt133.1 (([1, 0, 2] : List Int))).bind fun t171 => (if t171 = true then ((law_ints.f k bt142.1 (([1, 0, 2] : List Int))).bind fun t175 => (if t175 = true then ((law_ints.f k bt151.1 (([2, 0, 1] : List Int))).bind fun t179 => (some t179)) else (none))) else (none))) else (none))) else (none)) else (none)) else (none)))))) = some r := by first | (rw [hy130]; with_reducible exact H) | (have H2_ := (Option.bind_some _ _).symm.trans H; rw [hy130]; with_reducible exact H2_) | (have H2_ := (Option.bind_some _ _).symm.trans H; with_reducible exact H2_) | with_reducible exact H | (rw [hy130]; exact H) | exact H
 have Ny130 := Aside0.mk hy130
 clear hy130
 replace H := Option.bind_eq_some_iff.mp H
 obtain ⟨⟨t133, t136, t137⟩, A10, H⟩ := H
 replace H : ((arrange_ByWeights.f (([1, 5, 1] : List Int))).bind fun bt142 => ((arrange_Inverse.f (([1, 2, 0] : List Int))).bind fun bt151 => ((arrange_Inverse.f (([1] : List Int))).bind fun bt160 => (if t136 = 0 then (if bt142.2.1 = 0 then (if bt151.2.1 = 0 then ((ref_At.f 5 (-2)).bind fun bt166 => (if (bt160.2.1 == bt166.1 && (bt160.2.2 == bt166.2)) = true then ((law_ints.f k t133 (([1, 0, 2] : List Int))).bind fun t171 => (if t171 = true then ((law_ints.f k bt142.1 (([1, 0, 2] : List Int))).bind fun t175 => (if t175 = true then ((law_ints.f k bt151.1 (([2, 0, 1] : List Int))).bind fun t179 => (some t179)) else (none))) else (none))) else (none))) else (none)) else (none)) else (none))))) = some r := H
 have A1 := Aside0.mk A10
 clear A10
 obtain ⟨y139, hy139⟩ : ∃ y_ : List Int, y_ = (([1, 5, 1] : List Int)) := ⟨_, rfl⟩
 replace H : ((arrange_ByWeights.f y139).bind fun bt142 => ((arrange_Inverse.f (([1, 2, 0] : List Int))).bind fun bt151 => ((arrange_Inverse.f (([1] : List Int))).bind fun bt160 => (if t136 = 0 then (if bt142.2.1 = 0 then (if bt151.2.1 = 0 then ((ref_At.f 5 (-2)).bind fun bt166 => (if (bt160.2.1 == bt166.1 && (bt160.2.2 == bt166.2)) = true then ((law_ints.f k t133 (([1, 0, 2] : List Int))).bind fun t171 => (if t171 = true then ((law_ints.f k bt142.1 (([1, 0, 2] : List Int))).bind fun t175 => (if t175 = true then ((law_ints.f k bt151.1 (([2, 0, 1] : List Int))).bind fun t179 => (some t179)) else (none))) else (none))) else (none))) else (none)) else (none)) else (none))))) = some r := by first | (rw [hy139]; with_reducible exact H) | (have H2_ := (Option.bind_some _ _).symm.trans H; rw [hy139]; with_reducible exact H2_) | (have H2_ := (Option.bind_some _ _).symm.trans H; with_reducible exact H2_) | with_reducible exact H | (rw [hy139]; exact H) | exact H
 have Ny139 := Aside0.mk hy139
 clear hy139
 replace H := Option.bind_eq_some_iff.mp H
 obtain ⟨⟨t142, t145, t146⟩, A20, H⟩ := H
 replace H : ((arrange_Inverse.f (([1, 2, 0] : List Int))).bind fun bt151 => ((arrange_Inverse.f (([1] : List Int))).bind fun bt160 => (if t136 = 0 then (if t145 = 0 then (if bt151.2.1 = 0 then ((ref_At.f 5 (-2)).bind fun bt166 => (if (bt160.2.1 == bt166.1 && (bt160.2.2 == bt166.2)) = true then ((law_ints.f k t133 (([1, 0, 2] : List Int))).bind fun t171 => (if t171 = true then ((law_ints.f k t142 (([1, 0, 2] : List Int))).bind fun t175 => (if t175 = true then ((law_ints.f k bt151.1 (([2, 0, 1] : List Int))).bind fun t179 => (some t179)) else (none))) else (none))) else (none))) else (none)) else (none)) else (none)))) = some r := H
 have A2 := Aside0.mk A20
 clear A20
 obtain ⟨y148, hy148⟩ : ∃ y_ : List Int, y_ = (([1, 2, 0] : List Int)) := ⟨_, rfl⟩
 replace H : ((arrange_Inverse.f y148).bind fun bt151 => ((arrange_Inverse.f (([1] : List Int))).bind fun bt160 => (if t136 = 0 then (if t145 = 0 then (if bt151.2.1 = 0 then ((ref_At.f 5 (-2)).bind fun bt166 => (if (bt160.2.1 == bt166.1 && (bt160.2.2 == bt166.2)) = true then ((law_ints.f k t133 (([1, 0, 2] : List Int))).bind fun t171 => (if t171 = true then ((law_ints.f k t142 (([1, 0, 2] : List Int))).bind fun t175 => (if t175 = true then ((law_ints.f k bt151.1 (([2, 0, 1] : List Int))).bind fun t179 => (some t179)) else (none))) else (none))) else (none))) else (none)) else (none)) else (none)))) = some r := by first | (rw [hy148]; with_reducible exact H) | (have H2_ := (Option.bind_some _ _).symm.trans H; rw [hy148]; with_reducible exact H2_) | (have H2_ := (Option.bind_some _ _).symm.trans H; with_reducible exact H2_) | with_reducible exact H | (rw [hy148]; exact H) | exact H
 have Ny148 := Aside0.mk hy148
 clear hy148
 replace H := Option.bind_eq_some_iff.mp H
 obtain ⟨⟨t151, t154, t155⟩, A30, H⟩ := H
 replace H : ((arrange_Inverse.f (([1] : List Int))).bind fun bt160 => (if t136 = 0 then (if t145 = 0 then (if t154 = 0 then ((ref_At.f 5 (-2)).bind fun bt166 => (if (bt160.2.1 == bt166.1 && (bt160.2.2 == bt166.2)) = true then ((law_ints.f k t133 (([1, 0, 2] : List Int))).bind fun t171 => (if t171 = true then ((law_ints.f k t142 (([1, 0, 2] : List Int))).bind fun t175 => (if t175 = true then ((law_ints.f k t151 (([2, 0, 1] : List Int))).bind fun t179 => (some t179)) else (none))) else (none))) else (none))) else (none)) else (none)) else (none))) = some r := H
 have A3 := Aside0.mk A30
 clear A30
 obtain ⟨y157, hy157⟩ : ∃ y_ : List Int, y_ = (([1] : List Int)) := ⟨_, rfl⟩
 replace H : ((arrange_Inverse.f y157).bind fun bt160 => (if t136 = 0 then (if t145 = 0 then (if t154 = 0 then ((ref_At.f 5 (-2)).bind fun bt166 => (if (bt160.2.1 == bt166.1 && (bt160.2.2 == bt166.2)) = true then ((law_ints.f k t133 (([1, 0, 2] : List Int))).bind fun t171 => (if t171 = true then ((law_ints.f k t142 (([1, 0, 2] : List Int))).bind fun t175 => (if t175 = true then ((law_ints.f k t151 (([2, 0, 1] : List Int))).bind fun t179 => (some t179)) else (none))) else (none))) else (none))) else (none)) else (none)) else (none))) = some r := by first | (rw [hy157]; with_reducible exact H) | (have H2_ := (Option.bind_some _ _).symm.trans H; rw [hy157]; with_reducible exact H2_) | (have H2_ := (Option.bind_some _ _).symm.trans H; with_reducible exact H2_) | with_reducible exact H | (rw [hy157]; exact H) | exact H
 have Ny157 := Aside0.mk hy157
 clear hy157
 replace H := Option.bind_eq_some_iff.mp H
 obtain ⟨⟨t160, t163, t164⟩, A40, H⟩ := H
 replace H : (if t136 = 0 then (if t145 = 0 then (if t154 = 0 then ((ref_At.f 5 (-2)).bind fun bt166 => (if (t163 == bt166.1 && (t164 == bt166.2)) = true then ((law_ints.f k t133 (([1, 0, 2] : List Int))).bind fun t171 => (if t171 = true then ((law_ints.f k t142 (([1, 0, 2] : List Int))).bind fun t175 => (if t175 = true then ((law_ints.f k t151 (([2, 0, 1] : List Int))).bind fun t179 => (some t179)) else (none))) else (none))) else (none))) else (none)) else (none)) else (none)) = some r := H
 have A4 := Aside0.mk A40
 clear A40
 by_cases c5 : t136 = 0
 ·rw [if_pos c5] at H
  have c5b0 : (t136 == 0) = true := beq_iff_eq.mpr c5
  have c5b1 : (t136 != 0) = false := bne_eq_false_iff_eq.mpr c5
  clear c5
  by_cases c6 : t145 = 0
  ·rw [if_pos c6] at H
   have c6b0 : (t145 == 0) = true := beq_iff_eq.mpr c6
   have c6b1 : (t145 != 0) = false := bne_eq_false_iff_eq.mpr c6
   clear c6
   by_cases c7 : t154 = 0
   ·rw [if_pos c7] at H
    have c7b0 : (t154 == 0) = true := beq_iff_eq.mpr c7
    have c7b1 : (t154 != 0) = false := bne_eq_false_iff_eq.mpr c7
    clear c7
    replace H := Option.bind_eq_some_iff.mp H
    obtain ⟨⟨t166, t167⟩, A80, H⟩ := H
    replace H : (if (t163 == t166 && (t164 == t167)) = true then ((law_ints.f k t133 (([1, 0, 2] : List Int))).bind fun t171 => (if t171 = true then ((law_ints.f k t142 (([1, 0, 2] : List Int))).bind fun t175 => (if t175 = true then ((law_ints.f k t151 (([2, 0, 1] : List Int))).bind fun t179 => (some t179)) else (none))) else (none))) else (none)) = some r := H
    have A8 := Aside0.mk A80
    clear A80
    by_cases c9 : (t163 == t166 && (t164 == t167)) = true
    ·rw [if_pos c9] at H
     have c9b0 : (t163 == t166 && (t164 == t167)) = true := c9
     (try (have c9b1 : decide (t163 = t166 && (t164 == t167)) = true := by simpa using c9))
     (try (have c9b2 : (t163 == t166 && (t164 == t167)) = true := by simpa using c9))
     clear c9
     obtain ⟨y168, hy168⟩ : ∃ y_ : List Int, y_ = (([1, 0, 2] : List Int)) := ⟨_, rfl⟩
     replace H : ((law_ints.f k t133 y168).bind fun t171 => (if t171 = true then ((law_ints.f k t142 (([1, 0, 2] : List Int))).bind fun t175 => (if t175 = true then ((law_ints.f k t151 (([2, 0, 1] : List Int))).bind fun t179 => (some t179)) else (none))) else (none))) = some r := by first | (rw [hy168]; with_reducible exact H) | (have H2_ := (Option.bind_some _ _).symm.trans H; rw [hy168]; with_reducible exact H2_) | (have H2_ := (Option.bind_some _ _).symm.trans H; with_reducible exact H2_) | with_reducible exact H | (rw [hy168]; exact H) | exact H
     have Ny168 := Aside0.mk hy168
     clear hy168
     replace H := Option.bind_eq_some_iff.mp H
     obtain ⟨t171, A100, H⟩ := H
     replace H : (if t171 = true then ((law_ints.f k t142 (([1, 0, 2] : List Int))).bind fun t175 => (if t175 = true then ((law_ints.f k t151 (([2, 0, 1] : List Int))).bind fun t179 => (some t179)) else (none))) else (none)) = some r := H
     have A10 := Aside0.mk A100
     clear A100
     by_cases c11 : t171 = true
     ·subst c11
      have H1 : ((law_ints.f k t142 (([1, 0, 2] : List Int))).bind fun t175 => (if t175 = true then ((law_ints.f k t151 (([2, 0, 1] : List Int))).bind fun t179 => (some t179)) else (none))) = some r := by rw [if_pos rfl] at H; exact H
      clear H
      have H := H1
      clear H1
      obtain ⟨y172, hy172⟩ : ∃ y_ : List Int, y_ = (([1, 0, 2] : List Int)) := ⟨_, rfl⟩
      replace H : ((law_ints.f k t142 y172).bind fun t175 => (if t175 = true then ((law_ints.f k t151 (([2, 0, 1] : List Int))).bind fun t179 => (some t179)) else (none))) = some r := by first | (rw [hy172]; with_reducible exact H) | (have H2_ := (Option.bind_some _ _).symm.trans H; rw [hy172]; with_reducible exact H2_) | (have H2_ := (Option.bind_some _ _).symm.trans H; with_reducible exact H2_) | with_reducible exact H | (rw [hy172]; exact H) | exact H
      have Ny172 := Aside0.mk hy172
      clear hy172
      replace H := Option.bind_eq_some_iff.mp H
      obtain ⟨t175, A120, H⟩ := H
      replace H : (if t175 = true then ((law_ints.f k t151 (([2, 0, 1] : List Int))).bind fun t179 => (some t179)) else (none)) = some r := H
      have A12 := Aside0.mk A120
      clear A120
      by_cases c13 : t175 = true
      ·subst c13
       have H1 : ((law_ints.f k t151 (([2, 0, 1] : List Int))).bind fun t179 => (some t179)) = some r := by rw [if_pos rfl] at H; exact H
       clear H
       have H := H1
       clear H1
       obtain ⟨y176, hy176⟩ : ∃ y_ : List Int, y_ = (([2, 0, 1] : List Int)) := ⟨_, rfl⟩
       replace H : ((law_ints.f k t151 y176).bind fun t179 => (some t179)) = some r := by first | (rw [hy176]; with_reducible exact H) | (have H2_ := (Option.bind_some _ _).symm.trans H; rw [hy176]; with_reducible exact H2_) | (have H2_ := (Option.bind_some _ _).symm.trans H; with_reducible exact H2_) | with_reducible exact H | (rw [hy176]; exact H) | exact H
       have Ny176 := Aside0.mk hy176
       clear hy176
       replace H := Option.bind_eq_some_iff.mp H
       obtain ⟨t179, A140, H⟩ := H
       replace H : (some t179) = some r := H
       have A14 := Aside0.mk A140
       clear A140
       obtain rfl := Option.some.inj H
       go_enter Try.func10, Try.ntmps10
       try go_wp2_with (first | ((with_reducible refine gate_dst (N := 10) rfl ?_); (try (refine gate_guard (by rfl) ?_; dsimp only)); refine Kd.R_lit Kd.string _ 9 ?hg (N := 10) ?hd (xs := ([(⟨#[97]⟩ : ByteArray), (⟨#[98]⟩ : ByteArray), (⟨#[97]⟩ : ByteArray)] : List ByteArray)) (inner := [.string (⟨#[97]⟩ : ByteArray), .string (⟨#[98]⟩ : ByteArray), .string (⟨#[97]⟩ : ByteArray)]) (ok := fun _ => True) (okp := fun _ => True) ?hr ?hp (fun _ hk => hk) trivial (Below.refl _ _) (Nat.le_refl _) (by simp) ?_; (case hd => rfl); (case hg => rfl); (case hr => first | (go_simp; done) | (go_simp; rfl)); (case hp => exact (Reps.one (show Kd.M Kd.string _ _ _ (⟨#[97]⟩ : ByteArray) [.string (⟨#[97]⟩ : ByteArray)] from rfl) (Reps.one (show Kd.M Kd.string _ _ _ (⟨#[98]⟩ : ByteArray) [.string (⟨#[98]⟩ : ByteArray)] from rfl) (Reps.one (show Kd.M Kd.string _ _ _ (⟨#[97]⟩ : ByteArray) [.string (⟨#[97]⟩ : ByteArray)] from rfl) (Reps.none _ _))))); intro v128 w15 ho16 hb hg_ hnew_; clear hg_ hnew_; (first | rw [← Ny127.out] at ho16 | (simp only [Int.reduceToNat] at ho16; rw [← Ny127.out] at ho16)); refine up2 (am (Kd.R_lower ho16 (below_size qB))) (bH hb) ?_; clear HB hb ho16; intro HO129 HB) | ((with_reducible refine gate_dst (N := 11) rfl ?_); (try (refine gate_guard (by rfl) ?_; dsimp only)); refine Kd.R_lit Kd.string _ 9 ?hg (N := 11) ?hd (xs := ([(⟨#[98]⟩ : ByteArray)] : List ByteArray)) (inner := [.string (⟨#[98]⟩ : ByteArray)]) (ok := fun _ => True) (okp := fun _ => True) ?hr ?hp (fun _ hk => hk) trivial (Below.refl _ _) (Nat.le_refl _) (by simp) ?_; (case hd => rfl); (case hg => rfl); (case hr => first | (go_simp; done) | (go_simp; rfl)); (case hp => exact (Reps.one (show Kd.M Kd.string _ _ _ (⟨#[98]⟩ : ByteArray) [.string (⟨#[98]⟩ : ByteArray)] from rfl) (Reps.none _ _))); intro v131 w17 ho18 hb hg_ hnew_; clear hg_ hnew_; (first | rw [← Ny130.out] at ho18 | (simp only [Int.reduceToNat] at ho18; rw [← Ny130.out] at ho18)); refine up3 (am (Kd.R_elder' (qR HO129) (Kd.R_base ho18) hb)) (am (Kd.R_lower (Kd.R_new' ho18 (Kd.R_lt (qR HO129))) (below_size qB))) (bH hb) ?_; clear HO129 HB hb ho18; intro HO129 HO132 HB; obtain ⟨Ao19, co19, eo19⟩ := Kd.R_slice HO129.out; subst eo19; obtain ⟨Ao20, co20, eo20⟩ := Kd.R_slice HO132.out; subst eo20) | ((with_reducible refine gate_callee (f := 9) rfl ?_); refine goesL_ (some 12) rfl rfl Try.func9 (by kernel_rfl) rfl #[.slice Ao19 y127.length co19, .slice Ao20 y130.length co20] rfl qA ?_; (with_reducible refine (arrange_ByNames.calls _ _ y127 _ _ y130 t133 t136 t137 _ ?side1 ?side2 ?side3 ?side4 A1.out).mono ?_); (case side1 => repeat (first | exact (Kd.R_reads' HO129.out).2.2 | (with_reducible refine Kd.C_alloc ?_ _) | (with_reducible refine Kd.C_drewN ?_ _) | (with_reducible refine Kd.C_drew ?_))); (case side2 => exact (Kd.R_reads' HO129.out).2.1); (case side3 => repeat (first | exact (Kd.R_reads' HO132.out).2.2 | (with_reducible refine Kd.C_alloc ?_ _) | (with_reducible refine Kd.C_drewN ?_ _) | (with_reducible refine Kd.C_drew ?_))); (case side4 => exact (Kd.R_reads' HO132.out).2.1); rintro e w21 ⟨v134, rfl, ho0, hb⟩; refine ⟨_, rfl, ?_⟩; refine up4 (am (Kd.R_below (qR HO129) hb)) (am (Kd.R_below (qR HO132) hb)) (am (Kd.R_lower ho0 (below_size qB))) (bH hb) ?_; clear HO129 HO132 HB; intro HO129 HO132 HO135 HB; (try clear hb); (try clear hb2); (try clear hk); (try clear hi); (try clear ho0)) | ((with_reducible refine gate_dst (N := 2) rfl ?_); (try (refine gate_guard (by rfl) ?_; dsimp only)); refine qX (N := 2) (cs := #[.int .i64 0, .int .i64 0]) (t := 24) ?_; intro gb138 hg w22 hbox hb; refine up7 (am (Kd.R_below (qR HO129) hb)) (am (Kd.R_below (qR HO132) hb)) (am (Kd.R_below (qR HO135) hb)) (bH hb) (am hbox) (bW hg) (bW hg) ?_; clear HO129 HO132 HO135 HB hb hbox hg; intro HO129 HO132 HO135 HB BK138 GW138 GE138; have hcz23 := blkC2 BK138.out) | ((with_reducible refine gate_dst (N := 16) rfl ?_); (try (refine gate_guard (by rfl) ?_; dsimp only)); refine Kd.R_lit (Kd.int .i64) _ 3 ?hg (N := 16) ?hd (xs := ([1, 5, 1] : List Int)) (inner := [.int .i64 1, .int .i64 5, .int .i64 1]) (ok := fun _ => True) (okp := fun _ => True) ?hr ?hp (fun _ hk => hk) trivial (Below.refl _ _) (Nat.le_refl _) (by simp) ?_; (case hd => rfl); (case hg => rfl); (case hr => first | (go_simp; done) | (go_simp; rfl)); (case hp => exact (Reps.one (show Kd.M (Kd.int .i64) _ _ _ 1 [.int .i64 1] from rfl) (Reps.one (show Kd.M (Kd.int .i64) _ _ _ 5 [.int .i64 5] from rfl) (Reps.one (show Kd.M (Kd.int .i64) _ _ _ 1 [.int .i64 1] from rfl) (Reps.none _ _))))); intro v140 w24 ho25 hb hg_ hnew_; clear hg_ hnew_; (first | rw [← Ny139.out] at ho25 | (simp only [Int.reduceToNat] at ho25; rw [← Ny139.out] at ho25)); refine up6 (am (Kd.R_below (by (with_reducible repeat (first | apply Kd.R_alloc | apply Kd.R_drewN | apply Kd.R_drew)); exact (Kd.R_mono (Kd.R_far (p := ⟨gb138, 1, none⟩) (Kd.R_far (p := ⟨gb138, 0, none⟩) (Kd.R_types HO129.out BK138.out (by decide)) (fun _ hk => hk.2) (.int .i64 t136)) (fun _ hk => hk.2) (.int .i64 t137)) (fun _ h_ => h_.1))) hb)) (am (Kd.R_below (by (with_reducible repeat (first | apply Kd.R_alloc | apply Kd.R_drewN | apply Kd.R_drew)); exact (Kd.R_mono (Kd.R_far (p := ⟨gb138, 1, none⟩) (Kd.R_far (p := ⟨gb138, 0, none⟩) (Kd.R_types HO132.out BK138.out (by decide)) (fun _ hk => hk.2) (.int .i64 t136)) (fun _ hk => hk.2) (.int .i64 t137)) (fun _ h_ => h_.1))) hb)) (am (Kd.R_elder' (by (with_reducible repeat (first | apply Kd.R_alloc | apply Kd.R_drewN | apply Kd.R_drew)); exact (Kd.R_mono (Kd.R_far (p := ⟨gb138, 1, none⟩) (Kd.R_far (p := ⟨gb138, 0, none⟩) (Kd.R_types HO135.out BK138.out (by decide)) (fun _ hk => hk.2) (.int .i64 t136)) (fun _ hk => hk.2) (.int .i64 t137)) (fun _ h_ => h_.1))) (Kd.R_base ho25) hb)) (am (Kd.R_lower (Kd.R_new' ho25 (Kd.R_lt (by (with_reducible repeat (first | apply Kd.R_alloc | apply Kd.R_drewN | apply Kd.R_drew)); exact (Kd.R_mono (Kd.R_far (p := ⟨gb138, 1, none⟩) (Kd.R_far (p := ⟨gb138, 0, none⟩) (Kd.R_types HO135.out BK138.out (by decide)) (fun _ hk => hk.2) (.int .i64 t136)) (fun _ hk => hk.2) (.int .i64 t137)) (fun _ h_ => h_.1))))) (below_size qB))) (bP (o := .cells #[.int .i64 t136, .int .i64 t137] 24 (0, 0)) BK138 hb) (bH hb) ?_; clear HO129 HO132 HO135 BK138 HB hb ho25; intro HO129 HO132 HO135 HO141 BK138 HB; obtain ⟨Ao26, co26, eo26⟩ := Kd.R_slice HO141.out; subst eo26) | ((with_reducible refine gate_callee (f := 15) rfl ?_); refine goesL_ (some 17) rfl rfl Try.func15 (by kernel_rfl) rfl #[.slice Ao26 y139.length co26] rfl qA ?_; (with_reducible refine (arrange_ByWeights.calls _ _ y139 t142 t145 t146 _ ?side1 ?side2 A2.out).mono ?_); (case side1 => repeat (first | exact (Kd.R_reads' HO141.out).2.2 | (with_reducible refine Kd.C_alloc ?_ _) | (with_reducible refine Kd.C_drewN ?_ _) | (with_reducible refine Kd.C_drew ?_))); (case side2 => exact (Kd.R_reads' HO141.out).2.1); rintro e w27 ⟨v143, rfl, ho0, hb⟩; refine ⟨_, rfl, ?_⟩; refine up7 (am (Kd.R_below (qR HO129) hb)) (am (Kd.R_below (qR HO132) hb)) (am (Kd.R_elder' (qR HO135) (Kd.R_base ho0) hb)) (am (Kd.R_elder' (qR HO141) (Kd.R_base ho0) hb)) (am (Kd.R_lower (Kd.R_new' (Kd.R_new' ho0 (Kd.R_lt (qR HO135))) (Kd.R_lt (qR HO141))) (below_size qB))) (bB BK138 hb) (bH hb) ?_; clear HO129 HO132 HO135 HO141 BK138 HB; intro HO129 HO132 HO135 HO141 HO144 BK138 HB; (try clear hb); (try clear hb2); (try clear hk); (try clear hi); (try clear ho0)) | ((with_reducible refine gate_dst (N := 4) rfl ?_); (try (refine gate_guard (by rfl) ?_; dsimp only)); refine qX (N := 4) (cs := #[.int .i64 0, .int .i64 0]) (t := 24) ?_; intro gb147 hg w28 hbox hb; refine up12 (am (Kd.R_below (qR HO129) hb)) (am (Kd.R_below (qR HO132) hb)) (am (Kd.R_below (qR HO135) hb)) (am (Kd.R_below (qR HO141) hb)) (am (Kd.R_below (qR HO144) hb)) (bB BK138 hb) (bH hb) (am hbox) (bW hg) (bW hg) (bL BK138 hg) (bG BK138 hg) ?_; clear HO129 HO132 HO135 HO141 HO144 BK138 HB hb hbox hg; intro HO129 HO132 HO135 HO141 HO144 BK138 HB BK147 GW147 GE147 NB138_147 NB147_138; have hnb29 := NB147_138.out; have hnc29 := NB138_147.out; have hcz30 := blkC2 BK147.out) | ((with_reducible refine gate_dst (N := 21) rfl ?_); (try (refine gate_guard (by rfl) ?_; dsimp only)); refine Kd.R_lit (Kd.int .i64) _ 3 ?hg (N := 21) ?hd (xs := ([1, 2, 0] : List Int)) (inner := [.int .i64 1, .int .i64 2, .int .i64 0]) (ok := fun _ => True) (okp := fun _ => True) ?hr ?hp (fun _ hk => hk) trivial (Below.refl _ _) (Nat.le_refl _) (by simp) ?_; (case hd => rfl); (case hg => rfl); (case hr => first | (go_simp; done) | (go_simp; rfl)); (case hp => exact (Reps.one (show Kd.M (Kd.int .i64) _ _ _ 1 [.int .i64 1] from rfl) (Reps.one (show Kd.M (Kd.int .i64) _ _ _ 2 [.int .i64 2] from rfl) (Reps.one (show Kd.M (Kd.int .i64) _ _ _ 0 [.int .i64 0] from rfl) (Reps.none _ _))))); intro v149 w31 ho32 hb hg_ hnew_; clear hg_ hnew_; (first | rw [← Ny148.out] at ho32 | (simp only [Int.reduceToNat] at ho32; rw [← Ny148.out] at ho32)); refine up9 (am (Kd.R_below (by (with_reducible repeat (first | apply Kd.R_alloc | apply Kd.R_drewN | apply Kd.R_drew)); exact (Kd.R_mono (Kd.R_far (p := ⟨gb147, 1, none⟩) (Kd.R_far (p := ⟨gb147, 0, none⟩) (Kd.R_types HO129.out BK147.out (by decide)) (fun _ hk => hk.2) (.int .i64 t145)) (fun _ hk => hk.2) (.int .i64 t146)) (fun _ h_ => h_.1))) hb)) (am (Kd.R_below (by (with_reducible repeat (first | apply Kd.R_alloc | apply Kd.R_drewN | apply Kd.R_drew)); exact (Kd.R_mono (Kd.R_far (p := ⟨gb147, 1, none⟩) (Kd.R_far (p := ⟨gb147, 0, none⟩) (Kd.R_types HO132.out BK147.out (by decide)) (fun _ hk => hk.2) (.int .i64 t145)) (fun _ hk => hk.2) (.int .i64 t146)) (fun _ h_ => h_.1))) hb)) (am (Kd.R_elder' (by (with_reducible repeat (first | apply Kd.R_alloc | apply Kd.R_drewN | apply Kd.R_drew)); exact (Kd.R_mono (Kd.R_far (p := ⟨gb147, 1, none⟩) (Kd.R_far (p := ⟨gb147, 0, none⟩) (Kd.R_types HO135.out BK147.out (by decide)) (fun _ hk => hk.2) (.int .i64 t145)) (fun _ hk => hk.2) (.int .i64 t146)) (fun _ h_ => h_.1))) (Kd.R_base ho32) hb)) (am (Kd.R_elder' (by (with_reducible repeat (first | apply Kd.R_alloc | apply Kd.R_drewN | apply Kd.R_drew)); exact (Kd.R_mono (Kd.R_far (p := ⟨gb147, 1, none⟩) (Kd.R_far (p := ⟨gb147, 0, none⟩) (Kd.R_types HO141.out BK147.out (by decide)) (fun _ hk => hk.2) (.int .i64 t145)) (fun _ hk => hk.2) (.int .i64 t146)) (fun _ h_ => h_.1))) (Kd.R_base ho32) hb)) (am (Kd.R_elder' (by (with_reducible repeat (first | apply Kd.R_alloc | apply Kd.R_drewN | apply Kd.R_drew)); exact (Kd.R_mono (Kd.R_far (p := ⟨gb147, 1, none⟩) (Kd.R_far (p := ⟨gb147, 0, none⟩) (Kd.R_types HO144.out BK147.out (by decide)) (fun _ hk => hk.2) (.int .i64 t145)) (fun _ hk => hk.2) (.int .i64 t146)) (fun _ h_ => h_.1))) (Kd.R_base ho32) hb)) (am (Kd.R_lower (Kd.R_new' (Kd.R_new' (Kd.R_new' ho32 (Kd.R_lt (by (with_reducible repeat (first | apply Kd.R_alloc | apply Kd.R_drewN | apply Kd.R_drew)); exact (Kd.R_mono (Kd.R_far (p := ⟨gb147, 1, none⟩) (Kd.R_far (p := ⟨gb147, 0, none⟩) (Kd.R_types HO135.out BK147.out (by decide)) (fun _ hk => hk.2) (.int .i64 t145)) (fun _ hk => hk.2) (.int .i64 t146)) (fun _ h_ => h_.1))))) (Kd.R_lt (by (with_reducible repeat (first | apply Kd.R_alloc | apply Kd.R_drewN | apply Kd.R_drew)); exact (Kd.R_mono (Kd.R_far (p := ⟨gb147, 1, none⟩) (Kd.R_far (p := ⟨gb147, 0, none⟩) (Kd.R_types HO141.out BK147.out (by decide)) (fun _ hk => hk.2) (.int .i64 t145)) (fun _ hk => hk.2) (.int .i64 t146)) (fun _ h_ => h_.1))))) (Kd.R_lt (by (with_reducible repeat (first | apply Kd.R_alloc | apply Kd.R_drewN | apply Kd.R_drew)); exact (Kd.R_mono (Kd.R_far (p := ⟨gb147, 1, none⟩) (Kd.R_far (p := ⟨gb147, 0, none⟩) (Kd.R_types HO144.out BK147.out (by decide)) (fun _ hk => hk.2) (.int .i64 t145)) (fun _ hk => hk.2) (.int .i64 t146)) (fun _ h_ => h_.1))))) (below_size qB))) (bP (o := .cells #[.int .i64 t136, .int .i64 t137] 24 (0, 0)) BK138 hb) (bP (o := .cells #[.int .i64 t145, .int .i64 t146] 24 (0, 0)) BK147 hb) (bH hb) ?_; clear HO129 HO132 HO135 HO141 HO144 BK138 BK147 HB hb ho32; intro HO129 HO132 HO135 HO141 HO144 HO150 BK138 BK147 HB; obtain ⟨Ao33, co33, eo33⟩ := Kd.R_slice HO150.out; subst eo33) | ((with_reducible refine gate_callee (f := 16) rfl ?_); refine goesL_ (some 22) rfl rfl Try.func16 (by kernel_rfl) rfl #[.slice Ao33 y148.length co33] rfl qA ?_; (with_reducible refine (arrange_Inverse.calls _ _ y148 t151 t154 t155 _ ?side1 ?side2 A3.out).mono ?_); (case side1 => repeat (first | exact (Kd.R_reads' HO150.out).2.2 | (with_reducible refine Kd.C_alloc ?_ _) | (with_reducible refine Kd.C_drewN ?_ _) | (with_reducible refine Kd.C_drew ?_))); (case side2 => exact (Kd.R_reads' HO150.out).2.1); rintro e w34 ⟨v152, rfl, ho0, hb⟩; refine ⟨_, rfl, ?_⟩; refine up10 (am (Kd.R_below (qR HO129) hb)) (am (Kd.R_below (qR HO132) hb)) (am (Kd.R_elder' (qR HO135) (Kd.R_base ho0) hb)) (am (Kd.R_elder' (qR HO141) (Kd.R_base ho0) hb)) (am (Kd.R_elder' (qR HO144) (Kd.R_base ho0) hb)) (am (Kd.R_elder' (qR HO150) (Kd.R_base ho0) hb)) (am (Kd.R_lower (Kd.R_new' (Kd.R_new' (Kd.R_new' (Kd.R_new' ho0 (Kd.R_lt (qR HO135))) (Kd.R_lt (qR HO141))) (Kd.R_lt (qR HO144))) (Kd.R_lt (qR HO150))) (below_size qB))) (bB BK138 hb) (bB BK147 hb) (bH hb) ?_; clear HO129 HO132 HO135 HO141 HO144 HO150 BK138 BK147 HB; intro HO129 HO132 HO135 HO141 HO144 HO150 HO153 BK138 BK147 HB; (try clear hb); (try clear hb2); (try clear hk); (try clear hi); (try clear ho0)) | ((with_reducible refine gate_dst (N := 6) rfl ?_); (try (refine gate_guard (by rfl) ?_; dsimp only)); refine qX (N := 6) (cs := #[.int .i64 0, .int .i64 0]) (t := 24) ?_; intro gb156 hg w35 hbox hb; refine up17 (am (Kd.R_below (qR HO129) hb)) (am (Kd.R_below (qR HO132) hb)) (am (Kd.R_below (qR HO135) hb)) (am (Kd.R_below (qR HO141) hb)) (am (Kd.R_below (qR HO144) hb)) (am (Kd.R_below (qR HO150) hb)) (am (Kd.R_below (qR HO153) hb)) (bB BK138 hb) (bB BK147 hb) (bH hb) (am hbox) (bW hg) (bW hg) (bL BK138 hg) (bG BK138 hg) (bL BK147 hg) (bG BK147 hg) ?_; clear HO129 HO132 HO135 HO141 HO144 HO150 HO153 BK138 BK147 HB hb hbox hg; intro HO129 HO132 HO135 HO141 HO144 HO150 HO153 BK138 BK147 HB BK156 GW156 GE156 NB138_156 NB156_138 NB147_156 NB156_147; have hnb36 := NB156_138.out; have hnc36 := NB138_156.out; have hnb37 := NB156_147.out; have hnc37 := NB147_156.out; have hcz38 := blkC2 BK156.out) | ((with_reducible refine gate_dst (N := 26) rfl ?_); (try (refine gate_guard (by rfl) ?_; dsimp only)); refine Kd.R_lit (Kd.int .i64) _ 3 ?hg (N := 26) ?hd (xs := ([1] : List Int)) (inner := [.int .i64 1]) (ok := fun _ => True) (okp := fun _ => True) ?hr ?hp (fun _ hk => hk) trivial (Below.refl _ _) (Nat.le_refl _) (by simp) ?_; (case hd => rfl); (case hg => rfl); (case hr => first | (go_simp; done) | (go_simp; rfl)); (case hp => exact (Reps.one (show Kd.M (Kd.int .i64) _ _ _ 1 [.int .i64 1] from rfl) (Reps.none _ _))); intro v158 w39 ho40 hb hg_ hnew_; clear hg_ hnew_; (first | rw [← Ny157.out] at ho40 | (simp only [Int.reduceToNat] at ho40; rw [← Ny157.out] at ho40)); refine up12 (am (Kd.R_below (by (with_reducible repeat (first | apply Kd.R_alloc | apply Kd.R_drewN | apply Kd.R_drew)); exact (Kd.R_mono (Kd.R_far (p := ⟨gb156, 1, none⟩) (Kd.R_far (p := ⟨gb156, 0, none⟩) (Kd.R_types HO129.out BK156.out (by decide)) (fun _ hk => hk.2) (.int .i64 t154)) (fun _ hk => hk.2) (.int .i64 t155)) (fun _ h_ => h_.1))) hb)) (am (Kd.R_below (by (with_reducible repeat (first | apply Kd.R_alloc | apply Kd.R_drewN | apply Kd.R_drew)); exact (Kd.R_mono (Kd.R_far (p := ⟨gb156, 1, none⟩) (Kd.R_far (p := ⟨gb156, 0, none⟩) (Kd.R_types HO132.out BK156.out (by decide)) (fun _ hk => hk.2) (.int .i64 t154)) (fun _ hk => hk.2) (.int .i64 t155)) (fun _ h_ => h_.1))) hb)) (am (Kd.R_elder' (by (with_reducible repeat (first | apply Kd.R_alloc | apply Kd.R_drewN | apply Kd.R_drew)); exact (Kd.R_mono (Kd.R_far (p := ⟨gb156, 1, none⟩) (Kd.R_far (p := ⟨gb156, 0, none⟩) (Kd.R_types HO135.out BK156.out (by decide)) (fun _ hk => hk.2) (.int .i64 t154)) (fun _ hk => hk.2) (.int .i64 t155)) (fun _ h_ => h_.1))) (Kd.R_base ho40) hb)) (am (Kd.R_elder' (by (with_reducible repeat (first | apply Kd.R_alloc | apply Kd.R_drewN | apply Kd.R_drew)); exact (Kd.R_mono (Kd.R_far (p := ⟨gb156, 1, none⟩) (Kd.R_far (p := ⟨gb156, 0, none⟩) (Kd.R_types HO141.out BK156.out (by decide)) (fun _ hk => hk.2) (.int .i64 t154)) (fun _ hk => hk.2) (.int .i64 t155)) (fun _ h_ => h_.1))) (Kd.R_base ho40) hb)) (am (Kd.R_elder' (by (with_reducible repeat (first | apply Kd.R_alloc | apply Kd.R_drewN | apply Kd.R_drew)); exact (Kd.R_mono (Kd.R_far (p := ⟨gb156, 1, none⟩) (Kd.R_far (p := ⟨gb156, 0, none⟩) (Kd.R_types HO144.out BK156.out (by decide)) (fun _ hk => hk.2) (.int .i64 t154)) (fun _ hk => hk.2) (.int .i64 t155)) (fun _ h_ => h_.1))) (Kd.R_base ho40) hb)) (am (Kd.R_elder' (by (with_reducible repeat (first | apply Kd.R_alloc | apply Kd.R_drewN | apply Kd.R_drew)); exact (Kd.R_mono (Kd.R_far (p := ⟨gb156, 1, none⟩) (Kd.R_far (p := ⟨gb156, 0, none⟩) (Kd.R_types HO150.out BK156.out (by decide)) (fun _ hk => hk.2) (.int .i64 t154)) (fun _ hk => hk.2) (.int .i64 t155)) (fun _ h_ => h_.1))) (Kd.R_base ho40) hb)) (am (Kd.R_elder' (by (with_reducible repeat (first | apply Kd.R_alloc | apply Kd.R_drewN | apply Kd.R_drew)); exact (Kd.R_mono (Kd.R_far (p := ⟨gb156, 1, none⟩) (Kd.R_far (p := ⟨gb156, 0, none⟩) (Kd.R_types HO153.out BK156.out (by decide)) (fun _ hk => hk.2) (.int .i64 t154)) (fun _ hk => hk.2) (.int .i64 t155)) (fun _ h_ => h_.1))) (Kd.R_base ho40) hb)) (am (Kd.R_lower (Kd.R_new' (Kd.R_new' (Kd.R_new' (Kd.R_new' (Kd.R_new' ho40 (Kd.R_lt (by (with_reducible repeat (first | apply Kd.R_alloc | apply Kd.R_drewN | apply Kd.R_drew)); exact (Kd.R_mono (Kd.R_far (p := ⟨gb156, 1, none⟩) (Kd.R_far (p := ⟨gb156, 0, none⟩) (Kd.R_types HO135.out BK156.out (by decide)) (fun _ hk => hk.2) (.int .i64 t154)) (fun _ hk => hk.2) (.int .i64 t155)) (fun _ h_ => h_.1))))) (Kd.R_lt (by (with_reducible repeat (first | apply Kd.R_alloc | apply Kd.R_drewN | apply Kd.R_drew)); exact (Kd.R_mono (Kd.R_far (p := ⟨gb156, 1, none⟩) (Kd.R_far (p := ⟨gb156, 0, none⟩) (Kd.R_types HO141.out BK156.out (by decide)) (fun _ hk => hk.2) (.int .i64 t154)) (fun _ hk => hk.2) (.int .i64 t155)) (fun _ h_ => h_.1))))) (Kd.R_lt (by (with_reducible repeat (first | apply Kd.R_alloc | apply Kd.R_drewN | apply Kd.R_drew)); exact (Kd.R_mono (Kd.R_far (p := ⟨gb156, 1, none⟩) (Kd.R_far (p := ⟨gb156, 0, none⟩) (Kd.R_types HO144.out BK156.out (by decide)) (fun _ hk => hk.2) (.int .i64 t154)) (fun _ hk => hk.2) (.int .i64 t155)) (fun _ h_ => h_.1))))) (Kd.R_lt (by (with_reducible repeat (first | apply Kd.R_alloc | apply Kd.R_drewN | apply Kd.R_drew)); exact (Kd.R_mono (Kd.R_far (p := ⟨gb156, 1, none⟩) (Kd.R_far (p := ⟨gb156, 0, none⟩) (Kd.R_types HO150.out BK156.out (by decide)) (fun _ hk => hk.2) (.int .i64 t154)) (fun _ hk => hk.2) (.int .i64 t155)) (fun _ h_ => h_.1))))) (Kd.R_lt (by (with_reducible repeat (first | apply Kd.R_alloc | apply Kd.R_drewN | apply Kd.R_drew)); exact (Kd.R_mono (Kd.R_far (p := ⟨gb156, 1, none⟩) (Kd.R_far (p := ⟨gb156, 0, none⟩) (Kd.R_types HO153.out BK156.out (by decide)) (fun _ hk => hk.2) (.int .i64 t154)) (fun _ hk => hk.2) (.int .i64 t155)) (fun _ h_ => h_.1))))) (below_size qB))) (bP (o := .cells #[.int .i64 t136, .int .i64 t137] 24 (0, 0)) BK138 hb) (bP (o := .cells #[.int .i64 t145, .int .i64 t146] 24 (0, 0)) BK147 hb) (bP (o := .cells #[.int .i64 t154, .int .i64 t155] 24 (0, 0)) BK156 hb) (bH hb) ?_; clear HO129 HO132 HO135 HO141 HO144 HO150 HO153 BK138 BK147 BK156 HB hb ho40; intro HO129 HO132 HO135 HO141 HO144 HO150 HO153 HO159 BK138 BK147 BK156 HB; obtain ⟨Ao41, co41, eo41⟩ := Kd.R_slice HO159.out; subst eo41) | ((with_reducible refine gate_callee (f := 16) rfl ?_); refine goesL_ (some 27) rfl rfl Try.func16 (by kernel_rfl) rfl #[.slice Ao41 y157.length co41] rfl qA ?_; (with_reducible refine (arrange_Inverse.calls _ _ y157 t160 t163 t164 _ ?side1 ?side2 A4.out).mono ?_); (case side1 => repeat (first | exact (Kd.R_reads' HO159.out).2.2 | (with_reducible refine Kd.C_alloc ?_ _) | (with_reducible refine Kd.C_drewN ?_ _) | (with_reducible refine Kd.C_drew ?_))); (case side2 => exact (Kd.R_reads' HO159.out).2.1); rintro e w42 ⟨v161, rfl, ho0, hb⟩; refine ⟨_, rfl, ?_⟩; refine up13 (am (Kd.R_below (qR HO129) hb)) (am (Kd.R_below (qR HO132) hb)) (am (Kd.R_elder' (qR HO135) (Kd.R_base ho0) hb)) (am (Kd.R_elder' (qR HO141) (Kd.R_base ho0) hb)) (am (Kd.R_elder' (qR HO144) (Kd.R_base ho0) hb)) (am (Kd.R_elder' (qR HO150) (Kd.R_base ho0) hb)) (am (Kd.R_elder' (qR HO153) (Kd.R_base ho0) hb)) (am (Kd.R_elder' (qR HO159) (Kd.R_base ho0) hb)) (am (Kd.R_lower (Kd.R_new' (Kd.R_new' (Kd.R_new' (Kd.R_new' (Kd.R_new' (Kd.R_new' ho0 (Kd.R_lt (qR HO135))) (Kd.R_lt (qR HO141))) (Kd.R_lt (qR HO144))) (Kd.R_lt (qR HO150))) (Kd.R_lt (qR HO153))) (Kd.R_lt (qR HO159))) (below_size qB))) (bB BK138 hb) (bB BK147 hb) (bB BK156 hb) (bH hb) ?_; clear HO129 HO132 HO135 HO141 HO144 HO150 HO153 HO159 BK138 BK147 BK156 HB; intro HO129 HO132 HO135 HO141 HO144 HO150 HO153 HO159 HO162 BK138 BK147 BK156 HB; (try clear hb); (try clear hb2); (try clear hk); (try clear hi); (try clear ho0)) | ((with_reducible refine gate_dst (N := 8) rfl ?_); (try (refine gate_guard (by rfl) ?_; dsimp only)); refine qX (N := 8) (cs := #[.int .i64 0, .int .i64 0]) (t := 24) ?_; intro gb165 hg w43 hbox hb; refine up22 (am (Kd.R_below (qR HO129) hb)) (am (Kd.R_below (qR HO132) hb)) (am (Kd.R_below (qR HO135) hb)) (am (Kd.R_below (qR HO141) hb)) (am (Kd.R_below (qR HO144) hb)) (am (Kd.R_below (qR HO150) hb)) (am (Kd.R_below (qR HO153) hb)) (am (Kd.R_below (qR HO159) hb)) (am (Kd.R_below (qR HO162) hb)) (bB BK138 hb) (bB BK147 hb) (bB BK156 hb) (bH hb) (am hbox) (bW hg) (bW hg) (bL BK138 hg) (bG BK138 hg) (bL BK147 hg) (bG BK147 hg) (bL BK156 hg) (bG BK156 hg) ?_; clear HO129 HO132 HO135 HO141 HO144 HO150 HO153 HO159 HO162 BK138 BK147 BK156 HB hb hbox hg; intro HO129 HO132 HO135 HO141 HO144 HO150 HO153 HO159 HO162 BK138 BK147 BK156 HB BK165 GW165 GE165 NB138_165 NB165_138 NB147_165 NB165_147 NB156_165 NB165_156; have hnb44 := NB165_138.out; have hnc44 := NB138_165.out; have hnb45 := NB165_147.out; have hnc45 := NB147_165.out; have hnb46 := NB165_156.out; have hnc46 := NB156_165.out; have hcz47 := blkC2 BK165.out))
       have n0_ : Aside0 (Kd.R Kd.string 9 ((w43.setCell ⟨gb165, 0, none⟩ (.int .i64 t163)).setCell ⟨gb165, 1, none⟩ (.int .i64 t164)) w.heap.size (fun k_ => some k_ ≠ (.slice Ao20 y130.length co20 : Value).ownBlock) (.slice Ao19 y127.length co19) y127) := ⟨by (with_reducible repeat (first | apply Kd.R_alloc | apply Kd.R_drewN | apply Kd.R_drew)); exact Kd.R_mono (Kd.R_far (p := ⟨gb165, 1, none⟩) (Kd.R_far (p := ⟨gb165, 0, none⟩) (Kd.R_types HO129.out BK165.out (by decide)) (fun _ hk => hk.2) (.int .i64 t163)) (fun _ hk => hk.2) (.int .i64 t164)) (fun _ hk => hk.1.2)⟩
       have n1_ : Aside0 (Kd.R Kd.string 9 ((w43.setCell ⟨gb165, 0, none⟩ (.int .i64 t163)).setCell ⟨gb165, 1, none⟩ (.int .i64 t164)) w.heap.size (fun k_ => some k_ ≠ (.slice Ao19 y127.length co19 : Value).ownBlock) (.slice Ao20 y130.length co20) y130) := ⟨by (with_reducible repeat (first | apply Kd.R_alloc | apply Kd.R_drewN | apply Kd.R_drew)); exact Kd.R_mono (Kd.R_far (p := ⟨gb165, 1, none⟩) (Kd.R_far (p := ⟨gb165, 0, none⟩) (Kd.R_types HO132.out BK165.out (by decide)) (fun _ hk => hk.2) (.int .i64 t163)) (fun _ hk => hk.2) (.int .i64 t164)) (fun _ hk => hk.1.2)⟩
       have n2_ : Aside0 (Kd.R (Kd.int .i64) 3 ((w43.setCell ⟨gb165, 0, none⟩ (.int .i64 t163)).setCell ⟨gb165, 1, none⟩ (.int .i64 t164)) w.heap.size (fun k_ => some k_ ≠ (.slice Ao26 y139.length co26 : Value).ownBlock ∧ some k_ ≠ (v143 : Value).ownBlock ∧ some k_ ≠ (.slice Ao33 y148.length co33 : Value).ownBlock ∧ some k_ ≠ (v152 : Value).ownBlock ∧ some k_ ≠ (.slice Ao41 y157.length co41 : Value).ownBlock ∧ some k_ ≠ (v161 : Value).ownBlock) v134 t133) := ⟨by (with_reducible repeat (first | apply Kd.R_alloc | apply Kd.R_drewN | apply Kd.R_drew)); exact Kd.R_mono (Kd.R_far (p := ⟨gb165, 1, none⟩) (Kd.R_far (p := ⟨gb165, 0, none⟩) (Kd.R_types HO135.out BK165.out (by decide)) (fun _ hk => hk.2) (.int .i64 t163)) (fun _ hk => hk.2) (.int .i64 t164)) (fun _ hk => ⟨hk.1.1.1.1.1.1.2, ⟨hk.1.1.1.1.1.2, ⟨hk.1.1.1.1.2, ⟨hk.1.1.1.2, ⟨hk.1.1.2, hk.1.2⟩⟩⟩⟩⟩)⟩
       have n3_ : Aside0 (Kd.R (Kd.int .i64) 3 ((w43.setCell ⟨gb165, 0, none⟩ (.int .i64 t163)).setCell ⟨gb165, 1, none⟩ (.int .i64 t164)) w.heap.size (fun k_ => some k_ ≠ (v134 : Value).ownBlock ∧ some k_ ≠ (v143 : Value).ownBlock ∧ some k_ ≠ (.slice Ao33 y148.length co33 : Value).ownBlock ∧ some k_ ≠ (v152 : Value).ownBlock ∧ some k_ ≠ (.slice Ao41 y157.length co41 : Value).ownBlock ∧ some k_ ≠ (v161 : Value).ownBlock) (.slice Ao26 y139.length co26) y139) := ⟨by (with_reducible repeat (first | apply Kd.R_alloc | apply Kd.R_drewN | apply Kd.R_drew)); exact Kd.R_mono (Kd.R_far (p := ⟨gb165, 1, none⟩) (Kd.R_far (p := ⟨gb165, 0, none⟩) (Kd.R_types HO141.out BK165.out (by decide)) (fun _ hk => hk.2) (.int .i64 t163)) (fun _ hk => hk.2) (.int .i64 t164)) (fun _ hk => ⟨hk.1.1.1.1.1.1.2, ⟨hk.1.1.1.1.1.2, ⟨hk.1.1.1.1.2, ⟨hk.1.1.1.2, ⟨hk.1.1.2, hk.1.2⟩⟩⟩⟩⟩)⟩
       have n4_ : Aside0 (Kd.R (Kd.int .i64) 3 ((w43.setCell ⟨gb165, 0, none⟩ (.int .i64 t163)).setCell ⟨gb165, 1, none⟩ (.int .i64 t164)) w.heap.size (fun k_ => some k_ ≠ (v134 : Value).ownBlock ∧ some k_ ≠ (.slice Ao26 y139.length co26 : Value).ownBlock ∧ some k_ ≠ (.slice Ao33 y148.length co33 : Value).ownBlock ∧ some k_ ≠ (v152 : Value).ownBlock ∧ some k_ ≠ (.slice Ao41 y157.length co41 : Value).ownBlock ∧ some k_ ≠ (v161 : Value).ownBlock) v143 t142) := ⟨by (with_reducible repeat (first | apply Kd.R_alloc | apply Kd.R_drewN | apply Kd.R_drew)); exact Kd.R_mono (Kd.R_far (p := ⟨gb165, 1, none⟩) (Kd.R_far (p := ⟨gb165, 0, none⟩) (Kd.R_types HO144.out BK165.out (by decide)) (fun _ hk => hk.2) (.int .i64 t163)) (fun _ hk => hk.2) (.int .i64 t164)) (fun _ hk => ⟨hk.1.1.1.1.1.1.2, ⟨hk.1.1.1.1.1.2, ⟨hk.1.1.1.1.2, ⟨hk.1.1.1.2, ⟨hk.1.1.2, hk.1.2⟩⟩⟩⟩⟩)⟩
       have n5_ : Aside0 (Kd.R (Kd.int .i64) 3 ((w43.setCell ⟨gb165, 0, none⟩ (.int .i64 t163)).setCell ⟨gb165, 1, none⟩ (.int .i64 t164)) w.heap.size (fun k_ => some k_ ≠ (v134 : Value).ownBlock ∧ some k_ ≠ (.slice Ao26 y139.length co26 : Value).ownBlock ∧ some k_ ≠ (v143 : Value).ownBlock ∧ some k_ ≠ (v152 : Value).ownBlock ∧ some k_ ≠ (.slice Ao41 y157.length co41 : Value).ownBlock ∧ some k_ ≠ (v161 : Value).ownBlock) (.slice Ao33 y148.length co33) y148) := ⟨by (with_reducible repeat (first | apply Kd.R_alloc | apply Kd.R_drewN | apply Kd.R_drew)); exact Kd.R_mono (Kd.R_far (p := ⟨gb165, 1, none⟩) (Kd.R_far (p := ⟨gb165, 0, none⟩) (Kd.R_types HO150.out BK165.out (by decide)) (fun _ hk => hk.2) (.int .i64 t163)) (fun _ hk => hk.2) (.int .i64 t164)) (fun _ hk => ⟨hk.1.1.1.1.1.1.2, ⟨hk.1.1.1.1.1.2, ⟨hk.1.1.1.1.2, ⟨hk.1.1.1.2, ⟨hk.1.1.2, hk.1.2⟩⟩⟩⟩⟩)⟩
       have n6_ : Aside0 (Kd.R (Kd.int .i64) 3 ((w43.setCell ⟨gb165, 0, none⟩ (.int .i64 t163)).setCell ⟨gb165, 1, none⟩ (.int .i64 t164)) w.heap.size (fun k_ => some k_ ≠ (v134 : Value).ownBlock ∧ some k_ ≠ (.slice Ao26 y139.length co26 : Value).ownBlock ∧ some k_ ≠ (v143 : Value).ownBlock ∧ some k_ ≠ (.slice Ao33 y148.length co33 : Value).ownBlock ∧ some k_ ≠ (.slice Ao41 y157.length co41 : Value).ownBlock ∧ some k_ ≠ (v161 : Value).ownBlock) v152 t151) := ⟨by (with_reducible repeat (first | apply Kd.R_alloc | apply Kd.R_drewN | apply Kd.R_drew)); exact Kd.R_mono (Kd.R_far (p := ⟨gb165, 1, none⟩) (Kd.R_far (p := ⟨gb165, 0, none⟩) (Kd.R_types HO153.out BK165.out (by decide)) (fun _ hk => hk.2) (.int .i64 t163)) (fun _ hk => hk.2) (.int .i64 t164)) (fun _ hk => ⟨hk.1.1.1.1.1.1.2, ⟨hk.1.1.1.1.1.2, ⟨hk.1.1.1.1.2, ⟨hk.1.1.1.2, ⟨hk.1.1.2, hk.1.2⟩⟩⟩⟩⟩)⟩
       have n7_ : Aside0 (Kd.R (Kd.int .i64) 3 ((w43.setCell ⟨gb165, 0, none⟩ (.int .i64 t163)).setCell ⟨gb165, 1, none⟩ (.int .i64 t164)) w.heap.size (fun k_ => some k_ ≠ (v134 : Value).ownBlock ∧ some k_ ≠ (.slice Ao26 y139.length co26 : Value).ownBlock ∧ some k_ ≠ (v143 : Value).ownBlock ∧ some k_ ≠ (.slice Ao33 y148.length co33 : Value).ownBlock ∧ some k_ ≠ (v152 : Value).ownBlock ∧ some k_ ≠ (v161 : Value).ownBlock) (.slice Ao41 y157.length co41) y157) := ⟨by (with_reducible repeat (first | apply Kd.R_alloc | apply Kd.R_drewN | apply Kd.R_drew)); exact Kd.R_mono (Kd.R_far (p := ⟨gb165, 1, none⟩) (Kd.R_far (p := ⟨gb165, 0, none⟩) (Kd.R_types HO159.out BK165.out (by decide)) (fun _ hk => hk.2) (.int .i64 t163)) (fun _ hk => hk.2) (.int .i64 t164)) (fun _ hk => ⟨hk.1.1.1.1.1.1.2, ⟨hk.1.1.1.1.1.2, ⟨hk.1.1.1.1.2, ⟨hk.1.1.1.2, ⟨hk.1.1.2, hk.1.2⟩⟩⟩⟩⟩)⟩
       have n8_ : Aside0 (Kd.R (Kd.int .i64) 3 ((w43.setCell ⟨gb165, 0, none⟩ (.int .i64 t163)).setCell ⟨gb165, 1, none⟩ (.int .i64 t164)) w.heap.size (fun k_ => some k_ ≠ (v134 : Value).ownBlock ∧ some k_ ≠ (.slice Ao26 y139.length co26 : Value).ownBlock ∧ some k_ ≠ (v143 : Value).ownBlock ∧ some k_ ≠ (.slice Ao33 y148.length co33 : Value).ownBlock ∧ some k_ ≠ (v152 : Value).ownBlock ∧ some k_ ≠ (.slice Ao41 y157.length co41 : Value).ownBlock) v161 t160) := ⟨by (with_reducible repeat (first | apply Kd.R_alloc | apply Kd.R_drewN | apply Kd.R_drew)); exact Kd.R_mono (Kd.R_far (p := ⟨gb165, 1, none⟩) (Kd.R_far (p := ⟨gb165, 0, none⟩) (Kd.R_types HO162.out BK165.out (by decide)) (fun _ hk => hk.2) (.int .i64 t163)) (fun _ hk => hk.2) (.int .i64 t164)) (fun _ hk => ⟨hk.1.1.1.1.1.1.2, ⟨hk.1.1.1.1.1.2, ⟨hk.1.1.1.1.2, ⟨hk.1.1.1.2, ⟨hk.1.1.2, hk.1.2⟩⟩⟩⟩⟩)⟩
       have n9_ : Aside0 (((w43.setCell ⟨gb165, 0, none⟩ (.int .i64 t163)).setCell ⟨gb165, 1, none⟩ (.int .i64 t164)).heap[gb138]? = some (.cells #[.int .i64 t136, .int .i64 t137] 24 (0, 0))) := ⟨qP BK138⟩
       have n10_ : Aside0 (((w43.setCell ⟨gb165, 0, none⟩ (.int .i64 t163)).setCell ⟨gb165, 1, none⟩ (.int .i64 t164)).heap[gb147]? = some (.cells #[.int .i64 t145, .int .i64 t146] 24 (0, 0))) := ⟨qP BK147⟩
       have n11_ : Aside0 (((w43.setCell ⟨gb165, 0, none⟩ (.int .i64 t163)).setCell ⟨gb165, 1, none⟩ (.int .i64 t164)).heap[gb156]? = some (.cells #[.int .i64 t154, .int .i64 t155] 24 (0, 0))) := ⟨qP BK156⟩
       have n12_ : Aside0 (((w43.setCell ⟨gb165, 0, none⟩ (.int .i64 t163)).setCell ⟨gb165, 1, none⟩ (.int .i64 t164)).heap[gb165]? = some (.cells #[.int .i64 t163, .int .i64 t164] 24 (0, 0))) := ⟨qP BK165⟩
       have n13_ : Aside0 (Below w.heap.size w ((w43.setCell ⟨gb165, 0, none⟩ (.int .i64 t163)).setCell ⟨gb165, 1, none⟩ (.int .i64 t164))) := ⟨qB⟩
       (try clear HO129)
       (try clear HO132)
       (try clear HO135)
       (try clear HO141)
       (try clear HO144)
       (try clear HO150)
       (try clear HO153)
       (try clear HO159)
       (try clear HO162)
       (try clear BK138)
       (try clear BK147)
       (try clear BK156)
       (try clear BK165)
       (try clear HB)
       generalize ((w43.setCell ⟨gb165, 0, none⟩ (.int .i64 t163)).setCell ⟨gb165, 1, none⟩ (.int .i64 t164)) = w48 at n0_ n1_ n2_ n3_ n4_ n5_ n6_ n7_ n8_ n9_ n10_ n11_ n12_ n13_ ⊢
       have HO129 := n0_
       have HO132 := n1_
       have HO135 := n2_
       have HO141 := n3_
       have HO144 := n4_
       have HO150 := n5_
       have HO153 := n6_
       have HO159 := n7_
       have HO162 := n8_
       have BK138 := n9_
       have BK147 := n10_
       have BK156 := n11_
       have BK165 := n12_
       have HB := n13_
       clear n0_ n1_ n2_ n3_ n4_ n5_ n6_ n7_ n8_ n9_ n10_ n11_ n12_ n13_
       refine up14 (am (Kd.R_drew HO129.out)) (am (Kd.R_drew HO132.out)) (am (Kd.R_drew HO135.out)) (am (Kd.R_drew HO141.out)) (am (Kd.R_drew HO144.out)) (am (Kd.R_drew HO150.out)) (am (Kd.R_drew HO153.out)) (am (Kd.R_drew HO159.out)) (am (Kd.R_drew HO162.out)) (am (blk_drew BK138.out)) (am (blk_drew BK147.out)) (am (blk_drew BK156.out)) (am (blk_drew BK165.out)) (am (below_drew1 HB.out)) ?_
       clear HO129 HO132 HO135 HO141 HO144 HO150 HO153 HO159 HO162 BK138 BK147 BK156 BK165 HB
       intro HO129 HO132 HO135 HO141 HO144 HO150 HO153 HO159 HO162 BK138 BK147 BK156 BK165 HB
       refine start_ (n := 34) (S := fun w' => w'.cell? ⟨gb138, 0, none⟩ = some (.int .i64 t136) ∧ w'.cell? ⟨gb138, 1, none⟩ = some (.int .i64 t137) ∧ w'.cell? ⟨gb147, 0, none⟩ = some (.int .i64 t145) ∧ w'.cell? ⟨gb147, 1, none⟩ = some (.int .i64 t146) ∧ w'.cell? ⟨gb156, 0, none⟩ = some (.int .i64 t154) ∧ w'.cell? ⟨gb156, 1, none⟩ = some (.int .i64 t155) ∧ w'.cell? ⟨gb165, 0, none⟩ = some (.int .i64 t163) ∧ w'.cell? ⟨gb165, 1, none⟩ = some (.int .i64 t164)) (ds := []) #[false, false, false, false, false, false, false, false, false, false, false, false, false, false, false, false, false, false, false, false, false, false, false, false, false, false, false, false, false, false, false, false, false, false] (by kernel_rfl) rfl rfl ⟨(blk_cell BK138.out 0).trans rfl, (blk_cell BK138.out 1).trans rfl, (blk_cell BK147.out 0).trans rfl, (blk_cell BK147.out 1).trans rfl, (blk_cell BK156.out 0).trans rfl, (blk_cell BK156.out 1).trans rfl, (blk_cell BK165.out 0).trans rfl, (blk_cell BK165.out 1).trans rfl⟩ (fun hHeld => ?_); refine with_tabW law_orders.tab5 law_orders.bits5 (fun HT_ HW_ => ?_)
       generalize w48.drew = w49 at HO129 HO132 HO135 HO141 HO144 HO150 HO153 HO159 HO162 BK138 BK147 BK156 BK165 HB hHeld ⊢
       refine pY 0 30 (bq 34 1) HT_ ?_
       refine tY 1 31 (bq 34 3) HT_ HW_ hHeld ?_
       refine pY 2 32 (bq 34 7) HT_ ?_
       refine pY 3 33 (bq 34 15) HT_ ?_
       refine pY 4 34 (bq 34 31) HT_ ?_
       refine tY 5 35 (bq 34 63) HT_ HW_ hHeld ?_
       refine pY 6 36 (bq 34 127) HT_ ?_
       refine pY 7 37 (bq 34 255) HT_ ?_
       refine pY 8 38 (bq 34 511) HT_ ?_
       refine pY 9 39 (bq 34 1023) HT_ ?_
       refine tY 10 40 (bq 34 2047) HT_ HW_ hHeld ?_
       refine pY 11 41 (bq 34 4095) HT_ ?_
       refine pY 12 42 (bq 34 8191) HT_ ?_
       refine pY 13 43 (bq 34 16383) HT_ ?_
       refine tY 14 44 (bq 34 32767) HT_ HW_ hHeld ?_
       refine one_ (i := 15) (N := some 45) #[true, true, true, true, true, true, true, true, true, true, true, true, true, true, true, true, false, false, false, false, false, false, false, false, false, false, false, false, false, false, false, false, false, false] rfl rfl (one_of HT_.out (by kernel_rfl)) (by decide) (fun K hK => ?_)
       refine goes_ Try.func7 (by kernel_rfl) rfl #[.int .i64 5, .int .i64 (-2)] (by rfl) rfl rfl qA ?_
       with_reducible refine (ref_At.calls 5 (-2) t166 t167 _ A8.out).mono ?_
       rintro e w50 ⟨rfl, hb⟩
       refine ⟨_, rfl, ?_⟩
       refine up14 (am (Kd.R_below (qR HO129) hb)) (am (Kd.R_below (qR HO132) hb)) (am (Kd.R_below (qR HO135) hb)) (am (Kd.R_below (qR HO141) hb)) (am (Kd.R_below (qR HO144) hb)) (am (Kd.R_below (qR HO150) hb)) (am (Kd.R_below (qR HO153) hb)) (am (Kd.R_below (qR HO159) hb)) (am (Kd.R_below (qR HO162) hb)) (bB BK138 hb) (bB BK147 hb) (bB BK156 hb) (bB BK165 hb) (bH hb) ?_
       clear HO129 HO132 HO135 HO141 HO144 HO150 HO153 HO159 HO162 BK138 BK147 BK156 BK165 HB
       intro HO129 HO132 HO135 HO141 HO144 HO150 HO153 HO159 HO162 BK138 BK147 BK156 BK165 HB
       (try clear hb)
       (try clear hb2)
       (try clear hk)
       (try clear hi)
       refine hK.out _ _ ⟨(blk_cell BK138.out 0).trans rfl, (blk_cell BK138.out 1).trans rfl, (blk_cell BK147.out 0).trans rfl, (blk_cell BK147.out 1).trans rfl, (blk_cell BK156.out 0).trans rfl, (blk_cell BK156.out 1).trans rfl, (blk_cell BK165.out 0).trans rfl, (blk_cell BK165.out 1).trans rfl⟩ (fun hHeld => ?_)
       clear hK K
       refine norm_ (a' := ?_) ?_ ?_
       rotate_left
       ·show Act.put _ (some 45) _ = _
        simp only [Act.put, List.setIfInBounds_toArray, List.set_cons_zero, List.set_cons_succ, i64_w, i32_w]
        rfl
       refine pY 16 46 (bq 34 131071) HT_ ?_
       refine pY 17 47 (bq 34 262143) HT_ ?_
       refine pY 18 48 (bq 34 524287) HT_ ?_
       refine pY 19 49 (bq 34 1048575) HT_ ?_
       refine one_ (i := 20) (N := some 50) #[true, true, true, true, true, true, true, true, true, true, true, true, true, true, true, true, true, true, true, true, true, false, false, false, false, false, false, false, false, false, false, false, false, false] rfl rfl (one_of HT_.out (by kernel_rfl)) (by decide) (fun K hK => ?_)
       refine Kd.R_lit_step (Kd.int .i64) _ 3 ?hg (N := 50) ?hd (xs := ([1, 0, 2] : List Int)) (inner := [.int .i64 1, .int .i64 0, .int .i64 2]) (ok := fun _ => True) (okp := fun _ => True) ?hr ?hp (fun _ hk => hk) trivial (Below.refl _ _) (Nat.le_refl _) (by simp) ?_; (case hd => rfl); (case hg => rfl); (case hr => first | (go_simp; done) | (go_simp; rfl)); (case hp => exact (Reps.one (show Kd.M (Kd.int .i64) _ _ _ 1 [.int .i64 1] from rfl) (Reps.one (show Kd.M (Kd.int .i64) _ _ _ 0 [.int .i64 0] from rfl) (Reps.one (show Kd.M (Kd.int .i64) _ _ _ 2 [.int .i64 2] from rfl) (Reps.none _ _)))))
       intro v169 w51 ho52 hb hg_ hnew_
       clear hg_ hnew_
       (first | rw [← Ny168.out] at ho52 | (simp only [Int.reduceToNat] at ho52; rw [← Ny168.out] at ho52))
       refine up15 (am (Kd.R_below (qR HO129) hb)) (am (Kd.R_below (qR HO132) hb)) (am (Kd.R_elder' (qR HO135) (Kd.R_base ho52) hb)) (am (Kd.R_elder' (qR HO141) (Kd.R_base ho52) hb)) (am (Kd.R_elder' (qR HO144) (Kd.R_base ho52) hb)) (am (Kd.R_elder' (qR HO150) (Kd.R_base ho52) hb)) (am (Kd.R_elder' (qR HO153) (Kd.R_base ho52) hb)) (am (Kd.R_elder' (qR HO159) (Kd.R_base ho52) hb)) (am (Kd.R_elder' (qR HO162) (Kd.R_base ho52) hb)) (am (Kd.R_lower (Kd.R_new' (Kd.R_new' (Kd.R_new' (Kd.R_new' (Kd.R_new' (Kd.R_new' (Kd.R_new' ho52 (Kd.R_lt (qR HO135))) (Kd.R_lt (qR HO141))) (Kd.R_lt (qR HO144))) (Kd.R_lt (qR HO150))) (Kd.R_lt (qR HO153))) (Kd.R_lt (qR HO159))) (Kd.R_lt (qR HO162))) (below_size qB))) (bB BK138 hb) (bB BK147 hb) (bB BK156 hb) (bB BK165 hb) (bH hb) ?_
       clear HO129 HO132 HO135 HO141 HO144 HO150 HO153 HO159 HO162 BK138 BK147 BK156 BK165 HB hb ho52
       intro HO129 HO132 HO135 HO141 HO144 HO150 HO153 HO159 HO162 HO170 BK138 BK147 BK156 BK165 HB
       obtain ⟨Ao53, co53, eo53⟩ := Kd.R_slice HO135.out
       (first | subst eo53 | (injection eo53 with f1_ f2_ f3_; have f4_ := f1_.symm; have f5_ := f3_.symm; clear f1_ f2_ f3_; subst f4_; subst f5_))
       obtain ⟨Ao54, co54, eo54⟩ := Kd.R_slice HO170.out
       (first | subst eo54 | (injection eo54 with f1_ f2_ f3_; have f4_ := f1_.symm; have f5_ := f3_.symm; clear f1_ f2_ f3_; subst f4_; subst f5_))
       refine hK.out _ _ ⟨(blk_cell BK138.out 0).trans rfl, (blk_cell BK138.out 1).trans rfl, (blk_cell BK147.out 0).trans rfl, (blk_cell BK147.out 1).trans rfl, (blk_cell BK156.out 0).trans rfl, (blk_cell BK156.out 1).trans rfl, (blk_cell BK165.out 0).trans rfl, (blk_cell BK165.out 1).trans rfl⟩ (fun hHeld => ?_)
       clear hK K
       refine norm_ (a' := ?_) ?_ ?_
       rotate_left
       ·show Act.put _ (some 50) _ = _
        simp only [Act.put, List.setIfInBounds_toArray, List.set_cons_zero, List.set_cons_succ, i64_w, i32_w]
        rfl
       refine one_ (i := 21) (N := some 51) #[true, true, true, true, true, true, true, true, true, true, true, true, true, true, true, true, true, true, true, true, true, true, false, false, false, false, false, false, false, false, false, false, false, false] rfl rfl (one_of HT_.out (by kernel_rfl)) (by decide) (fun K hK => ?_)
       refine goes_ Try.func11 (by kernel_rfl) rfl #[.slice Ao53 t133.length co53, .slice Ao54 y168.length co54] (by rfl) rfl rfl qA ?_
       with_reducible refine (law_ints.calls k _ _ t133 _ _ y168 true _ ?side1 ?side2 ?side3 ?side4 A10.out).mono ?_
       (case side1 => repeat (first | exact (Kd.R_reads' HO135.out).2.2 | (with_reducible refine Kd.C_alloc ?_ _) | (with_reducible refine Kd.C_drewN ?_ _) | (with_reducible refine Kd.C_drew ?_)))
       (case side2 => exact (Kd.R_reads' HO135.out).2.1)
       (case side3 => repeat (first | exact (Kd.R_reads' HO170.out).2.2 | (with_reducible refine Kd.C_alloc ?_ _) | (with_reducible refine Kd.C_drewN ?_ _) | (with_reducible refine Kd.C_drew ?_)))
       (case side4 => exact (Kd.R_reads' HO170.out).2.1)
       rintro e w' ⟨rfl, ⟨nd, rfl⟩⟩
       refine ⟨_, rfl, ?_⟩
       refine hK.out _ _ ⟨(blk_cell BK138.out 0).trans rfl, (blk_cell BK138.out 1).trans rfl, (blk_cell BK147.out 0).trans rfl, (blk_cell BK147.out 1).trans rfl, (blk_cell BK156.out 0).trans rfl, (blk_cell BK156.out 1).trans rfl, (blk_cell BK165.out 0).trans rfl, (blk_cell BK165.out 1).trans rfl⟩ (fun hHeld => ?_)
       clear hK K
       refine norm_ (a' := ?_) ?_ ?_
       rotate_left
       ·show Act.put _ (some 51) _ = _
        simp only [Act.put, List.setIfInBounds_toArray, List.set_cons_zero, List.set_cons_succ, i64_w, i32_w]
        rfl
       refine pY 22 52 (bq 34 8388607) HT_ ?_
       refine pY 23 53 (bq 34 16777215) HT_ ?_
       refine pY 24 54 (bq 34 33554431) HT_ ?_
       refine one_ (i := 25) (N := some 55) #[true, true, true, true, true, true, true, true, true, true, true, true, true, true, true, true, true, true, true, true, true, true, true, true, true, true, false, false, false, false, false, false, false, false] rfl rfl (one_of HT_.out (by kernel_rfl)) (by decide) (fun K hK => ?_)
       refine Kd.R_lit_step (Kd.int .i64) _ 3 ?hg (N := 55) ?hd (xs := ([1, 0, 2] : List Int)) (inner := [.int .i64 1, .int .i64 0, .int .i64 2]) (ok := fun _ => True) (okp := fun _ => True) ?hr ?hp (fun _ hk => hk) trivial (Below.refl _ _) (Nat.le_refl _) (by simp) ?_; (case hd => rfl); (case hg => rfl); (case hr => first | (go_simp; done) | (go_simp; rfl)); (case hp => exact (Reps.one (show Kd.M (Kd.int .i64) _ _ _ 1 [.int .i64 1] from rfl) (Reps.one (show Kd.M (Kd.int .i64) _ _ _ 0 [.int .i64 0] from rfl) (Reps.one (show Kd.M (Kd.int .i64) _ _ _ 2 [.int .i64 2] from rfl) (Reps.none _ _)))))
       intro v173 w55 ho56 hb hg_ hnew_
       clear hg_ hnew_
       (first | rw [← Ny172.out] at ho56 | (simp only [Int.reduceToNat] at ho56; rw [← Ny172.out] at ho56))
       refine up16 (am (Kd.R_below (qR HO129) hb)) (am (Kd.R_below (qR HO132) hb)) (am (Kd.R_elder' (qR HO135) (Kd.R_base ho56) hb)) (am (Kd.R_elder' (qR HO141) (Kd.R_base ho56) hb)) (am (Kd.R_elder' (qR HO144) (Kd.R_base ho56) hb)) (am (Kd.R_elder' (qR HO150) (Kd.R_base ho56) hb)) (am (Kd.R_elder' (qR HO153) (Kd.R_base ho56) hb)) (am (Kd.R_elder' (qR HO159) (Kd.R_base ho56) hb)) (am (Kd.R_elder' (qR HO162) (Kd.R_base ho56) hb)) (am (Kd.R_elder' (qR HO170) (Kd.R_base ho56) hb)) (am (Kd.R_lower (Kd.R_new' (Kd.R_new' (Kd.R_new' (Kd.R_new' (Kd.R_new' (Kd.R_new' (Kd.R_new' (Kd.R_new' ho56 (Kd.R_lt (qR HO135))) (Kd.R_lt (qR HO141))) (Kd.R_lt (qR HO144))) (Kd.R_lt (qR HO150))) (Kd.R_lt (qR HO153))) (Kd.R_lt (qR HO159))) (Kd.R_lt (qR HO162))) (Kd.R_lt (qR HO170))) (below_size qB))) (bB BK138 hb) (bB BK147 hb) (bB BK156 hb) (bB BK165 hb) (bH hb) ?_
       clear HO129 HO132 HO135 HO141 HO144 HO150 HO153 HO159 HO162 HO170 BK138 BK147 BK156 BK165 HB hb ho56
       intro HO129 HO132 HO135 HO141 HO144 HO150 HO153 HO159 HO162 HO170 HO174 BK138 BK147 BK156 BK165 HB
       obtain ⟨Ao57, co57, eo57⟩ := Kd.R_slice HO144.out
       (first | subst eo57 | (injection eo57 with f1_ f2_ f3_; have f4_ := f1_.symm; have f5_ := f3_.symm; clear f1_ f2_ f3_; subst f4_; subst f5_))
       obtain ⟨Ao58, co58, eo58⟩ := Kd.R_slice HO174.out
       (first | subst eo58 | (injection eo58 with f1_ f2_ f3_; have f4_ := f1_.symm; have f5_ := f3_.symm; clear f1_ f2_ f3_; subst f4_; subst f5_))
       refine hK.out _ _ ⟨(blk_cell BK138.out 0).trans rfl, (blk_cell BK138.out 1).trans rfl, (blk_cell BK147.out 0).trans rfl, (blk_cell BK147.out 1).trans rfl, (blk_cell BK156.out 0).trans rfl, (blk_cell BK156.out 1).trans rfl, (blk_cell BK165.out 0).trans rfl, (blk_cell BK165.out 1).trans rfl⟩ (fun hHeld => ?_)
       clear hK K
       refine norm_ (a' := ?_) ?_ ?_
       rotate_left
       ·show Act.put _ (some 55) _ = _
        simp only [Act.put, List.setIfInBounds_toArray, List.set_cons_zero, List.set_cons_succ, i64_w, i32_w]
        rfl
       refine one_ (i := 26) (N := some 56) #[true, true, true, true, true, true, true, true, true, true, true, true, true, true, true, true, true, true, true, true, true, true, true, true, true, true, true, false, false, false, false, false, false, false] rfl rfl (one_of HT_.out (by kernel_rfl)) (by decide) (fun K hK => ?_)
       refine goes_ Try.func11 (by kernel_rfl) rfl #[.slice Ao57 t142.length co57, .slice Ao58 y172.length co58] (by rfl) rfl rfl qA ?_
       with_reducible refine (law_ints.calls k _ _ t142 _ _ y172 true _ ?side1 ?side2 ?side3 ?side4 A12.out).mono ?_
       (case side1 => repeat (first | exact (Kd.R_reads' HO144.out).2.2 | (with_reducible refine Kd.C_alloc ?_ _) | (with_reducible refine Kd.C_drewN ?_ _) | (with_reducible refine Kd.C_drew ?_)))
       (case side2 => exact (Kd.R_reads' HO144.out).2.1)
       (case side3 => repeat (first | exact (Kd.R_reads' HO174.out).2.2 | (with_reducible refine Kd.C_alloc ?_ _) | (with_reducible refine Kd.C_drewN ?_ _) | (with_reducible refine Kd.C_drew ?_)))
       (case side4 => exact (Kd.R_reads' HO174.out).2.1)
       rintro e w' ⟨rfl, ⟨nd, rfl⟩⟩
       refine ⟨_, rfl, ?_⟩
       refine hK.out _ _ ⟨(blk_cell BK138.out 0).trans rfl, (blk_cell BK138.out 1).trans rfl, (blk_cell BK147.out 0).trans rfl, (blk_cell BK147.out 1).trans rfl, (blk_cell BK156.out 0).trans rfl, (blk_cell BK156.out 1).trans rfl, (blk_cell BK165.out 0).trans rfl, (blk_cell BK165.out 1).trans rfl⟩ (fun hHeld => ?_)
       clear hK K
       refine norm_ (a' := ?_) ?_ ?_
       rotate_left
       ·show Act.put _ (some 56) _ = _
        simp only [Act.put, List.setIfInBounds_toArray, List.set_cons_zero, List.set_cons_succ, i64_w, i32_w]
        rfl
       refine pY 27 57 (bq 34 268435455) HT_ ?_
       refine pY 28 58 (bq 34 536870911) HT_ ?_
       refine pY 29 59 (bq 34 1073741823) HT_ ?_
       refine one_ (i := 30) (N := some 60) #[true, true, true, true, true, true, true, true, true, true, true, true, true, true, true, true, true, true, true, true, true, true, true, true, true, true, true, true, true, true, true, false, false, false] rfl rfl (one_of HT_.out (by kernel_rfl)) (by decide) (fun K hK => ?_)
       refine Kd.R_lit_step (Kd.int .i64) _ 3 ?hg (N := 60) ?hd (xs := ([2, 0, 1] : List Int)) (inner := [.int .i64 2, .int .i64 0, .int .i64 1]) (ok := fun _ => True) (okp := fun _ => True) ?hr ?hp (fun _ hk => hk) trivial (Below.refl _ _) (Nat.le_refl _) (by simp) ?_; (case hd => rfl); (case hg => rfl); (case hr => first | (go_simp; done) | (go_simp; rfl)); (case hp => exact (Reps.one (show Kd.M (Kd.int .i64) _ _ _ 2 [.int .i64 2] from rfl) (Reps.one (show Kd.M (Kd.int .i64) _ _ _ 0 [.int .i64 0] from rfl) (Reps.one (show Kd.M (Kd.int .i64) _ _ _ 1 [.int .i64 1] from rfl) (Reps.none _ _)))))
       intro v177 w59 ho60 hb hg_ hnew_
       clear hg_ hnew_
       (first | rw [← Ny176.out] at ho60 | (simp only [Int.reduceToNat] at ho60; rw [← Ny176.out] at ho60))
       refine up17 (am (Kd.R_below (qR HO129) hb)) (am (Kd.R_below (qR HO132) hb)) (am (Kd.R_elder' (qR HO135) (Kd.R_base ho60) hb)) (am (Kd.R_elder' (qR HO141) (Kd.R_base ho60) hb)) (am (Kd.R_elder' (qR HO144) (Kd.R_base ho60) hb)) (am (Kd.R_elder' (qR HO150) (Kd.R_base ho60) hb)) (am (Kd.R_elder' (qR HO153) (Kd.R_base ho60) hb)) (am (Kd.R_elder' (qR HO159) (Kd.R_base ho60) hb)) (am (Kd.R_elder' (qR HO162) (Kd.R_base ho60) hb)) (am (Kd.R_elder' (qR HO170) (Kd.R_base ho60) hb)) (am (Kd.R_elder' (qR HO174) (Kd.R_base ho60) hb)) (am (Kd.R_lower (Kd.R_new' (Kd.R_new' (Kd.R_new' (Kd.R_new' (Kd.R_new' (Kd.R_new' (Kd.R_new' (Kd.R_new' (Kd.R_new' ho60 (Kd.R_lt (qR HO135))) (Kd.R_lt (qR HO141))) (Kd.R_lt (qR HO144))) (Kd.R_lt (qR HO150))) (Kd.R_lt (qR HO153))) (Kd.R_lt (qR HO159))) (Kd.R_lt (qR HO162))) (Kd.R_lt (qR HO170))) (Kd.R_lt (qR HO174))) (below_size qB))) (bB BK138 hb) (bB BK147 hb) (bB BK156 hb) (bB BK165 hb) (bH hb) ?_
       clear HO129 HO132 HO135 HO141 HO144 HO150 HO153 HO159 HO162 HO170 HO174 BK138 BK147 BK156 BK165 HB hb ho60
       intro HO129 HO132 HO135 HO141 HO144 HO150 HO153 HO159 HO162 HO170 HO174 HO178 BK138 BK147 BK156 BK165 HB
       obtain ⟨Ao61, co61, eo61⟩ := Kd.R_slice HO153.out
       (first | subst eo61 | (injection eo61 with f1_ f2_ f3_; have f4_ := f1_.symm; have f5_ := f3_.symm; clear f1_ f2_ f3_; subst f4_; subst f5_))
       obtain ⟨Ao62, co62, eo62⟩ := Kd.R_slice HO178.out
       (first | subst eo62 | (injection eo62 with f1_ f2_ f3_; have f4_ := f1_.symm; have f5_ := f3_.symm; clear f1_ f2_ f3_; subst f4_; subst f5_))
       refine hK.out _ _ ⟨(blk_cell BK138.out 0).trans rfl, (blk_cell BK138.out 1).trans rfl, (blk_cell BK147.out 0).trans rfl, (blk_cell BK147.out 1).trans rfl, (blk_cell BK156.out 0).trans rfl, (blk_cell BK156.out 1).trans rfl, (blk_cell BK165.out 0).trans rfl, (blk_cell BK165.out 1).trans rfl⟩ (fun hHeld => ?_)
       clear hK K
       refine norm_ (a' := ?_) ?_ ?_
       rotate_left
       ·show Act.put _ (some 60) _ = _
        simp only [Act.put, List.setIfInBounds_toArray, List.set_cons_zero, List.set_cons_succ, i64_w, i32_w]
        rfl
       refine one_ (i := 31) (N := some 61) #[true, true, true, true, true, true, true, true, true, true, true, true, true, true, true, true, true, true, true, true, true, true, true, true, true, true, true, true, true, true, true, true, false, false] rfl rfl (one_of HT_.out (by kernel_rfl)) (by decide) (fun K hK => ?_)
       refine goes_ Try.func11 (by kernel_rfl) rfl #[.slice Ao61 t151.length co61, .slice Ao62 y176.length co62] (by rfl) rfl rfl qA ?_
       with_reducible refine (law_ints.calls k _ _ t151 _ _ y176 t179 _ ?side1 ?side2 ?side3 ?side4 A14.out).mono ?_
       (case side1 => repeat (first | exact (Kd.R_reads' HO153.out).2.2 | (with_reducible refine Kd.C_alloc ?_ _) | (with_reducible refine Kd.C_drewN ?_ _) | (with_reducible refine Kd.C_drew ?_)))
       (case side2 => exact (Kd.R_reads' HO153.out).2.1)
       (case side3 => repeat (first | exact (Kd.R_reads' HO178.out).2.2 | (with_reducible refine Kd.C_alloc ?_ _) | (with_reducible refine Kd.C_drewN ?_ _) | (with_reducible refine Kd.C_drew ?_)))
       (case side4 => exact (Kd.R_reads' HO178.out).2.1)
       rintro e w' ⟨rfl, ⟨nd, rfl⟩⟩
       refine ⟨_, rfl, ?_⟩
       refine hK.out _ _ ⟨(blk_cell BK138.out 0).trans rfl, (blk_cell BK138.out 1).trans rfl, (blk_cell BK147.out 0).trans rfl, (blk_cell BK147.out 1).trans rfl, (blk_cell BK156.out 0).trans rfl, (blk_cell BK156.out 1).trans rfl, (blk_cell BK165.out 0).trans rfl, (blk_cell BK165.out 1).trans rfl⟩ (fun hHeld => ?_)
       clear hK K
       refine norm_ (a' := ?_) ?_ ?_
       rotate_left
       ·show Act.put _ (some 61) _ = _
        simp only [Act.put, List.setIfInBounds_toArray, List.set_cons_zero, List.set_cons_succ, i64_w, i32_w]
        rfl
       refine pY 32 62 (bq 34 8589934591) HT_ ?_
       refine pY 33 0 (bq 34 17179869183) HT_ ?_
       refine done_ (done_of HT_.out (by kernel_rfl)) ?_
       try go_wp2
       go_ret
       exact ⟨qE, qB⟩
      ·replace c13 := Bool.eq_false_iff.mpr c13
       subst c13
       have H1 : (none) = some r := by rw [if_neg (show ¬ (false = true) by decide)] at H; exact H
       clear H
       have H := H1
       clear H1
       exact absurd H (by simp)
     ·replace c11 := Bool.eq_false_iff.mpr c11
      subst c11
      have H1 : (none) = some r := by rw [if_neg (show ¬ (false = true) by decide)] at H; exact H
      clear H
      have H := H1
      clear H1
      exact absurd H (by simp)
    ·rw [if_neg c9] at H
     have c9b0 : (t163 == t166 && (t164 == t167)) = false := by simpa using c9
     (try (have c9b1 : decide (t163 = t166 && (t164 == t167)) = false := by simpa using c9))
     (try (have c9b2 : (t163 == t166 && (t164 == t167)) = false := by simpa using c9))
     (try (have c9b3 : ¬ (t163 = t166 && (t164 == t167)) := by simpa using c9))
     clear c9
     exact absurd H (by simp)
   ·rw [if_neg c7] at H
    have c7b0 : (t154 == 0) = false := beq_eq_false_iff_ne.mpr c7
    have c7b1 : (t154 != 0) = true := bne_iff_ne.mpr c7
    exact absurd H (by simp)
  ·rw [if_neg c6] at H
   have c6b0 : (t145 == 0) = false := beq_eq_false_iff_ne.mpr c6
   have c6b1 : (t145 != 0) = true := bne_iff_ne.mpr c6
   exact absurd H (by simp)
 ·rw [if_neg c5] at H
  have c5b0 : (t136 == 0) = false := beq_eq_false_iff_ne.mpr c5
  have c5b1 : (t136 != 0) = true := bne_iff_ne.mpr c5
  exact absurd H (by simp)

/-! ### ref_Has: function 21 -/
def ref_Has.l0 : Nat → List Int → Int → Int → Option (Bool)
 | 0, _, _, _ => none
 | k + 1, x0, x1, x5 => if x5 < (x0.length : Int) then (if 0 ≤ x5 then (if (rd x0 x5) = x1 then (some true) else (ref_Has.l0 k x0 x1 (wrap64 (x5 + 1)))) else (none)) else (some false)
def ref_Has.f (k : Nat) (l0 : List Int) (a1 : Int) : Option (Bool) := ref_Has.l0 k l0 a1 0
theorem ref_Has.mono_l : ∀ k, (∀ y0 y1 y2, LeO (ref_Has.l0 k y0 y1 y2) (ref_Has.l0 (k + 1) y0 y1 y2))
 | 0 => fun _ _ _ r h => by simp [ref_Has.l0] at h
 | k + 1 => by
  have ih0 := ref_Has.mono_l k
  ·intro y0 y1 y2
   unfold ref_Has.l0
   repeat' first
   | (with_reducible exact ih0 _ _ _)
   | (with_reducible exact LeO.refl _)
   | (with_reducible exact LeO.none _)
   | (with_reducible refine LeO.ite ?_ ?_)
   | (with_reducible refine LeO.bind ?_ (fun _ => ?_))
   | exact ih0 _ _ _
   | exact LeO.none _
   | refine LeO.ite ?_ ?_
   | refine LeO.bind ?_ (fun _ => ?_)
theorem ref_Has.mono : ∀ a0 a1 k, LeO (ref_Has.f k a0 a1) (ref_Has.f (k + 1) a0 a1) := by
 intro a0 a1 k
 have ih0 := ref_Has.mono_l k
 unfold ref_Has.f
 repeat' first
   | (with_reducible exact ih0 _ _ _)
   | (with_reducible exact LeO.refl _)
   | (with_reducible exact LeO.none _)
   | (with_reducible refine LeO.ite ?_ ?_)
   | (with_reducible refine LeO.bind ?_ (fun _ => ?_))
   | exact ih0 _ _ _
   | exact LeO.none _
   | refine LeO.ite ?_ ?_
   | refine LeO.bind ?_ (fun _ => ?_)
set_option maxHeartbeats 8000000 in
set_option maxRecDepth 100000 in
theorem ref_Has.calls (k : Nat) (A0 : Option Addr) (c0 : Nat) (l0 : List Int) (a1 : Int) (r : Bool) (w : World) (hr0 : Kd.C (Kd.int .i64) w A0 l0.length l0) (hc0 : l0.length ≤ c0) (h : ref_Has.f k l0 a1 = some r) :
  Calls Try.prog 21 #[.slice A0 l0.length c0, .int .i64 a1] w fun e w' => e = .returned (.bool r) ∧ Drawn0 w w' := by
 have HR0 := Aside0.mk hr0
 have HC0 := Aside0.mk hc0
 clear hr0 hc0
 have H : (ref_Has.l0 k l0 a1 0) = some r := h
 clear h
 have H' := Aside0.mk H
 clear H
 go_enter Try.func21, Try.ntmps21
 go_wp2
 go_loopg [5] k (fun kq v5 w' => ∃ (x5_1 : Int), v5 = .int .i64 x5_1 ∧ Aside0 (ref_Has.l0 kq l0 a1 x5_1 = some r) ∧ Aside0 (kq ≤ k) ∧ Drawn0 w w')
 case atStart => exact ⟨(0), qF, H', ⟨Nat.le_refl _⟩, by repeat (first | exact Drawn0.refl _ | apply Drawn0.step)⟩
 case round =>
  clear H'
  try clear c2
  try clear p2
  obtain ⟨x5_1, rfl, HA, HK1, ⟨m1, rfl⟩⟩ := hrel
  cases gk with
  | zero => exact absurd HA.out (by simp [ref_Has.l0])
  | succ k1 =>
   have H := HA.out
   clear HA
   simp only [ref_Has.l0] at H
   by_cases c3 : x5_1 < (l0.length : Int)
   ·rw [if_pos c3] at H
    have c3b0 : decide (x5_1 < (l0.length : Int)) = true := decide_eq_true c3
    clear c3
    by_cases c4 : 0 ≤ x5_1
    ·rw [if_pos c4] at H
     have c4b0 : decide (0 ≤ x5_1) = true := decide_eq_true c4
     clear c4
     by_cases c5 : (rd l0 x5_1) = a1
     ·rw [if_pos c5] at H
      have c5b0 : ((rd l0 x5_1) == a1) = true := beq_iff_eq.mpr c5
      have c5b1 : ((rd l0 x5_1) != a1) = false := bne_eq_false_iff_eq.mpr c5
      clear c5
      obtain rfl := Option.some.inj H
      have p180 : 0 ≤ (x5_1 : Int) := of_decide_eq_true qO
      have q180 : x5_1 < (l0.length : Int) := of_decide_eq_true qO
      obtain ⟨ad180, e180, hx180_0⟩ := Kd.at_int HR0.out x5_1 p180 q180
      cases e180
      replace p180 := eq_true p180
      replace q180 := eq_true q180
      go_wp2
      go_ret
      exact ⟨qF, by repeat (first | exact Drawn0.refl _ | apply Drawn0.step)⟩
     ·rw [if_neg c5] at H
      have c5b0 : ((rd l0 x5_1) == a1) = false := beq_eq_false_iff_ne.mpr c5
      have c5b1 : ((rd l0 x5_1) != a1) = true := bne_iff_ne.mpr c5
      have H' := Aside0.mk H
      clear H
      have p180 : 0 ≤ (x5_1 : Int) := of_decide_eq_true qO
      have q180 : x5_1 < (l0.length : Int) := of_decide_eq_true qO
      obtain ⟨ad180, e180, hx180_0⟩ := Kd.at_int HR0.out x5_1 p180 q180
      cases e180
      replace p180 := eq_true p180
      replace q180 := eq_true q180
      go_wp2
      go_roundg k1
      case measure => have := HK1.out; omega
      case rel => exact ⟨(wrap64 (x5_1 + 1)), qF, H', ⟨by have := HK1.out; omega⟩, by repeat (first | exact Drawn0.refl _ | apply Drawn0.step)⟩
    ·rw [if_neg c4] at H
     exact absurd H (by simp)
   ·rw [if_neg c3] at H
    have c3b0 : decide (x5_1 < (l0.length : Int)) = false := decide_eq_false c3
    clear c3
    obtain rfl := Option.some.inj H
    go_wp2
    go_ret
    exact ⟨qF, by repeat (first | exact Drawn0.refl _ | apply Drawn0.step)⟩

/-! ### ref_OrderOf: function 12 -/
mutual
def ref_OrderOf.l0 : Nat → List ByteArray → List ByteArray → List Int → Int → Option (List Int)
 | 0, _, _, _, _ => none
 | k + 1, x0, x1, x5, x6 => if x6 ≤ (x1.length : Int) then (ref_OrderOf.l1 k x0 x1 x5 x6 0) else (some x5)
def ref_OrderOf.l1 : Nat → List ByteArray → List ByteArray → List Int → Int → Int → Option (List Int)
 | 0, _, _, _, _, _ => none
 | k + 1, x0, x1, x5, x6, x7 => if x7 < (x0.length : Int) then ((ref_Has.f k x5 x7).bind fun t181 => (if t181 = true then (ref_OrderOf.l1 k x0 x1 x5 x6 (wrap64 (x7 + 1))) else (if x6 = (x1.length : Int) then (if x5.length < 17592186044416 then (ref_OrderOf.l1 k x0 x1 (x5 ++ [x7]) x6 (wrap64 (x7 + 1))) else (none)) else (if 0 ≤ x7 then (if 0 ≤ x6 then (if x6 < (x1.length : Int) then (if (rdOf ByteArray.empty x0 x7).toList = (rdOf ByteArray.empty x1 x6).toList then (if x5.length < 17592186044416 then (ref_OrderOf.l1 k x0 x1 (x5 ++ [x7]) x6 (wrap64 (x7 + 1))) else (none)) else (ref_OrderOf.l1 k x0 x1 x5 x6 (wrap64 (x7 + 1)))) else (none)) else (none)) else (none))))) else (ref_OrderOf.l0 k x0 x1 x5 (wrap64 (x6 + 1)))
end
def ref_OrderOf.f (k : Nat) (l0 : List ByteArray) (l1 : List ByteArray) : Option (List Int) := ref_OrderOf.l0 k l0 l1 ([] : List Int) 0
theorem ref_OrderOf.mono_l : ∀ k, (∀ y0 y1 y2 y3, LeO (ref_OrderOf.l0 k y0 y1 y2 y3) (ref_OrderOf.l0 (k + 1) y0 y1 y2 y3)) ∧ (∀ y0 y1 y2 y3 y4, LeO (ref_OrderOf.l1 k y0 y1 y2 y3 y4) (ref_OrderOf.l1 (k + 1) y0 y1 y2 y3 y4))
 | 0 => ⟨fun _ _ _ _ r h => by simp [ref_OrderOf.l0] at h, fun _ _ _ _ _ r h => by simp [ref_OrderOf.l1] at h⟩
 | k + 1 => by
  obtain ⟨ih0, ih1⟩ := ref_OrderOf.mono_l k
  refine ⟨?_, ?_⟩
  ·intro y0 y1 y2 y3
   unfold ref_OrderOf.l0
   repeat' first
   | (with_reducible exact ih0 _ _ _ _)
   | (with_reducible exact ih1 _ _ _ _ _)
   | (with_reducible exact ref_Has.mono _ _ _)
   | (with_reducible exact LeO.refl _)
   | (with_reducible exact LeO.none _)
   | (with_reducible refine LeO.ite ?_ ?_)
   | (with_reducible refine LeO.bind ?_ (fun _ => ?_))
   | exact ih0 _ _ _ _
   | exact ih1 _ _ _ _ _
   | exact ref_Has.mono _ _ _
   | exact LeO.none _
   | refine LeO.ite ?_ ?_
   | refine LeO.bind ?_ (fun _ => ?_)
  ·intro y0 y1 y2 y3 y4
   unfold ref_OrderOf.l1
   repeat' first
   | (with_reducible exact ih0 _ _ _ _)
   | (with_reducible exact ih1 _ _ _ _ _)
   | (with_reducible exact ref_Has.mono _ _ _)
   | (with_reducible exact LeO.refl _)
   | (with_reducible exact LeO.none _)
   | (with_reducible refine LeO.ite ?_ ?_)
   | (with_reducible refine LeO.bind ?_ (fun _ => ?_))
   | exact ih0 _ _ _ _
   | exact ih1 _ _ _ _ _
   | exact ref_Has.mono _ _ _
   | exact LeO.none _
   | refine LeO.ite ?_ ?_
   | refine LeO.bind ?_ (fun _ => ?_)
theorem ref_OrderOf.mono : ∀ a0 a1 k, LeO (ref_OrderOf.f k a0 a1) (ref_OrderOf.f (k + 1) a0 a1) := by
 intro a0 a1 k
 obtain ⟨ih0, ih1⟩ := ref_OrderOf.mono_l k
 unfold ref_OrderOf.f
 repeat' first
   | (with_reducible exact ih0 _ _ _ _)
   | (with_reducible exact ih1 _ _ _ _ _)
   | (with_reducible exact ref_Has.mono _ _ _)
   | (with_reducible exact LeO.refl _)
   | (with_reducible exact LeO.none _)
   | (with_reducible refine LeO.ite ?_ ?_)
   | (with_reducible refine LeO.bind ?_ (fun _ => ?_))
   | exact ih0 _ _ _ _
   | exact ih1 _ _ _ _ _
   | exact ref_Has.mono _ _ _
   | exact LeO.none _
   | refine LeO.ite ?_ ?_
   | refine LeO.bind ?_ (fun _ => ?_)
set_option maxHeartbeats 8000000 in
set_option maxRecDepth 100000 in
theorem ref_OrderOf.calls (k : Nat) (A0 : Option Addr) (c0 : Nat) (l0 : List ByteArray) (A1 : Option Addr) (c1 : Nat) (l1 : List ByteArray) (r : List Int) (w : World) (hr0 : Kd.C Kd.string w A0 l0.length l0) (hc0 : l0.length ≤ c0) (hr1 : Kd.C Kd.string w A1 l1.length l1) (hc1 : l1.length ≤ c1) (h : ref_OrderOf.f k l0 l1 = some r) :
  Calls Try.prog 12 #[.slice A0 l0.length c0, .slice A1 l1.length c1] w fun e w' => ∃ v0_ : Value, e = .returned (v0_) ∧ Kd.R (Kd.int .i64) 3 w' w.heap.size (fun _ => True) v0_ r ∧ Below w.heap.size w w' := by
 have HR0 := Aside0.mk hr0
 have HC0 := Aside0.mk hc0
 clear hr0 hc0
 have HR1 := Aside0.mk hr1
 have HC1 := Aside0.mk hc1
 clear hr1 hc1
 have HB := Aside0.mk (Below.refl w.heap.size w)
 have H : (ref_OrderOf.l0 k l0 l1 ([] : List Int) 0) = some r := h
 clear h
 have H' := Aside0.mk H
 clear H
 go_enter Try.func12, Try.ntmps12
 go_wp2_with (first | go_in | ((with_reducible refine gate_draws ?_); go_quiet (fail)))
 go_loopg [5, 6] k (fun kq v5 v6 w' => ∃ (x5_1 : List Int) (x6_1 : Int), v6 = .int .i64 x6_1 ∧ Aside0 (ref_OrderOf.l0 kq l0 l1 x5_1 x6_1 = some r) ∧ Aside0 (kq ≤ k) ∧ Aside0 (Kd.R (Kd.int .i64) 3 w' w.heap.size (fun _ => True) v5 x5_1) ∧ Aside0 (Below w.heap.size w w'))
 case atStart => exact ⟨(([] : List Int)), (0), qF, H', ⟨Nat.le_refl _⟩, ⟨qL⟩, ⟨qB⟩⟩
 case round =>
  clear H'
  try clear c1
  try clear p2
  obtain ⟨x5_1, x6_1, rfl, HA, HK1, HO_5, HB⟩ := hrel
  cases gk with
  | zero => exact absurd HA.out (by simp [ref_OrderOf.l0])
  | succ k1 =>
   have H := HA.out
   clear HA
   simp only [ref_OrderOf.l0] at H
   by_cases c3 : x6_1 ≤ (l1.length : Int)
   ·rw [if_pos c3] at H
    have c3b0 : decide (x6_1 ≤ (l1.length : Int)) = true := decide_eq_true c3
    clear c3
    have H' := Aside0.mk H
    clear H
    go_wp2_with (first | go_in | ((with_reducible refine gate_draws ?_); go_quiet (fail)))
    go_loopg [5, 7] k1 (fun kq v5 v7 w' => ∃ (x5_2 : List Int) (x7_2 : Int), v7 = .int .i64 x7_2 ∧ Aside0 (ref_OrderOf.l1 kq l0 l1 x5_2 x6_1 x7_2 = some r) ∧ Aside0 (kq ≤ k1) ∧ Aside0 (Kd.R (Kd.int .i64) 3 w' w.heap.size (fun _ => True) v5 x5_2) ∧ Aside0 (Below w.heap.size w w'))
    case atStart => exact ⟨(x5_1), (0), qF, H', ⟨Nat.le_refl _⟩, ⟨qR HO_5⟩, ⟨qB⟩⟩
    case round =>
     clear H'
     try clear c1
     try clear p2
     try clear c3
     try clear c3b0
     try clear p2
     obtain ⟨x5_2, x7_2, rfl, HA, HK2, HO_5, HB⟩ := hrel
     cases gk with
     | zero => exact absurd HA.out (by simp [ref_OrderOf.l1])
     | succ k2 =>
      have H := HA.out
      clear HA
      simp only [ref_OrderOf.l1] at H
      by_cases c4 : x7_2 < (l0.length : Int)
      ·rw [if_pos c4] at H
       have c4b0 : decide (x7_2 < (l0.length : Int)) = true := decide_eq_true c4
       clear c4
       replace H := Option.bind_eq_some_iff.mp H
       obtain ⟨t181, A50, H⟩ := H
       replace H : (if t181 = true then (ref_OrderOf.l1 k2 l0 l1 x5_2 x6_1 (wrap64 (x7_2 + 1))) else (if x6_1 = (l1.length : Int) then (if x5_2.length < 17592186044416 then (ref_OrderOf.l1 k2 l0 l1 (x5_2 ++ [x7_2]) x6_1 (wrap64 (x7_2 + 1))) else (none)) else (if 0 ≤ x7_2 then (if 0 ≤ x6_1 then (if x6_1 < (l1.length : Int) then (if (rdOf ByteArray.empty l0 x7_2).toList = (rdOf ByteArray.empty l1 x6_1).toList then (if x5_2.length < 17592186044416 then (ref_OrderOf.l1 k2 l0 l1 (x5_2 ++ [x7_2]) x6_1 (wrap64 (x7_2 + 1))) else (none)) else (ref_OrderOf.l1 k2 l0 l1 x5_2 x6_1 (wrap64 (x7_2 + 1)))) else (none)) else (none)) else (none)))) = some r := H
       have A5 := Aside0.mk A50
       clear A50
       by_cases c6 : t181 = true
       ·subst c6
        have H1 : (ref_OrderOf.l1 k2 l0 l1 x5_2 x6_1 (wrap64 (x7_2 + 1))) = some r := by rw [if_pos rfl] at H; exact H
        clear H
        have H := H1
        clear H1
        have H' := Aside0.mk H
        clear H
        obtain ⟨Ao7, co7, eo7⟩ := Kd.R_slice HO_5.out
        subst eo7
        go_wp2_with (first | (go_at_call 21; (with_reducible refine (ref_Has.calls k2 _ _ x5_2 x7_2 true _ ?side1 ?side2 A5.out).mono ?_); (case side1 => repeat (first | exact (Kd.R_reads' HO_5.out).2.2 | (with_reducible refine Kd.C_alloc ?_ _) | (with_reducible refine Kd.C_drewN ?_ _) | (with_reducible refine Kd.C_drew ?_))); (case side2 => exact (Kd.R_reads' HO_5.out).2.1); rintro e w' ⟨rfl, ⟨nd, rfl⟩⟩; (try exact qD)) | ((with_reducible refine gate_draws ?_); go_quiet (first | (go_at_call 21; (with_reducible refine (ref_Has.calls k2 _ _ x5_2 x7_2 true _ ?side1 ?side2 A5.out).mono ?_); (case side1 => repeat (first | exact (Kd.R_reads' HO_5.out).2.2 | (with_reducible refine Kd.C_alloc ?_ _) | (with_reducible refine Kd.C_drewN ?_ _) | (with_reducible refine Kd.C_drew ?_))); (case side2 => exact (Kd.R_reads' HO_5.out).2.1); rintro e w' ⟨rfl, ⟨nd, rfl⟩⟩; (try exact qD)))))
        go_roundg k2
        case measure => have := HK1.out; have := HK2.out; omega
        case rel => exact ⟨(x5_2), (wrap64 (x7_2 + 1)), qF, H', ⟨by have := HK1.out; have := HK2.out; omega⟩, ⟨qR HO_5⟩, ⟨qB⟩⟩
       ·replace c6 := Bool.eq_false_iff.mpr c6
        subst c6
        have H1 : (if x6_1 = (l1.length : Int) then (if x5_2.length < 17592186044416 then (ref_OrderOf.l1 k2 l0 l1 (x5_2 ++ [x7_2]) x6_1 (wrap64 (x7_2 + 1))) else (none)) else (if 0 ≤ x7_2 then (if 0 ≤ x6_1 then (if x6_1 < (l1.length : Int) then (if (rdOf ByteArray.empty l0 x7_2).toList = (rdOf ByteArray.empty l1 x6_1).toList then (if x5_2.length < 17592186044416 then (ref_OrderOf.l1 k2 l0 l1 (x5_2 ++ [x7_2]) x6_1 (wrap64 (x7_2 + 1))) else (none)) else (ref_OrderOf.l1 k2 l0 l1 x5_2 x6_1 (wrap64 (x7_2 + 1)))) else (none)) else (none)) else (none))) = some r := by rw [if_neg (show ¬ (false = true) by decide)] at H; exact H
        clear H
        have H := H1
        clear H1
        by_cases c8 : x6_1 = (l1.length : Int)
        ·rw [if_pos c8] at H
         have c8b0 : (x6_1 == (l1.length : Int)) = true := beq_iff_eq.mpr c8
         have c8b1 : (x6_1 != (l1.length : Int)) = false := bne_eq_false_iff_eq.mpr c8
         clear c8
         by_cases c9 : x5_2.length < 17592186044416
         ·rw [if_pos c9] at H
          have LMc9 := Aside0.mk c9
          clear c9
          obtain ⟨y182, hy182⟩ : ∃ y_ : List Int, y_ = (x5_2 ++ [x7_2]) := ⟨_, rfl⟩
          replace H : (ref_OrderOf.l1 k2 l0 l1 y182 x6_1 (wrap64 (x7_2 + 1))) = some r := by first | (rw [hy182]; with_reducible exact H) | (have H2_ := (Option.bind_some _ _).symm.trans H; rw [hy182]; with_reducible exact H2_) | (have H2_ := (Option.bind_some _ _).symm.trans H; with_reducible exact H2_) | with_reducible exact H | (rw [hy182]; exact H) | exact H
          have Ny182 := Aside0.mk hy182
          clear hy182
          have H' := Aside0.mk H
          clear H
          obtain ⟨Ao10, co10, eo10⟩ := Kd.R_slice HO_5.out
          subst eo10
          go_wp2_with (first | (go_at_call 21; (with_reducible refine (ref_Has.calls k2 _ _ x5_2 x7_2 false _ ?side1 ?side2 A5.out).mono ?_); (case side1 => repeat (first | exact (Kd.R_reads' HO_5.out).2.2 | (with_reducible refine Kd.C_alloc ?_ _) | (with_reducible refine Kd.C_drewN ?_ _) | (with_reducible refine Kd.C_drew ?_))); (case side2 => exact (Kd.R_reads' HO_5.out).2.1); rintro e w' ⟨rfl, ⟨nd, rfl⟩⟩; (try exact qD)) | ((with_reducible refine gate_builtin (b := .append) (xs := #[.tmp 41, .tmp 43]) rfl ?_); (try (refine gate_guard (by rfl) ?_; dsimp only)); at_builtin; refine Kd.R_append (Kd.int .i64) (w0 := w) w.heap.size rfl (.tmp 41) (.tmp 43) 27 3 (.int .i64 0) 8 rfl Try.underlying27 info3 rfl (by decide) (by omega) (.slice Ao10 x5_2.length co10) x5_2 x7_2 [.int .i64 x7_2] (fun _ => True) (fun _ => False) rfl rfl ?aP (fun _ hk => hk.elim) ?aF ?aO ?aB ?aS ?aL ?_; (case aP => exact rfl); (case aB => exact qB); (case aF => exact (fun _ _ => trivial)); (case aO => exact (qR HO_5)); (case aS => exact (below_size qB)); (case aL => have := LMc9.out; omega); intro v183 w11 ho hb hg hat; rw [← Ny182.out] at ho; refine up2 (am hb) (am ho) ?_; clear HB HO_5 ho hb hg hat; intro HB HO184) | ((with_reducible refine gate_draws ?_); go_quiet (first | (go_at_call 21; (with_reducible refine (ref_Has.calls k2 _ _ x5_2 x7_2 false _ ?side1 ?side2 A5.out).mono ?_); (case side1 => repeat (first | exact (Kd.R_reads' HO_5.out).2.2 | (with_reducible refine Kd.C_alloc ?_ _) | (with_reducible refine Kd.C_drewN ?_ _) | (with_reducible refine Kd.C_drew ?_))); (case side2 => exact (Kd.R_reads' HO_5.out).2.1); rintro e w' ⟨rfl, ⟨nd, rfl⟩⟩; (try exact qD)))))
          go_roundg k2
          case measure => have := HK1.out; have := HK2.out; omega
          case rel => exact ⟨(y182), (wrap64 (x7_2 + 1)), qF, H', ⟨by have := HK1.out; have := HK2.out; omega⟩, ⟨qR HO184⟩, ⟨qB⟩⟩
         ·rw [if_neg c9] at H
          exact absurd H (by simp)
        ·rw [if_neg c8] at H
         have c8b0 : (x6_1 == (l1.length : Int)) = false := beq_eq_false_iff_ne.mpr c8
         have c8b1 : (x6_1 != (l1.length : Int)) = true := bne_iff_ne.mpr c8
         by_cases c12 : 0 ≤ x7_2
         ·rw [if_pos c12] at H
          have c12b0 : decide (0 ≤ x7_2) = true := decide_eq_true c12
          clear c12
          by_cases c13 : 0 ≤ x6_1
          ·rw [if_pos c13] at H
           have c13b0 : decide (0 ≤ x6_1) = true := decide_eq_true c13
           clear c13
           by_cases c14 : x6_1 < (l1.length : Int)
           ·rw [if_pos c14] at H
            have c14b0 : decide (x6_1 < (l1.length : Int)) = true := decide_eq_true c14
            clear c14
            by_cases c15 : (rdOf ByteArray.empty l0 x7_2).toList = (rdOf ByteArray.empty l1 x6_1).toList
            ·rw [if_pos c15] at H
             have c15b0 : ((rdOf ByteArray.empty l0 x7_2).toList == (rdOf ByteArray.empty l1 x6_1).toList) = true := beq_iff_eq.mpr c15
             have c15b1 : ((rdOf ByteArray.empty l0 x7_2).toList != (rdOf ByteArray.empty l1 x6_1).toList) = false := bne_eq_false_iff_eq.mpr c15
             clear c15
             by_cases c16 : x5_2.length < 17592186044416
             ·rw [if_pos c16] at H
              have LMc16 := Aside0.mk c16
              clear c16
              obtain ⟨y187, hy187⟩ : ∃ y_ : List Int, y_ = (x5_2 ++ [x7_2]) := ⟨_, rfl⟩
              replace H : (ref_OrderOf.l1 k2 l0 l1 y187 x6_1 (wrap64 (x7_2 + 1))) = some r := by first | (rw [hy187]; with_reducible exact H) | (have H2_ := (Option.bind_some _ _).symm.trans H; rw [hy187]; with_reducible exact H2_) | (have H2_ := (Option.bind_some _ _).symm.trans H; with_reducible exact H2_) | with_reducible exact H | (rw [hy187]; exact H) | exact H
              have Ny187 := Aside0.mk hy187
              clear hy187
              have H' := Aside0.mk H
              clear H
              obtain ⟨Ao17, co17, eo17⟩ := Kd.R_slice HO_5.out
              subst eo17
              go_wp2_with (first | (go_at_call 21; (with_reducible refine (ref_Has.calls k2 _ _ x5_2 x7_2 false _ ?side1 ?side2 A5.out).mono ?_); (case side1 => repeat (first | exact (Kd.R_reads' HO_5.out).2.2 | (with_reducible refine Kd.C_alloc ?_ _) | (with_reducible refine Kd.C_drewN ?_ _) | (with_reducible refine Kd.C_drew ?_))); (case side2 => exact (Kd.R_reads' HO_5.out).2.1); rintro e w' ⟨rfl, ⟨nd, rfl⟩⟩; (try exact qD); have p185 : 0 ≤ (x7_2 : Int) := of_decide_eq_true qO; have q185 : x7_2 < (l0.length : Int) := of_decide_eq_true qO; obtain ⟨ad185, e185, hx185_0⟩ := Kd.at_string HR0.out x7_2 p185 q185; cases e185; replace hx185_0 := qH HB hx185_0; replace p185 := eq_true p185; replace q185 := eq_true q185; have p186 : 0 ≤ (x6_1 : Int) := of_decide_eq_true qO; have q186 : x6_1 < (l1.length : Int) := of_decide_eq_true qO; obtain ⟨ad186, e186, hx186_0⟩ := Kd.at_string HR1.out x6_1 p186 q186; cases e186; replace hx186_0 := qH HB hx186_0; replace p186 := eq_true p186; replace q186 := eq_true q186) | ((with_reducible refine gate_builtin (b := .append) (xs := #[.tmp 41, .tmp 43]) rfl ?_); (try (refine gate_guard (by rfl) ?_; dsimp only)); at_builtin; refine Kd.R_append (Kd.int .i64) (w0 := w) w.heap.size rfl (.tmp 41) (.tmp 43) 27 3 (.int .i64 0) 8 rfl Try.underlying27 info3 rfl (by decide) (by omega) (.slice Ao17 x5_2.length co17) x5_2 x7_2 [.int .i64 x7_2] (fun _ => True) (fun _ => False) rfl rfl ?aP (fun _ hk => hk.elim) ?aF ?aO ?aB ?aS ?aL ?_; (case aP => exact rfl); (case aB => exact qB); (case aF => exact (fun _ _ => trivial)); (case aO => exact (qR HO_5)); (case aS => exact (below_size qB)); (case aL => have := LMc16.out; omega); intro v188 w18 ho hb hg hat; rw [← Ny187.out] at ho; refine up2 (am hb) (am ho) ?_; clear HB HO_5 ho hb hg hat; intro HB HO189) | ((with_reducible refine gate_draws ?_); go_quiet (first | (go_at_call 21; (with_reducible refine (ref_Has.calls k2 _ _ x5_2 x7_2 false _ ?side1 ?side2 A5.out).mono ?_); (case side1 => repeat (first | exact (Kd.R_reads' HO_5.out).2.2 | (with_reducible refine Kd.C_alloc ?_ _) | (with_reducible refine Kd.C_drewN ?_ _) | (with_reducible refine Kd.C_drew ?_))); (case side2 => exact (Kd.R_reads' HO_5.out).2.1); rintro e w' ⟨rfl, ⟨nd, rfl⟩⟩; (try exact qD); have p185 : 0 ≤ (x7_2 : Int) := of_decide_eq_true qO; have q185 : x7_2 < (l0.length : Int) := of_decide_eq_true qO; obtain ⟨ad185, e185, hx185_0⟩ := Kd.at_string HR0.out x7_2 p185 q185; cases e185; replace hx185_0 := qH HB hx185_0; replace p185 := eq_true p185; replace q185 := eq_true q185; have p186 : 0 ≤ (x6_1 : Int) := of_decide_eq_true qO; have q186 : x6_1 < (l1.length : Int) := of_decide_eq_true qO; obtain ⟨ad186, e186, hx186_0⟩ := Kd.at_string HR1.out x6_1 p186 q186; cases e186; replace hx186_0 := qH HB hx186_0; replace p186 := eq_true p186; replace q186 := eq_true q186))))
              go_roundg k2
              case measure => have := HK1.out; have := HK2.out; omega
              case rel => exact ⟨(y187), (wrap64 (x7_2 + 1)), qF, H', ⟨by have := HK1.out; have := HK2.out; omega⟩, ⟨qR HO189⟩, ⟨qB⟩⟩
             ·rw [if_neg c16] at H
              exact absurd H (by simp)
            ·rw [if_neg c15] at H
             have c15b0 : ((rdOf ByteArray.empty l0 x7_2).toList == (rdOf ByteArray.empty l1 x6_1).toList) = false := beq_eq_false_iff_ne.mpr c15
             have c15b1 : ((rdOf ByteArray.empty l0 x7_2).toList != (rdOf ByteArray.empty l1 x6_1).toList) = true := bne_iff_ne.mpr c15
             have H' := Aside0.mk H
             clear H
             obtain ⟨Ao19, co19, eo19⟩ := Kd.R_slice HO_5.out
             subst eo19
             go_wp2_with (first | (go_at_call 21; (with_reducible refine (ref_Has.calls k2 _ _ x5_2 x7_2 false _ ?side1 ?side2 A5.out).mono ?_); (case side1 => repeat (first | exact (Kd.R_reads' HO_5.out).2.2 | (with_reducible refine Kd.C_alloc ?_ _) | (with_reducible refine Kd.C_drewN ?_ _) | (with_reducible refine Kd.C_drew ?_))); (case side2 => exact (Kd.R_reads' HO_5.out).2.1); rintro e w' ⟨rfl, ⟨nd, rfl⟩⟩; (try exact qD); have p185 : 0 ≤ (x7_2 : Int) := of_decide_eq_true qO; have q185 : x7_2 < (l0.length : Int) := of_decide_eq_true qO; obtain ⟨ad185, e185, hx185_0⟩ := Kd.at_string HR0.out x7_2 p185 q185; cases e185; replace hx185_0 := qH HB hx185_0; replace p185 := eq_true p185; replace q185 := eq_true q185; have p186 : 0 ≤ (x6_1 : Int) := of_decide_eq_true qO; have q186 : x6_1 < (l1.length : Int) := of_decide_eq_true qO; obtain ⟨ad186, e186, hx186_0⟩ := Kd.at_string HR1.out x6_1 p186 q186; cases e186; replace hx186_0 := qH HB hx186_0; replace p186 := eq_true p186; replace q186 := eq_true q186) | ((with_reducible refine gate_draws ?_); go_quiet (first | (go_at_call 21; (with_reducible refine (ref_Has.calls k2 _ _ x5_2 x7_2 false _ ?side1 ?side2 A5.out).mono ?_); (case side1 => repeat (first | exact (Kd.R_reads' HO_5.out).2.2 | (with_reducible refine Kd.C_alloc ?_ _) | (with_reducible refine Kd.C_drewN ?_ _) | (with_reducible refine Kd.C_drew ?_))); (case side2 => exact (Kd.R_reads' HO_5.out).2.1); rintro e w' ⟨rfl, ⟨nd, rfl⟩⟩; (try exact qD); have p185 : 0 ≤ (x7_2 : Int) := of_decide_eq_true qO; have q185 : x7_2 < (l0.length : Int) := of_decide_eq_true qO; obtain ⟨ad185, e185, hx185_0⟩ := Kd.at_string HR0.out x7_2 p185 q185; cases e185; replace hx185_0 := qH HB hx185_0; replace p185 := eq_true p185; replace q185 := eq_true q185; have p186 : 0 ≤ (x6_1 : Int) := of_decide_eq_true qO; have q186 : x6_1 < (l1.length : Int) := of_decide_eq_true qO; obtain ⟨ad186, e186, hx186_0⟩ := Kd.at_string HR1.out x6_1 p186 q186; cases e186; replace hx186_0 := qH HB hx186_0; replace p186 := eq_true p186; replace q186 := eq_true q186))))
             go_roundg k2
             case measure => have := HK1.out; have := HK2.out; omega
             case rel => exact ⟨(x5_2), (wrap64 (x7_2 + 1)), qF, H', ⟨by have := HK1.out; have := HK2.out; omega⟩, ⟨qR HO_5⟩, ⟨qB⟩⟩
           ·rw [if_neg c14] at H
            exact absurd H (by simp)
          ·rw [if_neg c13] at H
           exact absurd H (by simp)
         ·rw [if_neg c12] at H
          exact absurd H (by simp)
      ·rw [if_neg c4] at H
       have c4b0 : decide (x7_2 < (l0.length : Int)) = false := decide_eq_false c4
       clear c4
       have H' := Aside0.mk H
       clear H
       go_wp2_with (first | go_in | ((with_reducible refine gate_draws ?_); go_quiet (fail)))
       go_roundg k2
       case measure => have := HK1.out; have := HK2.out; omega
       case rel => exact ⟨(x5_2), (wrap64 (x6_1 + 1)), qF, H', ⟨by have := HK1.out; have := HK2.out; omega⟩, ⟨qR HO_5⟩, ⟨qB⟩⟩
   ·rw [if_neg c3] at H
    have c3b0 : decide (x6_1 ≤ (l1.length : Int)) = false := decide_eq_false c3
    clear c3
    obtain rfl := Option.some.inj H
    go_wp2_with (first | go_in | ((with_reducible refine gate_draws ?_); go_quiet (fail)))
    go_ret
    exact ⟨_, qE, qR HO_5, qB⟩

end Go.Proofs.Ytoegghjhepkfkaa.PArr
