/- Written by a program of this session, for the law(s) Arr: contracts of the Go functions that the law reaches, each against a plain Lean function. No condition. -/
import Derived.Test.YtoegghjhepkfkaaPArrx0
import Derived.Test.YtoegghjhepkfkaaPArrx1
import Derived.Test.YtoegghjhepkfkaaPArrx2
import Derived.Test.YtoegghjhepkfkaaPArrx7
import Derived.Test.YtoegghjhepkfkaaPArrx11
namespace Go.Proofs.Ytoegghjhepkfkaa.PArr
open Go.RowKit Go.Proofs.YtoegghjhepkfkaaW.PrintWords Go.Proofs.YtoegghjhepkfkaaW.PrintLast Go.Proofs.YtoegghjhepkfkaaW.PrintMore
attribute [local go_sem] max2_int min2_int max_two min_two max_three min_three max_four min_four   -- for this text's walks alone
set_option linter.unusedVariables false
set_option linter.unusedSimpArgs false

attribute [local go_sem high] eqA24
/-! ### law_ArrangeMatchesSpec: function 3 -/
def law_ArrangeMatchesSpec.j0 : Nat → List ByteArray → List ByteArray → Int → Int → Option (Bool)
 | 0, _, _, _, _ => none
 | k + 1, x0, x1, x191000, x191001 => (arrange_ByNames.f x0 x1).bind fun bt201 => ((law_orders.f k).bind fun t207 => (if t207 = true then (if (bt201.2.1 == x191000 && (bt201.2.2 == x191001)) = true then (if x191000 = 0 then ((ref_OrderOf.f k x0 x1).bind fun t208 => ((law_ints.f k bt201.1 t208).bind fun t211 => (some t211))) else (if (bt201.1.length : Int) = 0 then (some true) else (none))) else (none)) else (none)))
def law_ArrangeMatchesSpec.f (k : Nat) (l0 : List ByteArray) (l1 : List ByteArray) : Option (Bool) := if (l0.length : Int) > 200 then ((ref_At.f 2 (-1)).bind fun bt191 => (law_ArrangeMatchesSpec.j0 k l0 l1 bt191.1 bt191.2)) else ((ref_NamesOk.f k l0).bind fun t193 => (if t193 = true then (if (l1.length : Int) > 40 then ((ref_At.f 2 (-2)).bind fun bt194 => (law_ArrangeMatchesSpec.j0 k l0 l1 bt194.1 bt194.2)) else ((ref_NamesOk.f k l1).bind fun t196 => (if t196 = true then (law_ArrangeMatchesSpec.j0 k l0 l1 0 0) else ((ref_At.f 12 (-2)).bind fun bt197 => (law_ArrangeMatchesSpec.j0 k l0 l1 bt197.1 bt197.2))))) else ((ref_At.f 12 (-1)).bind fun bt199 => (law_ArrangeMatchesSpec.j0 k l0 l1 bt199.1 bt199.2))))
theorem law_ArrangeMatchesSpec.mono_l : ∀ k, (∀ y0 y1 y2 y3, LeO (law_ArrangeMatchesSpec.j0 k y0 y1 y2 y3) (law_ArrangeMatchesSpec.j0 (k + 1) y0 y1 y2 y3))
 | 0 => fun _ _ _ _ r h => by simp [law_ArrangeMatchesSpec.j0] at h
 | k + 1 => by
  have ih0 := law_ArrangeMatchesSpec.mono_l k
  ·intro y0 y1 y2 y3
   unfold law_ArrangeMatchesSpec.j0
   repeat' first
   | (with_reducible exact ih0 _ _ _ _)
   | (with_reducible exact law_ints.mono _ _ _)
   | (with_reducible exact law_orders.mono _)
   | (with_reducible exact ref_NamesOk.mono _ _)
   | (with_reducible exact ref_OrderOf.mono _ _ _)
   | (with_reducible exact LeO.refl _)
   | (with_reducible exact LeO.none _)
   | (with_reducible refine LeO.ite ?_ ?_)
   | (with_reducible refine LeO.bind ?_ (fun _ => ?_))
   | exact ih0 _ _ _ _
   | exact law_ints.mono _ _ _
   | exact law_orders.mono _
   | exact ref_NamesOk.mono _ _
   | exact ref_OrderOf.mono _ _ _
   | exact LeO.none _
   | refine LeO.ite ?_ ?_
   | refine LeO.bind ?_ (fun _ => ?_)
theorem law_ArrangeMatchesSpec.mono : ∀ a0 a1 k, LeO (law_ArrangeMatchesSpec.f k a0 a1) (law_ArrangeMatchesSpec.f (k + 1) a0 a1) := by
 intro a0 a1 k
 have ih0 := law_ArrangeMatchesSpec.mono_l k
 unfold law_ArrangeMatchesSpec.f
 repeat' first
   | (with_reducible exact ih0 _ _ _ _)
   | (with_reducible exact law_ints.mono _ _ _)
   | (with_reducible exact law_orders.mono _)
   | (with_reducible exact ref_NamesOk.mono _ _)
   | (with_reducible exact ref_OrderOf.mono _ _ _)
   | (with_reducible exact LeO.refl _)
   | (with_reducible exact LeO.none _)
   | (with_reducible refine LeO.ite ?_ ?_)
   | (with_reducible refine LeO.bind ?_ (fun _ => ?_))
   | exact ih0 _ _ _ _
   | exact law_ints.mono _ _ _
   | exact law_orders.mono _
   | exact ref_NamesOk.mono _ _
   | exact ref_OrderOf.mono _ _ _
   | exact LeO.none _
   | refine LeO.ite ?_ ?_
   | refine LeO.bind ?_ (fun _ => ?_)
set_option maxHeartbeats 8000000 in
set_option maxRecDepth 100000 in
theorem law_ArrangeMatchesSpec.calls (k : Nat) (A0 : Option Addr) (c0 : Nat) (l0 : List ByteArray) (A1 : Option Addr) (c1 : Nat) (l1 : List ByteArray) (r : Bool) (w : World) (hr0 : Kd.C Kd.string w A0 l0.length l0) (hc0 : l0.length ≤ c0) (hr1 : Kd.C Kd.string w A1 l1.length l1) (hc1 : l1.length ≤ c1) (h : law_ArrangeMatchesSpec.f k l0 l1 = some r) :
  Calls Try.prog 3 #[.slice A0 l0.length c0, .slice A1 l1.length c1] w fun e w' => e = .returned (.bool r) ∧ Below w.heap.size w w' := by
 have hu24 := Try.underlying24
 have HR0 := Aside0.mk hr0
 have HC0 := Aside0.mk hc0
 clear hr0 hc0
 have HR1 := Aside0.mk hr1
 have HC1 := Aside0.mk hc1
 clear hr1 hc1
 have HB := Aside0.mk (Below.refl w.heap.size w)
 have H : (if (l0.length : Int) > 200 then ((ref_At.f 2 (-1)).bind fun bt191 => (law_ArrangeMatchesSpec.j0 k l0 l1 bt191.1 bt191.2)) else ((ref_NamesOk.f k l0).bind fun t193 => (if t193 = true then (if (l1.length : Int) > 40 then ((ref_At.f 2 (-2)).bind fun bt194 => (law_ArrangeMatchesSpec.j0 k l0 l1 bt194.1 bt194.2)) else ((ref_NamesOk.f k l1).bind fun t196 => (if t196 = true then (law_ArrangeMatchesSpec.j0 k l0 l1 0 0) else ((ref_At.f 12 (-2)).bind fun bt197 => (law_ArrangeMatchesSpec.j0 k l0 l1 bt197.1 bt197.2))))) else ((ref_At.f 12 (-1)).bind fun bt199 => (law_ArrangeMatchesSpec.j0 k l0 l1 bt199.1 bt199.2))))) = some r := h
 clear h
 have HC3 := Aside0.mk H
 clear H
 go_enter Try.func3, Try.ntmps3
 go_upto_if 11 with (first | ((with_reducible refine gate_dst (N := 5) rfl ?_); (try (refine gate_guard (by rfl) ?_; dsimp only)); refine qX (N := 5) (cs := #[.int .i64 0, .int .i64 0]) (t := 24) ?_; intro gb190 hg w4 hbox hb; refine up4 (bH hb) (am hbox) (bW hg) (bW hg) ?_; clear HB hb hbox hg; intro HB BK190 GW190 GE190; have hcz5 := blkC2 BK190.out))
 (try simp only [Act.put, List.setIfInBounds_toArray, List.set_cons_zero, List.set_cons_succ])
 go_cut [] (fun wc => ∃ (kq : Nat) (x191000_2 : Int) (x191001_2 : Int), Aside0 (law_ArrangeMatchesSpec.j0 kq l0 l1 x191000_2 x191001_2 = some r) ∧ Aside0 (kq ≤ k) ∧ Aside0 (wc.heap[gb190]? = some (.cells #[.int .i64 x191000_2, .int .i64 x191001_2] 24 (0, 0))) ∧ Aside0 (Below w.heap.size w wc))
 case first =>
  have H := HC3.out
  clear HC3
  by_cases c6 : (l0.length : Int) > 200
  ·rw [if_pos c6] at H
   have c6b0 : decide (200 < (l0.length : Int)) = true := decide_eq_true c6
   have c6b1 : decide (200 < l0.length) = true := decide_eq_true (by omega)
   clear c6
   (first | rw [c6b0] | (simp only [i64_w, i32_w]; rw [c6b0]) | skip)
   replace H := Option.bind_eq_some_iff.mp H
   obtain ⟨⟨t191, t192⟩, A70, H⟩ := H
   replace H : (law_ArrangeMatchesSpec.j0 k l0 l1 t191 t192) = some r := H
   have A7 := Aside0.mk A70
   clear A70
   have H' := Aside0.mk H
   clear H
   go_wp2_with (first | ((with_reducible refine gate_callee (f := 7) rfl ?_); refine goesL_ (some 12) rfl rfl Try.func7 (by kernel_rfl) rfl #[.int .i64 2, .int .i64 (-1)] rfl qA ?_; (with_reducible refine (ref_At.calls 2 (-1) t191 t192 _ A7.out).mono ?_); rintro e w8 ⟨rfl, hb⟩; refine ⟨_, rfl, ?_⟩; refine up2 (bP (o := .cells #[.int .i64 0, .int .i64 0] 24 (0, 0)) BK190 hb) (bH hb) ?_; clear BK190 HB; intro BK190 HB; (try clear hb); (try clear hb2); (try clear hk); (try clear hi); have hcz9 := blkC2 BK190.out))
   go_meet
   case rel => exact ⟨_, (t191), (t192), H', ⟨by first | omega | exact Nat.le_refl _⟩, ⟨qP BK190⟩, ⟨qB⟩⟩
  ·rw [if_neg c6] at H
   have c6b0 : decide (200 < (l0.length : Int)) = false := decide_eq_false c6
   have c6b1 : decide (200 < l0.length) = false := decide_eq_false (by omega)
   clear c6
   (first | rw [c6b0] | (simp only [i64_w, i32_w]; rw [c6b0]) | skip)
   replace H := Option.bind_eq_some_iff.mp H
   obtain ⟨t193, A100, H⟩ := H
   replace H : (if t193 = true then (if (l1.length : Int) > 40 then ((ref_At.f 2 (-2)).bind fun bt194 => (law_ArrangeMatchesSpec.j0 k l0 l1 bt194.1 bt194.2)) else ((ref_NamesOk.f k l1).bind fun t196 => (if t196 = true then (law_ArrangeMatchesSpec.j0 k l0 l1 0 0) else ((ref_At.f 12 (-2)).bind fun bt197 => (law_ArrangeMatchesSpec.j0 k l0 l1 bt197.1 bt197.2))))) else ((ref_At.f 12 (-1)).bind fun bt199 => (law_ArrangeMatchesSpec.j0 k l0 l1 bt199.1 bt199.2))) = some r := H
   have A10 := Aside0.mk A100
   clear A100
   by_cases c11 : t193 = true
   ·subst c11
    have H1 : (if (l1.length : Int) > 40 then ((ref_At.f 2 (-2)).bind fun bt194 => (law_ArrangeMatchesSpec.j0 k l0 l1 bt194.1 bt194.2)) else ((ref_NamesOk.f k l1).bind fun t196 => (if t196 = true then (law_ArrangeMatchesSpec.j0 k l0 l1 0 0) else ((ref_At.f 12 (-2)).bind fun bt197 => (law_ArrangeMatchesSpec.j0 k l0 l1 bt197.1 bt197.2))))) = some r := by rw [if_pos rfl] at H; exact H
    clear H
    have H := H1
    clear H1
    by_cases c12 : (l1.length : Int) > 40
    ·rw [if_pos c12] at H
     have c12b0 : decide (40 < (l1.length : Int)) = true := decide_eq_true c12
     have c12b1 : decide (40 < l1.length) = true := decide_eq_true (by omega)
     clear c12
     replace H := Option.bind_eq_some_iff.mp H
     obtain ⟨⟨t194, t195⟩, A130, H⟩ := H
     replace H : (law_ArrangeMatchesSpec.j0 k l0 l1 t194 t195) = some r := H
     have A13 := Aside0.mk A130
     clear A130
     have H' := Aside0.mk H
     clear H
     go_wp2_with (first | ((with_reducible refine gate_callee (f := 8) rfl ?_); refine goesL_ (some 14) rfl rfl Try.func8 (by kernel_rfl) rfl #[.slice A0 l0.length c0] rfl qA ?_; (with_reducible refine (ref_NamesOk.calls k _ _ l0 true _ ?side1 ?side2 A10.out).mono ?_); (case side1 => exact Kd.C_below HR0.out qB); (case side2 => exact HC0.out); rintro e w' ⟨rfl, ⟨nd, rfl⟩⟩; refine ⟨_, rfl, ?_⟩) | ((with_reducible refine gate_callee (f := 7) rfl ?_); refine goesL_ (some 20) rfl rfl Try.func7 (by kernel_rfl) rfl #[.int .i64 2, .int .i64 (-2)] rfl qA ?_; (with_reducible refine (ref_At.calls 2 (-2) t194 t195 _ A13.out).mono ?_); rintro e w14 ⟨rfl, hb⟩; refine ⟨_, rfl, ?_⟩; refine up2 (bP (o := .cells #[.int .i64 0, .int .i64 0] 24 (0, 0)) BK190 hb) (bH hb) ?_; clear BK190 HB; intro BK190 HB; (try clear hb); (try clear hb2); (try clear hk); (try clear hi); have hcz15 := blkC2 BK190.out))
     go_meet
     case rel => exact ⟨_, (t194), (t195), H', ⟨by first | omega | exact Nat.le_refl _⟩, ⟨qP BK190⟩, ⟨qB⟩⟩
    ·rw [if_neg c12] at H
     have c12b0 : decide (40 < (l1.length : Int)) = false := decide_eq_false c12
     have c12b1 : decide (40 < l1.length) = false := decide_eq_false (by omega)
     clear c12
     replace H := Option.bind_eq_some_iff.mp H
     obtain ⟨t196, A160, H⟩ := H
     replace H : (if t196 = true then (law_ArrangeMatchesSpec.j0 k l0 l1 0 0) else ((ref_At.f 12 (-2)).bind fun bt197 => (law_ArrangeMatchesSpec.j0 k l0 l1 bt197.1 bt197.2))) = some r := H
     have A16 := Aside0.mk A160
     clear A160
     by_cases c17 : t196 = true
     ·subst c17
      have H1 : (law_ArrangeMatchesSpec.j0 k l0 l1 0 0) = some r := by rw [if_pos rfl] at H; exact H
      clear H
      have H := H1
      clear H1
      have H' := Aside0.mk H
      clear H
      go_wp2_with (first | ((with_reducible refine gate_callee (f := 8) rfl ?_); refine goesL_ (some 14) rfl rfl Try.func8 (by kernel_rfl) rfl #[.slice A0 l0.length c0] rfl qA ?_; (with_reducible refine (ref_NamesOk.calls k _ _ l0 true _ ?side1 ?side2 A10.out).mono ?_); (case side1 => exact Kd.C_below HR0.out qB); (case side2 => exact HC0.out); rintro e w' ⟨rfl, ⟨nd, rfl⟩⟩; refine ⟨_, rfl, ?_⟩) | ((with_reducible refine gate_callee (f := 8) rfl ?_); refine goesL_ (some 22) rfl rfl Try.func8 (by kernel_rfl) rfl #[.slice A1 l1.length c1] rfl qA ?_; (with_reducible refine (ref_NamesOk.calls k _ _ l1 true _ ?side1 ?side2 A16.out).mono ?_); (case side1 => exact Kd.C_below HR1.out qB); (case side2 => exact HC1.out); rintro e w' ⟨rfl, ⟨nd, rfl⟩⟩; refine ⟨_, rfl, ?_⟩))
      go_meet
      case rel => exact ⟨_, (0), (0), H', ⟨by first | omega | exact Nat.le_refl _⟩, ⟨qP BK190⟩, ⟨qB⟩⟩
     ·replace c17 := Bool.eq_false_iff.mpr c17
      subst c17
      have H1 : ((ref_At.f 12 (-2)).bind fun bt197 => (law_ArrangeMatchesSpec.j0 k l0 l1 bt197.1 bt197.2)) = some r := by rw [if_neg (show ¬ (false = true) by decide)] at H; exact H
      clear H
      have H := H1
      clear H1
      replace H := Option.bind_eq_some_iff.mp H
      obtain ⟨⟨t197, t198⟩, A180, H⟩ := H
      replace H : (law_ArrangeMatchesSpec.j0 k l0 l1 t197 t198) = some r := H
      have A18 := Aside0.mk A180
      clear A180
      have H' := Aside0.mk H
      clear H
      go_wp2_with (first | ((with_reducible refine gate_callee (f := 8) rfl ?_); refine goesL_ (some 14) rfl rfl Try.func8 (by kernel_rfl) rfl #[.slice A0 l0.length c0] rfl qA ?_; (with_reducible refine (ref_NamesOk.calls k _ _ l0 true _ ?side1 ?side2 A10.out).mono ?_); (case side1 => exact Kd.C_below HR0.out qB); (case side2 => exact HC0.out); rintro e w' ⟨rfl, ⟨nd, rfl⟩⟩; refine ⟨_, rfl, ?_⟩) | ((with_reducible refine gate_callee (f := 8) rfl ?_); refine goesL_ (some 22) rfl rfl Try.func8 (by kernel_rfl) rfl #[.slice A1 l1.length c1] rfl qA ?_; (with_reducible refine (ref_NamesOk.calls k _ _ l1 false _ ?side1 ?side2 A16.out).mono ?_); (case side1 => exact Kd.C_below HR1.out qB); (case side2 => exact HC1.out); rintro e w' ⟨rfl, ⟨nd, rfl⟩⟩; refine ⟨_, rfl, ?_⟩) | ((with_reducible refine gate_callee (f := 7) rfl ?_); refine goesL_ (some 24) rfl rfl Try.func7 (by kernel_rfl) rfl #[.int .i64 12, .int .i64 (-2)] rfl qA ?_; (with_reducible refine (ref_At.calls 12 (-2) t197 t198 _ A18.out).mono ?_); rintro e w19 ⟨rfl, hb⟩; refine ⟨_, rfl, ?_⟩; refine up2 (bP (o := .cells #[.int .i64 0, .int .i64 0] 24 (0, 0)) BK190 hb) (bH hb) ?_; clear BK190 HB; intro BK190 HB; (try clear hb); (try clear hb2); (try clear hk); (try clear hi); have hcz20 := blkC2 BK190.out))
      go_meet
      case rel => exact ⟨_, (t197), (t198), H', ⟨by first | omega | exact Nat.le_refl _⟩, ⟨qP BK190⟩, ⟨qB⟩⟩
   ·replace c11 := Bool.eq_false_iff.mpr c11
    subst c11
    have H1 : ((ref_At.f 12 (-1)).bind fun bt199 => (law_ArrangeMatchesSpec.j0 k l0 l1 bt199.1 bt199.2)) = some r := by rw [if_neg (show ¬ (false = true) by decide)] at H; exact H
    clear H
    have H := H1
    clear H1
    replace H := Option.bind_eq_some_iff.mp H
    obtain ⟨⟨t199, t200⟩, A210, H⟩ := H
    replace H : (law_ArrangeMatchesSpec.j0 k l0 l1 t199 t200) = some r := H
    have A21 := Aside0.mk A210
    clear A210
    have H' := Aside0.mk H
    clear H
    go_wp2_with (first | ((with_reducible refine gate_callee (f := 8) rfl ?_); refine goesL_ (some 14) rfl rfl Try.func8 (by kernel_rfl) rfl #[.slice A0 l0.length c0] rfl qA ?_; (with_reducible refine (ref_NamesOk.calls k _ _ l0 false _ ?side1 ?side2 A10.out).mono ?_); (case side1 => exact Kd.C_below HR0.out qB); (case side2 => exact HC0.out); rintro e w' ⟨rfl, ⟨nd, rfl⟩⟩; refine ⟨_, rfl, ?_⟩) | ((with_reducible refine gate_callee (f := 7) rfl ?_); refine goesL_ (some 16) rfl rfl Try.func7 (by kernel_rfl) rfl #[.int .i64 12, .int .i64 (-1)] rfl qA ?_; (with_reducible refine (ref_At.calls 12 (-1) t199 t200 _ A21.out).mono ?_); rintro e w22 ⟨rfl, hb⟩; refine ⟨_, rfl, ?_⟩; refine up2 (bP (o := .cells #[.int .i64 0, .int .i64 0] 24 (0, 0)) BK190 hb) (bH hb) ?_; clear BK190 HB; intro BK190 HB; (try clear hb); (try clear hb2); (try clear hk); (try clear hi); have hcz23 := blkC2 BK190.out))
    go_meet
    case rel => exact ⟨_, (t199), (t200), H', ⟨by first | omega | exact Nat.le_refl _⟩, ⟨qP BK190⟩, ⟨qB⟩⟩
 case rest =>
  clear HC3
  try clear c1
  try clear p2
  try clear c3
  try clear c6
  try clear c6b0
  try clear c6b1
  try clear c7
  try clear c8
  try clear c11
  try clear c12
  try clear c12b0
  try clear c12b1
  try clear c17
  try clear hcz15
  try clear hcz20
  try clear hcz23
  try clear hcz5
  try clear hcz9
  obtain ⟨kq, x191000_2, x191001_2, HA, HJ2, BK190, HB⟩ := hcut
  cases kq with
  | zero => exact absurd HA.out (by simp [law_ArrangeMatchesSpec.j0])
  | succ kj2 =>
   have H := HA.out
   clear HA
   simp only [law_ArrangeMatchesSpec.j0] at H
   replace H := Option.bind_eq_some_iff.mp H
   obtain ⟨⟨t201, t204, t205⟩, A240, H⟩ := H
   replace H : ((law_orders.f kj2).bind fun t207 => (if t207 = true then (if (t204 == x191000_2 && (t205 == x191001_2)) = true then (if x191000_2 = 0 then ((ref_OrderOf.f kj2 l0 l1).bind fun t208 => ((law_ints.f kj2 t201 t208).bind fun t211 => (some t211))) else (if (t201.length : Int) = 0 then (some true) else (none))) else (none)) else (none))) = some r := H
   have A24 := Aside0.mk A240
   clear A240
   replace H := Option.bind_eq_some_iff.mp H
   obtain ⟨t207, A250, H⟩ := H
   replace H : (if t207 = true then (if (t204 == x191000_2 && (t205 == x191001_2)) = true then (if x191000_2 = 0 then ((ref_OrderOf.f kj2 l0 l1).bind fun t208 => ((law_ints.f kj2 t201 t208).bind fun t211 => (some t211))) else (if (t201.length : Int) = 0 then (some true) else (none))) else (none)) else (none)) = some r := H
   have A25 := Aside0.mk A250
   clear A250
   by_cases c26 : t207 = true
   ·subst c26
    have H1 : (if (t204 == x191000_2 && (t205 == x191001_2)) = true then (if x191000_2 = 0 then ((ref_OrderOf.f kj2 l0 l1).bind fun t208 => ((law_ints.f kj2 t201 t208).bind fun t211 => (some t211))) else (if (t201.length : Int) = 0 then (some true) else (none))) else (none)) = some r := by rw [if_pos rfl] at H; exact H
    clear H
    have H := H1
    clear H1
    by_cases c27 : (t204 == x191000_2 && (t205 == x191001_2)) = true
    ·rw [if_pos c27] at H
     have c27b0 : (t204 == x191000_2 && (t205 == x191001_2)) = true := c27
     (try (have c27b1 : decide (t204 = x191000_2 && (t205 == x191001_2)) = true := by simpa using c27))
     (try (have c27b2 : (t204 == x191000_2 && (t205 == x191001_2)) = true := by simpa using c27))
     clear c27
     by_cases c28 : x191000_2 = 0
     ·rw [if_pos c28] at H
      have c28b0 : (x191000_2 == 0) = true := beq_iff_eq.mpr c28
      have c28b1 : (x191000_2 != 0) = false := bne_eq_false_iff_eq.mpr c28
      clear c28
      replace H := Option.bind_eq_some_iff.mp H
      obtain ⟨t208, A290, H⟩ := H
      replace H : ((law_ints.f kj2 t201 t208).bind fun t211 => (some t211)) = some r := H
      have A29 := Aside0.mk A290
      clear A290
      replace H := Option.bind_eq_some_iff.mp H
      obtain ⟨t211, A300, H⟩ := H
      replace H : (some t211) = some r := H
      have A30 := Aside0.mk A300
      clear A300
      obtain rfl := Option.some.inj H
      go_wp2_with (first | ((with_reducible refine gate_callee (f := 9) rfl ?_); refine goesL_ (some 28) rfl rfl Try.func9 (by kernel_rfl) rfl #[.slice A0 l0.length c0, .slice A1 l1.length c1] rfl qA ?_; (with_reducible refine (arrange_ByNames.calls _ _ l0 _ _ l1 t201 t204 t205 _ ?side1 ?side2 ?side3 ?side4 A24.out).mono ?_); (case side1 => exact qC HR0 HB); (case side2 => exact HC0.out); (case side3 => exact qC HR1 HB); (case side4 => exact HC1.out); rintro e w31 ⟨v202, rfl, ho0, hb⟩; refine ⟨_, rfl, ?_⟩; refine up3 (am (Kd.R_lower ho0 (below_size qB))) (bB BK190 hb) (bH hb) ?_; clear BK190 HB; intro HO203 BK190 HB; (try clear hb); (try clear hb2); (try clear hk); (try clear hi); (try clear ho0)) | ((with_reducible refine gate_dst (N := 7) rfl ?_); (try (refine gate_guard (by rfl) ?_; dsimp only)); refine qX (N := 7) (cs := #[.int .i64 0, .int .i64 0]) (t := 24) ?_; intro gb206 hg w32 hbox hb; refine up8 (am (Kd.R_below (qR HO203) hb)) (bB BK190 hb) (bH hb) (am hbox) (bW hg) (bW hg) (bL BK190 hg) (bG BK190 hg) ?_; clear HO203 BK190 HB hb hbox hg; intro HO203 BK190 HB BK206 GW206 GE206 NB190_206 NB206_190; have hnb33 := NB206_190.out; have hnc33 := NB190_206.out; have hcz34 := blkC2 BK206.out) | ((with_reducible refine gate_callee (f := 10) rfl ?_); refine goesL_ (some 31) rfl rfl Try.func10 (by kernel_rfl) rfl #[] rfl qA ?_; (with_reducible refine (law_orders.calls kj2  true _ A25.out).mono ?_); rintro e w35 ⟨rfl, hb⟩; refine ⟨_, rfl, ?_⟩; refine up4 (am (Kd.R_below (by (with_reducible repeat (first | apply Kd.R_alloc | apply Kd.R_drewN | apply Kd.R_drew)); exact (Kd.R_mono (Kd.R_far (p := ⟨gb206, 1, none⟩) (Kd.R_far (p := ⟨gb206, 0, none⟩) (Kd.R_types HO203.out BK206.out (by decide)) (fun _ hk => hk.2) (.int .i64 t204)) (fun _ hk => hk.2) (.int .i64 t205)) (fun _ h_ => h_.1))) hb)) (bP (o := .cells #[.int .i64 x191000_2, .int .i64 x191001_2] 24 (0, 0)) BK190 hb) (bP (o := .cells #[.int .i64 t204, .int .i64 t205] 24 (0, 0)) BK206 hb) (bH hb) ?_; clear HO203 BK190 BK206 HB; intro HO203 BK190 BK206 HB; (try clear hb); (try clear hb2); (try clear hk); (try clear hi); have hcz36 := blkC2 BK206.out; have hcz37 := blkC2 BK190.out) | (go_at_call 12; (with_reducible refine (ref_OrderOf.calls kj2 _ _ l0 _ _ l1 t208 _ ?side1 ?side2 ?side3 ?side4 A29.out).mono ?_); (case side1 => exact qC HR0 HB); (case side2 => exact HC0.out); (case side3 => exact qC HR1 HB); (case side4 => exact HC1.out); rintro e w38 ⟨v209, rfl, ho0, hb⟩; refine up5 (am (Kd.R_elder' (qR HO203) (Kd.R_base ho0) hb)) (am (Kd.R_lower (Kd.R_new' ho0 (Kd.R_lt (qR HO203))) (below_size qB))) (bB BK190 hb) (bB BK206 hb) (bH hb) ?_; clear HO203 BK190 BK206 HB; intro HO203 HO210 BK190 BK206 HB; (try clear hb); (try clear hb2); (try clear hk); (try clear hi); (try clear ho0); obtain ⟨Ao39, co39, eo39⟩ := Kd.R_slice HO203.out; subst eo39; obtain ⟨Ao40, co40, eo40⟩ := Kd.R_slice HO210.out; subst eo40) | (go_at_call 11; (with_reducible refine (law_ints.calls kj2 _ _ t201 _ _ t208 t211 _ ?side1 ?side2 ?side3 ?side4 A30.out).mono ?_); (case side1 => repeat (first | exact (Kd.R_reads' HO203.out).2.2 | (with_reducible refine Kd.C_alloc ?_ _) | (with_reducible refine Kd.C_drewN ?_ _) | (with_reducible refine Kd.C_drew ?_))); (case side2 => exact (Kd.R_reads' HO203.out).2.1); (case side3 => repeat (first | exact (Kd.R_reads' HO210.out).2.2 | (with_reducible refine Kd.C_alloc ?_ _) | (with_reducible refine Kd.C_drewN ?_ _) | (with_reducible refine Kd.C_drew ?_))); (case side4 => exact (Kd.R_reads' HO210.out).2.1); rintro e w' ⟨rfl, ⟨nd, rfl⟩⟩))
      go_ret
      exact ⟨qE, qB⟩
     ·rw [if_neg c28] at H
      have c28b0 : (x191000_2 == 0) = false := beq_eq_false_iff_ne.mpr c28
      have c28b1 : (x191000_2 != 0) = true := bne_iff_ne.mpr c28
      by_cases c41 : (t201.length : Int) = 0
      ·rw [if_pos c41] at H
       have c41b0 : ((t201.length : Int) == 0) = true := beq_iff_eq.mpr c41
       have c41b1 : ((t201.length : Int) != 0) = false := bne_eq_false_iff_eq.mpr c41
       clear c41
       obtain rfl := Option.some.inj H
       go_wp2_with (first | ((with_reducible refine gate_callee (f := 9) rfl ?_); refine goesL_ (some 28) rfl rfl Try.func9 (by kernel_rfl) rfl #[.slice A0 l0.length c0, .slice A1 l1.length c1] rfl qA ?_; (with_reducible refine (arrange_ByNames.calls _ _ l0 _ _ l1 t201 t204 t205 _ ?side1 ?side2 ?side3 ?side4 A24.out).mono ?_); (case side1 => exact qC HR0 HB); (case side2 => exact HC0.out); (case side3 => exact qC HR1 HB); (case side4 => exact HC1.out); rintro e w42 ⟨v202, rfl, ho0, hb⟩; refine ⟨_, rfl, ?_⟩; refine up3 (am (Kd.R_lower ho0 (below_size qB))) (bB BK190 hb) (bH hb) ?_; clear BK190 HB; intro HO203 BK190 HB; (try clear hb); (try clear hb2); (try clear hk); (try clear hi); (try clear ho0)) | ((with_reducible refine gate_dst (N := 7) rfl ?_); (try (refine gate_guard (by rfl) ?_; dsimp only)); refine qX (N := 7) (cs := #[.int .i64 0, .int .i64 0]) (t := 24) ?_; intro gb206 hg w43 hbox hb; refine up8 (am (Kd.R_below (qR HO203) hb)) (bB BK190 hb) (bH hb) (am hbox) (bW hg) (bW hg) (bL BK190 hg) (bG BK190 hg) ?_; clear HO203 BK190 HB hb hbox hg; intro HO203 BK190 HB BK206 GW206 GE206 NB190_206 NB206_190; have hnb44 := NB206_190.out; have hnc44 := NB190_206.out; have hcz45 := blkC2 BK206.out) | ((with_reducible refine gate_callee (f := 10) rfl ?_); refine goesL_ (some 31) rfl rfl Try.func10 (by kernel_rfl) rfl #[] rfl qA ?_; (with_reducible refine (law_orders.calls kj2  true _ A25.out).mono ?_); rintro e w46 ⟨rfl, hb⟩; refine ⟨_, rfl, ?_⟩; refine up4 (am (Kd.R_below (by (with_reducible repeat (first | apply Kd.R_alloc | apply Kd.R_drewN | apply Kd.R_drew)); exact (Kd.R_mono (Kd.R_far (p := ⟨gb206, 1, none⟩) (Kd.R_far (p := ⟨gb206, 0, none⟩) (Kd.R_types HO203.out BK206.out (by decide)) (fun _ hk => hk.2) (.int .i64 t204)) (fun _ hk => hk.2) (.int .i64 t205)) (fun _ h_ => h_.1))) hb)) (bP (o := .cells #[.int .i64 x191000_2, .int .i64 x191001_2] 24 (0, 0)) BK190 hb) (bP (o := .cells #[.int .i64 t204, .int .i64 t205] 24 (0, 0)) BK206 hb) (bH hb) ?_; clear HO203 BK190 BK206 HB; intro HO203 BK190 BK206 HB; (try clear hb); (try clear hb2); (try clear hk); (try clear hi); have hcz47 := blkC2 BK206.out; have hcz48 := blkC2 BK190.out; obtain ⟨Ao49, co49, eo49⟩ := Kd.R_slice HO203.out; subst eo49))
       go_ret
       exact ⟨qE, qB⟩
      ·rw [if_neg c41] at H
       have c41b0 : ((t201.length : Int) == 0) = false := beq_eq_false_iff_ne.mpr c41
       have c41b1 : ((t201.length : Int) != 0) = true := bne_iff_ne.mpr c41
       have c41b2 : ¬ (t201 = []) := fun h_ => c41 (by rw [h_]; rfl)
       exact absurd H (by simp)
    ·rw [if_neg c27] at H
     exact absurd H (by simp)
   ·replace c26 := Bool.eq_false_iff.mpr c26
    subst c26
    have H1 : (none) = some r := by rw [if_neg (show ¬ (false = true) by decide)] at H; exact H
    clear H
    have H := H1
    clear H1
    exact absurd H (by simp)

/-- What is left to prove of law_ArrangeMatchesSpec. -/
def law_ArrangeMatchesSpec.Pure : Prop := ∀ (l0 : List ByteArray) (l1 : List ByteArray), l0.length ≤ 9223372036854775807 → l0.length * 16 ≤ 140737488351232 → (∀ y ∈ l0, y.size ≤ 9223372036854775807) → l1.length ≤ 9223372036854775807 → l1.length * 16 ≤ 140737488351232 → (∀ y ∈ l1, y.size ≤ 9223372036854775807) → ∃ k, law_ArrangeMatchesSpec.f k l0 l1 = some true

/-! ### ref_Permutes: function 14 -/
def ref_Permutes.l0 : Nat → List Int → Int → Option (Bool)
 | 0, _, _ => none
 | k + 1, x0, x3 => if x3 < (x0.length : Int) then ((ref_Has.f k x0 x3).bind fun t212 => (if t212 = true then (ref_Permutes.l0 k x0 (wrap64 (x3 + 1))) else (some false))) else (some true)
def ref_Permutes.f (k : Nat) (l0 : List Int) : Option (Bool) := ref_Permutes.l0 k l0 0
theorem ref_Permutes.mono_l : ∀ k, (∀ y0 y1, LeO (ref_Permutes.l0 k y0 y1) (ref_Permutes.l0 (k + 1) y0 y1))
 | 0 => fun _ _ r h => by simp [ref_Permutes.l0] at h
 | k + 1 => by
  have ih0 := ref_Permutes.mono_l k
  ·intro y0 y1
   unfold ref_Permutes.l0
   repeat' first
   | (with_reducible exact ih0 _ _)
   | (with_reducible exact ref_Has.mono _ _ _)
   | (with_reducible exact LeO.refl _)
   | (with_reducible exact LeO.none _)
   | (with_reducible refine LeO.ite ?_ ?_)
   | (with_reducible refine LeO.bind ?_ (fun _ => ?_))
   | exact ih0 _ _
   | exact ref_Has.mono _ _ _
   | exact LeO.none _
   | refine LeO.ite ?_ ?_
   | refine LeO.bind ?_ (fun _ => ?_)
theorem ref_Permutes.mono : ∀ a0 k, LeO (ref_Permutes.f k a0) (ref_Permutes.f (k + 1) a0) := by
 intro a0 k
 have ih0 := ref_Permutes.mono_l k
 unfold ref_Permutes.f
 repeat' first
   | (with_reducible exact ih0 _ _)
   | (with_reducible exact ref_Has.mono _ _ _)
   | (with_reducible exact LeO.refl _)
   | (with_reducible exact LeO.none _)
   | (with_reducible refine LeO.ite ?_ ?_)
   | (with_reducible refine LeO.bind ?_ (fun _ => ?_))
   | exact ih0 _ _
   | exact ref_Has.mono _ _ _
   | exact LeO.none _
   | refine LeO.ite ?_ ?_
   | refine LeO.bind ?_ (fun _ => ?_)
set_option maxHeartbeats 8000000 in
set_option maxRecDepth 100000 in
theorem ref_Permutes.calls (k : Nat) (A0 : Option Addr) (c0 : Nat) (l0 : List Int) (r : Bool) (w : World) (hr0 : Kd.C (Kd.int .i64) w A0 l0.length l0) (hc0 : l0.length ≤ c0) (h : ref_Permutes.f k l0 = some r) :
  Calls Try.prog 14 #[.slice A0 l0.length c0] w fun e w' => e = .returned (.bool r) ∧ Drawn0 w w' := by
 have HR0 := Aside0.mk hr0
 have HC0 := Aside0.mk hc0
 clear hr0 hc0
 have H : (ref_Permutes.l0 k l0 0) = some r := h
 clear h
 have H' := Aside0.mk H
 clear H
 go_enter Try.func14, Try.ntmps14
 go_wp2
 go_loopg [3] k (fun kq v3 w' => ∃ (x3_1 : Int), v3 = .int .i64 x3_1 ∧ Aside0 (ref_Permutes.l0 kq l0 x3_1 = some r) ∧ Aside0 (kq ≤ k) ∧ Drawn0 w w')
 case atStart => exact ⟨(0), qF, H', ⟨Nat.le_refl _⟩, by repeat (first | exact Drawn0.refl _ | apply Drawn0.step)⟩
 case round =>
  clear H'
  try clear c1
  obtain ⟨x3_1, rfl, HA, HK1, ⟨m1, rfl⟩⟩ := hrel
  cases gk with
  | zero => exact absurd HA.out (by simp [ref_Permutes.l0])
  | succ k1 =>
   have H := HA.out
   clear HA
   simp only [ref_Permutes.l0] at H
   by_cases c2 : x3_1 < (l0.length : Int)
   ·rw [if_pos c2] at H
    have c2b0 : decide (x3_1 < (l0.length : Int)) = true := decide_eq_true c2
    clear c2
    replace H := Option.bind_eq_some_iff.mp H
    obtain ⟨t212, A30, H⟩ := H
    replace H : (if t212 = true then (ref_Permutes.l0 k1 l0 (wrap64 (x3_1 + 1))) else (some false)) = some r := H
    have A3 := Aside0.mk A30
    clear A30
    by_cases c4 : t212 = true
    ·subst c4
     have H1 : (ref_Permutes.l0 k1 l0 (wrap64 (x3_1 + 1))) = some r := by rw [if_pos rfl] at H; exact H
     clear H
     have H := H1
     clear H1
     have H' := Aside0.mk H
     clear H
     go_wp2_with (first | ((with_reducible refine gate_callee (f := 21) rfl ?_); refine goesL_ (some 12) rfl rfl Try.func21 (by kernel_rfl) rfl #[.slice A0 l0.length c0, .int .i64 x3_1] rfl qA ?_; (with_reducible refine (ref_Has.calls k1 _ _ l0 x3_1 true _ ?side1 ?side2 A3.out).mono ?_); (case side1 => exact qCn HR0); (case side2 => exact HC0.out); rintro e w' ⟨rfl, ⟨nd, rfl⟩⟩; refine ⟨_, rfl, ?_⟩))
     go_roundg k1
     case measure => have := HK1.out; omega
     case rel => exact ⟨(wrap64 (x3_1 + 1)), qF, H', ⟨by have := HK1.out; omega⟩, by repeat (first | exact Drawn0.refl _ | apply Drawn0.step)⟩
    ·replace c4 := Bool.eq_false_iff.mpr c4
     subst c4
     have H1 : (some false) = some r := by rw [if_neg (show ¬ (false = true) by decide)] at H; exact H
     clear H
     have H := H1
     clear H1
     obtain rfl := Option.some.inj H
     go_wp2_with (first | ((with_reducible refine gate_callee (f := 21) rfl ?_); refine goesL_ (some 12) rfl rfl Try.func21 (by kernel_rfl) rfl #[.slice A0 l0.length c0, .int .i64 x3_1] rfl qA ?_; (with_reducible refine (ref_Has.calls k1 _ _ l0 x3_1 false _ ?side1 ?side2 A3.out).mono ?_); (case side1 => exact qCn HR0); (case side2 => exact HC0.out); rintro e w' ⟨rfl, ⟨nd, rfl⟩⟩; refine ⟨_, rfl, ?_⟩))
     go_ret
     exact ⟨qF, by repeat (first | exact Drawn0.refl _ | apply Drawn0.step)⟩
   ·rw [if_neg c2] at H
    have c2b0 : decide (x3_1 < (l0.length : Int)) = false := decide_eq_false c2
    clear c2
    obtain rfl := Option.some.inj H
    go_wp2
    go_ret
    exact ⟨qF, by repeat (first | exact Drawn0.refl _ | apply Drawn0.step)⟩

/-! ### ref_HeavyOf: function 17 -/
mutual
def ref_HeavyOf.l0 : Nat → List Int → List Int → Option (List Int)
 | 0, _, _ => none
 | k + 1, x0, x3 => if (x3.length : Int) < (x0.length : Int) then (ref_HeavyOf.l1 k x0 x3 (-1) 0) else (some x3)
def ref_HeavyOf.l1 : Nat → List Int → List Int → Int → Int → Option (List Int)
 | 0, _, _, _, _ => none
 | k + 1, x0, x3, x4, x5 => if x5 < (x0.length : Int) then ((ref_Has.f k x3 x5).bind fun t213 => (if t213 = true then (ref_HeavyOf.l1 k x0 x3 x4 (wrap64 (x5 + 1))) else (if x4 < 0 then (ref_HeavyOf.l1 k x0 x3 x5 (wrap64 (x5 + 1))) else (if 0 ≤ x5 then (if 0 ≤ x4 then (if x4 < (x0.length : Int) then (if (rd x0 x5) > (rd x0 x4) then (ref_HeavyOf.l1 k x0 x3 x5 (wrap64 (x5 + 1))) else (ref_HeavyOf.l1 k x0 x3 x4 (wrap64 (x5 + 1)))) else (none)) else (none)) else (none))))) else (if x3.length < 17592186044416 then (ref_HeavyOf.l0 k x0 (x3 ++ [x4])) else (none))
end
def ref_HeavyOf.f (k : Nat) (l0 : List Int) : Option (List Int) := ref_HeavyOf.l0 k l0 ([] : List Int)
theorem ref_HeavyOf.mono_l : ∀ k, (∀ y0 y1, LeO (ref_HeavyOf.l0 k y0 y1) (ref_HeavyOf.l0 (k + 1) y0 y1)) ∧ (∀ y0 y1 y2 y3, LeO (ref_HeavyOf.l1 k y0 y1 y2 y3) (ref_HeavyOf.l1 (k + 1) y0 y1 y2 y3))
 | 0 => ⟨fun _ _ r h => by simp [ref_HeavyOf.l0] at h, fun _ _ _ _ r h => by simp [ref_HeavyOf.l1] at h⟩
 | k + 1 => by
  obtain ⟨ih0, ih1⟩ := ref_HeavyOf.mono_l k
  refine ⟨?_, ?_⟩
  ·intro y0 y1
   unfold ref_HeavyOf.l0
   repeat' first
   | (with_reducible exact ih0 _ _)
   | (with_reducible exact ih1 _ _ _ _)
   | (with_reducible exact ref_Has.mono _ _ _)
   | (with_reducible exact LeO.refl _)
   | (with_reducible exact LeO.none _)
   | (with_reducible refine LeO.ite ?_ ?_)
   | (with_reducible refine LeO.bind ?_ (fun _ => ?_))
   | exact ih0 _ _
   | exact ih1 _ _ _ _
   | exact ref_Has.mono _ _ _
   | exact LeO.none _
   | refine LeO.ite ?_ ?_
   | refine LeO.bind ?_ (fun _ => ?_)
  ·intro y0 y1 y2 y3
   unfold ref_HeavyOf.l1
   repeat' first
   | (with_reducible exact ih0 _ _)
   | (with_reducible exact ih1 _ _ _ _)
   | (with_reducible exact ref_Has.mono _ _ _)
   | (with_reducible exact LeO.refl _)
   | (with_reducible exact LeO.none _)
   | (with_reducible refine LeO.ite ?_ ?_)
   | (with_reducible refine LeO.bind ?_ (fun _ => ?_))
   | exact ih0 _ _
   | exact ih1 _ _ _ _
   | exact ref_Has.mono _ _ _
   | exact LeO.none _
   | refine LeO.ite ?_ ?_
   | refine LeO.bind ?_ (fun _ => ?_)
theorem ref_HeavyOf.mono : ∀ a0 k, LeO (ref_HeavyOf.f k a0) (ref_HeavyOf.f (k + 1) a0) := by
 intro a0 k
 obtain ⟨ih0, ih1⟩ := ref_HeavyOf.mono_l k
 unfold ref_HeavyOf.f
 repeat' first
   | (with_reducible exact ih0 _ _)
   | (with_reducible exact ih1 _ _ _ _)
   | (with_reducible exact ref_Has.mono _ _ _)
   | (with_reducible exact LeO.refl _)
   | (with_reducible exact LeO.none _)
   | (with_reducible refine LeO.ite ?_ ?_)
   | (with_reducible refine LeO.bind ?_ (fun _ => ?_))
   | exact ih0 _ _
   | exact ih1 _ _ _ _
   | exact ref_Has.mono _ _ _
   | exact LeO.none _
   | refine LeO.ite ?_ ?_
   | refine LeO.bind ?_ (fun _ => ?_)
set_option maxHeartbeats 8000000 in
set_option maxRecDepth 100000 in
theorem ref_HeavyOf.calls (k : Nat) (A0 : Option Addr) (c0 : Nat) (l0 : List Int) (r : List Int) (w : World) (hr0 : Kd.C (Kd.int .i64) w A0 l0.length l0) (hc0 : l0.length ≤ c0) (h : ref_HeavyOf.f k l0 = some r) :
  Calls Try.prog 17 #[.slice A0 l0.length c0] w fun e w' => ∃ v0_ : Value, e = .returned (v0_) ∧ Kd.R (Kd.int .i64) 3 w' w.heap.size (fun _ => True) v0_ r ∧ Below w.heap.size w w' := by
 have HR0 := Aside0.mk hr0
 have HC0 := Aside0.mk hc0
 clear hr0 hc0
 have HB := Aside0.mk (Below.refl w.heap.size w)
 have H : (ref_HeavyOf.l0 k l0 ([] : List Int)) = some r := h
 clear h
 have H' := Aside0.mk H
 clear H
 go_enter Try.func17, Try.ntmps17
 go_wp2_with (first | go_in | ((with_reducible refine gate_draws ?_); go_quiet (fail)))
 go_loopg [3] k (fun kq v3 w' => ∃ (x3_1 : List Int), Aside0 (ref_HeavyOf.l0 kq l0 x3_1 = some r) ∧ Aside0 (kq ≤ k) ∧ Aside0 (Kd.R (Kd.int .i64) 3 w' w.heap.size (fun _ => True) v3 x3_1) ∧ Aside0 (Below w.heap.size w w'))
 case atStart => exact ⟨(([] : List Int)), H', ⟨Nat.le_refl _⟩, ⟨qL⟩, ⟨qB⟩⟩
 case round =>
  clear H'
  try clear c1
  obtain ⟨x3_1, HA, HK1, HO_3, HB⟩ := hrel
  cases gk with
  | zero => exact absurd HA.out (by simp [ref_HeavyOf.l0])
  | succ k1 =>
   have H := HA.out
   clear HA
   simp only [ref_HeavyOf.l0] at H
   by_cases c2 : (x3_1.length : Int) < (l0.length : Int)
   ·rw [if_pos c2] at H
    have c2b0 : decide ((x3_1.length : Int) < (l0.length : Int)) = true := decide_eq_true c2
    have c2b1 : decide (x3_1.length < l0.length) = true := decide_eq_true (Int.ofNat_lt.mp c2)
    clear c2
    have H' := Aside0.mk H
    clear H
    obtain ⟨Ao3, co3, eo3⟩ := Kd.R_slice HO_3.out
    subst eo3
    go_wp2_with (first | go_in | ((with_reducible refine gate_draws ?_); go_quiet (fail)))
    go_loopg [4, 5] k1 (fun kq v4 v5 w' => ∃ (x4_2 : Int) (x5_2 : Int), v4 = .int .i64 x4_2 ∧ v5 = .int .i64 x5_2 ∧ Aside0 (ref_HeavyOf.l1 kq l0 x3_1 x4_2 x5_2 = some r) ∧ Aside0 (kq ≤ k1) ∧ Aside0 (Kd.R (Kd.int .i64) 3 w' w.heap.size (fun _ => True) (.slice Ao3 x3_1.length co3) x3_1) ∧ Aside0 (Below w.heap.size w w'))
    case atStart => exact ⟨((-1)), (0), qF, qF, H', ⟨Nat.le_refl _⟩, ⟨qR HO_3⟩, ⟨qB⟩⟩
    case round =>
     clear H'
     try clear c1
     try clear c2
     try clear c2b0
     try clear c2b1
     try clear p2
     obtain ⟨x4_2, x5_2, rfl, rfl, HA, HK2, HO_3, HB⟩ := hrel
     cases gk with
     | zero => exact absurd HA.out (by simp [ref_HeavyOf.l1])
     | succ k2 =>
      have H := HA.out
      clear HA
      simp only [ref_HeavyOf.l1] at H
      by_cases c4 : x5_2 < (l0.length : Int)
      ·rw [if_pos c4] at H
       have c4b0 : decide (x5_2 < (l0.length : Int)) = true := decide_eq_true c4
       clear c4
       replace H := Option.bind_eq_some_iff.mp H
       obtain ⟨t213, A50, H⟩ := H
       replace H : (if t213 = true then (ref_HeavyOf.l1 k2 l0 x3_1 x4_2 (wrap64 (x5_2 + 1))) else (if x4_2 < 0 then (ref_HeavyOf.l1 k2 l0 x3_1 x5_2 (wrap64 (x5_2 + 1))) else (if 0 ≤ x5_2 then (if 0 ≤ x4_2 then (if x4_2 < (l0.length : Int) then (if (rd l0 x5_2) > (rd l0 x4_2) then (ref_HeavyOf.l1 k2 l0 x3_1 x5_2 (wrap64 (x5_2 + 1))) else (ref_HeavyOf.l1 k2 l0 x3_1 x4_2 (wrap64 (x5_2 + 1)))) else (none)) else (none)) else (none)))) = some r := H
       have A5 := Aside0.mk A50
       clear A50
       by_cases c6 : t213 = true
       ·subst c6
        have H1 : (ref_HeavyOf.l1 k2 l0 x3_1 x4_2 (wrap64 (x5_2 + 1))) = some r := by rw [if_pos rfl] at H; exact H
        clear H
        have H := H1
        clear H1
        have H' := Aside0.mk H
        clear H
        go_wp2_with (first | (go_at_call 21; (with_reducible refine (ref_Has.calls k2 _ _ x3_1 x5_2 true _ ?side1 ?side2 A5.out).mono ?_); (case side1 => repeat (first | exact (Kd.R_reads' HO_3.out).2.2 | (with_reducible refine Kd.C_alloc ?_ _) | (with_reducible refine Kd.C_drewN ?_ _) | (with_reducible refine Kd.C_drew ?_))); (case side2 => exact (Kd.R_reads' HO_3.out).2.1); rintro e w' ⟨rfl, ⟨nd, rfl⟩⟩; (try exact qD)) | ((with_reducible refine gate_draws ?_); go_quiet (first | (go_at_call 21; (with_reducible refine (ref_Has.calls k2 _ _ x3_1 x5_2 true _ ?side1 ?side2 A5.out).mono ?_); (case side1 => repeat (first | exact (Kd.R_reads' HO_3.out).2.2 | (with_reducible refine Kd.C_alloc ?_ _) | (with_reducible refine Kd.C_drewN ?_ _) | (with_reducible refine Kd.C_drew ?_))); (case side2 => exact (Kd.R_reads' HO_3.out).2.1); rintro e w' ⟨rfl, ⟨nd, rfl⟩⟩; (try exact qD)))))
        go_roundg k2
        case measure => have := HK1.out; have := HK2.out; omega
        case rel => exact ⟨(x4_2), (wrap64 (x5_2 + 1)), qF, qF, H', ⟨by have := HK1.out; have := HK2.out; omega⟩, ⟨qR HO_3⟩, ⟨qB⟩⟩
       ·replace c6 := Bool.eq_false_iff.mpr c6
        subst c6
        have H1 : (if x4_2 < 0 then (ref_HeavyOf.l1 k2 l0 x3_1 x5_2 (wrap64 (x5_2 + 1))) else (if 0 ≤ x5_2 then (if 0 ≤ x4_2 then (if x4_2 < (l0.length : Int) then (if (rd l0 x5_2) > (rd l0 x4_2) then (ref_HeavyOf.l1 k2 l0 x3_1 x5_2 (wrap64 (x5_2 + 1))) else (ref_HeavyOf.l1 k2 l0 x3_1 x4_2 (wrap64 (x5_2 + 1)))) else (none)) else (none)) else (none))) = some r := by rw [if_neg (show ¬ (false = true) by decide)] at H; exact H
        clear H
        have H := H1
        clear H1
        by_cases c7 : x4_2 < 0
        ·rw [if_pos c7] at H
         have c7b0 : decide (x4_2 < 0) = true := decide_eq_true c7
         clear c7
         have H' := Aside0.mk H
         clear H
         go_wp2_with (first | (go_at_call 21; (with_reducible refine (ref_Has.calls k2 _ _ x3_1 x5_2 false _ ?side1 ?side2 A5.out).mono ?_); (case side1 => repeat (first | exact (Kd.R_reads' HO_3.out).2.2 | (with_reducible refine Kd.C_alloc ?_ _) | (with_reducible refine Kd.C_drewN ?_ _) | (with_reducible refine Kd.C_drew ?_))); (case side2 => exact (Kd.R_reads' HO_3.out).2.1); rintro e w' ⟨rfl, ⟨nd, rfl⟩⟩; (try exact qD)) | ((with_reducible refine gate_draws ?_); go_quiet (first | (go_at_call 21; (with_reducible refine (ref_Has.calls k2 _ _ x3_1 x5_2 false _ ?side1 ?side2 A5.out).mono ?_); (case side1 => repeat (first | exact (Kd.R_reads' HO_3.out).2.2 | (with_reducible refine Kd.C_alloc ?_ _) | (with_reducible refine Kd.C_drewN ?_ _) | (with_reducible refine Kd.C_drew ?_))); (case side2 => exact (Kd.R_reads' HO_3.out).2.1); rintro e w' ⟨rfl, ⟨nd, rfl⟩⟩; (try exact qD)))))
         go_roundg k2
         case measure => have := HK1.out; have := HK2.out; omega
         case rel => exact ⟨(x5_2), (wrap64 (x5_2 + 1)), qF, qF, H', ⟨by have := HK1.out; have := HK2.out; omega⟩, ⟨qR HO_3⟩, ⟨qB⟩⟩
        ·rw [if_neg c7] at H
         have c7b0 : decide (x4_2 < 0) = false := decide_eq_false c7
         clear c7
         by_cases c8 : 0 ≤ x5_2
         ·rw [if_pos c8] at H
          have c8b0 : decide (0 ≤ x5_2) = true := decide_eq_true c8
          clear c8
          by_cases c9 : 0 ≤ x4_2
          ·rw [if_pos c9] at H
           have c9b0 : decide (0 ≤ x4_2) = true := decide_eq_true c9
           clear c9
           by_cases c10 : x4_2 < (l0.length : Int)
           ·rw [if_pos c10] at H
            have c10b0 : decide (x4_2 < (l0.length : Int)) = true := decide_eq_true c10
            clear c10
            by_cases c11 : (rd l0 x5_2) > (rd l0 x4_2)
            ·rw [if_pos c11] at H
             have c11b0 : decide ((rd l0 x4_2) < (rd l0 x5_2)) = true := decide_eq_true c11
             clear c11
             have H' := Aside0.mk H
             clear H
             go_wp2_with (first | (go_at_call 21; (with_reducible refine (ref_Has.calls k2 _ _ x3_1 x5_2 false _ ?side1 ?side2 A5.out).mono ?_); (case side1 => repeat (first | exact (Kd.R_reads' HO_3.out).2.2 | (with_reducible refine Kd.C_alloc ?_ _) | (with_reducible refine Kd.C_drewN ?_ _) | (with_reducible refine Kd.C_drew ?_))); (case side2 => exact (Kd.R_reads' HO_3.out).2.1); rintro e w' ⟨rfl, ⟨nd, rfl⟩⟩; (try exact qD); have p214 : 0 ≤ (x5_2 : Int) := of_decide_eq_true qO; have q214 : x5_2 < (l0.length : Int) := of_decide_eq_true qO; obtain ⟨ad214, e214, hx214_0⟩ := Kd.at_int HR0.out x5_2 p214 q214; cases e214; replace hx214_0 := qH HB hx214_0; replace p214 := eq_true p214; replace q214 := eq_true q214; have p215 : 0 ≤ (x4_2 : Int) := of_decide_eq_true qO; have q215 : x4_2 < (l0.length : Int) := of_decide_eq_true qO; obtain ⟨ad215, e215, hx215_0⟩ := Kd.at_int HR0.out x4_2 p215 q215; obtain rfl : ad214 = ad215 := (by injection e215); replace hx215_0 := qH HB hx215_0; replace p215 := eq_true p215; replace q215 := eq_true q215) | ((with_reducible refine gate_draws ?_); go_quiet (first | (go_at_call 21; (with_reducible refine (ref_Has.calls k2 _ _ x3_1 x5_2 false _ ?side1 ?side2 A5.out).mono ?_); (case side1 => repeat (first | exact (Kd.R_reads' HO_3.out).2.2 | (with_reducible refine Kd.C_alloc ?_ _) | (with_reducible refine Kd.C_drewN ?_ _) | (with_reducible refine Kd.C_drew ?_))); (case side2 => exact (Kd.R_reads' HO_3.out).2.1); rintro e w' ⟨rfl, ⟨nd, rfl⟩⟩; (try exact qD); have p214 : 0 ≤ (x5_2 : Int) := of_decide_eq_true qO; have q214 : x5_2 < (l0.length : Int) := of_decide_eq_true qO; obtain ⟨ad214, e214, hx214_0⟩ := Kd.at_int HR0.out x5_2 p214 q214; cases e214; replace hx214_0 := qH HB hx214_0; replace p214 := eq_true p214; replace q214 := eq_true q214; have p215 : 0 ≤ (x4_2 : Int) := of_decide_eq_true qO; have q215 : x4_2 < (l0.length : Int) := of_decide_eq_true qO; obtain ⟨ad215, e215, hx215_0⟩ := Kd.at_int HR0.out x4_2 p215 q215; obtain rfl : ad214 = ad215 := (by injection e215); replace hx215_0 := qH HB hx215_0; replace p215 := eq_true p215; replace q215 := eq_true q215))))
             go_roundg k2
             case measure => have := HK1.out; have := HK2.out; omega
             case rel => exact ⟨(x5_2), (wrap64 (x5_2 + 1)), qF, qF, H', ⟨by have := HK1.out; have := HK2.out; omega⟩, ⟨qR HO_3⟩, ⟨qB⟩⟩
            ·rw [if_neg c11] at H
             have c11b0 : decide ((rd l0 x4_2) < (rd l0 x5_2)) = false := decide_eq_false c11
             clear c11
             have H' := Aside0.mk H
             clear H
             go_wp2_with (first | (go_at_call 21; (with_reducible refine (ref_Has.calls k2 _ _ x3_1 x5_2 false _ ?side1 ?side2 A5.out).mono ?_); (case side1 => repeat (first | exact (Kd.R_reads' HO_3.out).2.2 | (with_reducible refine Kd.C_alloc ?_ _) | (with_reducible refine Kd.C_drewN ?_ _) | (with_reducible refine Kd.C_drew ?_))); (case side2 => exact (Kd.R_reads' HO_3.out).2.1); rintro e w' ⟨rfl, ⟨nd, rfl⟩⟩; (try exact qD); have p214 : 0 ≤ (x5_2 : Int) := of_decide_eq_true qO; have q214 : x5_2 < (l0.length : Int) := of_decide_eq_true qO; obtain ⟨ad214, e214, hx214_0⟩ := Kd.at_int HR0.out x5_2 p214 q214; cases e214; replace hx214_0 := qH HB hx214_0; replace p214 := eq_true p214; replace q214 := eq_true q214; have p215 : 0 ≤ (x4_2 : Int) := of_decide_eq_true qO; have q215 : x4_2 < (l0.length : Int) := of_decide_eq_true qO; obtain ⟨ad215, e215, hx215_0⟩ := Kd.at_int HR0.out x4_2 p215 q215; obtain rfl : ad214 = ad215 := (by injection e215); replace hx215_0 := qH HB hx215_0; replace p215 := eq_true p215; replace q215 := eq_true q215) | ((with_reducible refine gate_draws ?_); go_quiet (first | (go_at_call 21; (with_reducible refine (ref_Has.calls k2 _ _ x3_1 x5_2 false _ ?side1 ?side2 A5.out).mono ?_); (case side1 => repeat (first | exact (Kd.R_reads' HO_3.out).2.2 | (with_reducible refine Kd.C_alloc ?_ _) | (with_reducible refine Kd.C_drewN ?_ _) | (with_reducible refine Kd.C_drew ?_))); (case side2 => exact (Kd.R_reads' HO_3.out).2.1); rintro e w' ⟨rfl, ⟨nd, rfl⟩⟩; (try exact qD); have p214 : 0 ≤ (x5_2 : Int) := of_decide_eq_true qO; have q214 : x5_2 < (l0.length : Int) := of_decide_eq_true qO; obtain ⟨ad214, e214, hx214_0⟩ := Kd.at_int HR0.out x5_2 p214 q214; cases e214; replace hx214_0 := qH HB hx214_0; replace p214 := eq_true p214; replace q214 := eq_true q214; have p215 : 0 ≤ (x4_2 : Int) := of_decide_eq_true qO; have q215 : x4_2 < (l0.length : Int) := of_decide_eq_true qO; obtain ⟨ad215, e215, hx215_0⟩ := Kd.at_int HR0.out x4_2 p215 q215; obtain rfl : ad214 = ad215 := (by injection e215); replace hx215_0 := qH HB hx215_0; replace p215 := eq_true p215; replace q215 := eq_true q215))))
             go_roundg k2
             case measure => have := HK1.out; have := HK2.out; omega
             case rel => exact ⟨(x4_2), (wrap64 (x5_2 + 1)), qF, qF, H', ⟨by have := HK1.out; have := HK2.out; omega⟩, ⟨qR HO_3⟩, ⟨qB⟩⟩
           ·rw [if_neg c10] at H
            exact absurd H (by simp)
          ·rw [if_neg c9] at H
           exact absurd H (by simp)
         ·rw [if_neg c8] at H
          exact absurd H (by simp)
      ·rw [if_neg c4] at H
       have c4b0 : decide (x5_2 < (l0.length : Int)) = false := decide_eq_false c4
       clear c4
       by_cases c12 : x3_1.length < 17592186044416
       ·rw [if_pos c12] at H
        have LMc12 := Aside0.mk c12
        clear c12
        obtain ⟨y216, hy216⟩ : ∃ y_ : List Int, y_ = (x3_1 ++ [x4_2]) := ⟨_, rfl⟩
        replace H : (ref_HeavyOf.l0 k2 l0 y216) = some r := by first | (rw [hy216]; with_reducible exact H) | (have H2_ := (Option.bind_some _ _).symm.trans H; rw [hy216]; with_reducible exact H2_) | (have H2_ := (Option.bind_some _ _).symm.trans H; with_reducible exact H2_) | with_reducible exact H | (rw [hy216]; exact H) | exact H
        have Ny216 := Aside0.mk hy216
        clear hy216
        have H' := Aside0.mk H
        clear H
        go_wp2_with (first | ((with_reducible refine gate_builtin (b := .append) (xs := #[.tmp 37, .tmp 39]) rfl ?_); at_builtin; refine Kd.R_append (Kd.int .i64) (w0 := w) w.heap.size rfl (.tmp 37) (.tmp 39) 27 3 (.int .i64 0) 8 rfl Try.underlying27 info3 rfl (by decide) (by omega) (.slice Ao3 x3_1.length co3) x3_1 x4_2 [.int .i64 x4_2] (fun _ => True) (fun _ => False) rfl rfl ?aP (fun _ hk => hk.elim) ?aF ?aO ?aB ?aS ?aL ?_; (case aP => exact rfl); (case aB => exact qB); (case aF => exact (fun _ _ => trivial)); (case aO => exact (qR HO_3)); (case aS => exact (below_size qB)); (case aL => have := LMc12.out; omega); intro v217 w13 ho hb hg hat; rw [← Ny216.out] at ho; refine up2 (am hb) (am ho) ?_; clear HB HO_3 ho hb hg hat; intro HB HO218) | ((with_reducible refine gate_draws ?_); go_quiet (fail)))
        go_roundg k2
        case measure => have := HK1.out; have := HK2.out; omega
        case rel => exact ⟨(y216), H', ⟨by have := HK1.out; have := HK2.out; omega⟩, ⟨qR HO218⟩, ⟨qB⟩⟩
       ·rw [if_neg c12] at H
        exact absurd H (by simp)
   ·rw [if_neg c2] at H
    have c2b0 : decide ((x3_1.length : Int) < (l0.length : Int)) = false := decide_eq_false c2
    have c2b1 : decide (x3_1.length < l0.length) = false := decide_eq_false (fun h => c2 (Int.ofNat_lt.mpr h))
    clear c2
    obtain rfl := Option.some.inj H
    obtain ⟨Ao14, co14, eo14⟩ := Kd.R_slice HO_3.out
    subst eo14
    go_wp2_with (first | go_in | ((with_reducible refine gate_draws ?_); go_quiet (fail)))
    go_ret
    exact ⟨_, qE, qR HO_3, qB⟩

end Go.Proofs.Ytoegghjhepkfkaa.PArr
