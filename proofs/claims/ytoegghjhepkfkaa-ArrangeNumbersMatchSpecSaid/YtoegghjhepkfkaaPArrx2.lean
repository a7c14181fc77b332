/- Written by a program of this session, for the law(s) Arr: contracts of the Go functions that the law reaches, each against a plain Lean function. No condition. -/
import Derived.Test.YtoegghjhepkfkaaPArrx0
namespace Go.Proofs.Ytoegghjhepkfkaa.PArr
open Go.RowKit Go.Proofs.YtoegghjhepkfkaaW.PrintWords Go.Proofs.YtoegghjhepkfkaaW.PrintLast Go.Proofs.YtoegghjhepkfkaaW.PrintMore
attribute [local go_sem] max2_int min2_int max_two min_two max_three min_three max_four min_four   -- for this text's walks alone
set_option linter.unusedVariables false
set_option linter.unusedSimpArgs false

/-! ### ref_At: function 7 -/
def ref_At.f (a0 : Int) (a1 : Int) : Option (Int × Int) := some (a0, a1)
set_option maxHeartbeats 8000000 in
set_option maxRecDepth 100000 in
theorem ref_At.calls (a0 : Int) (a1 : Int) (r1 : Int) (r2 : Int) (w : World) (h : ref_At.f a0 a1 = some (r1, r2)) :
  Calls Try.prog 7 #[.int .i64 a0, .int .i64 a1] w fun e w' => e = .returned (.agg #[.int .i64 r1, .int .i64 r2]) ∧ Below w.heap.size w w' := by
 have hu24 := Try.underlying24
 have HB := Aside0.mk (Below.refl w.heap.size w)
 have H : (some (a0, a1)) = some (r1, r2) := h
 clear h
 simp only [Option.some.injEq, Prod.mk.injEq] at H
 obtain ⟨rfl, rfl⟩ := H
 go_enter Try.func7, Try.ntmps7
 go_wp2_with (first | ((with_reducible refine gate_dst (N := 4) rfl ?_); refine qX (N := 4) (cs := #[.int .i64 0, .int .i64 0]) (t := 24) ?_; intro gb101 hg w3 hbox hb; refine up4 (bH hb) (am hbox) (bW hg) (bW hg) ?_; clear HB hb hbox hg; intro HB BK101 GW101 GE101; have hcz4 := blkC2 BK101.out))
 refine bodyPost_ret (results_cell_row rfl _ _ gb101 24 #[.int .i64 a0, .int .i64 a1] (0, 0) _ rfl (by (with_reducible repeat (first | refine blk_drewN ?_ _ | refine blk_drew ?_ | refine blk_alloc ?_ _)); refine blk_put (cs := #[.int .i64 a0, .int .i64 0]) ?_ 1 _ rfl; (with_reducible repeat (first | refine blk_drewN ?_ _ | refine blk_drew ?_ | refine blk_alloc ?_ _)); refine blk_put (cs := #[.int .i64 0, .int .i64 0]) ?_ 0 _ rfl; exact qK BK101) Try.underlying24 rfl (by kernel_rfl)) rfl ?_
 exact ⟨qE, qB⟩

/-! ### ref_In: function 13 -/
def ref_In.f (a0 : Int) (a1 : Int) (a2 : Int) : Option (Bool) := if a0 ≥ a1 then (some (decide (a0 ≤ a2))) else (some false)
set_option maxHeartbeats 8000000 in
set_option maxRecDepth 100000 in
theorem ref_In.calls (a0 : Int) (a1 : Int) (a2 : Int) (r : Bool) (w : World) (h : ref_In.f a0 a1 a2 = some r) :
  Calls Try.prog 13 #[.int .i64 a0, .int .i64 a1, .int .i64 a2] w fun e w' => e = .returned (.bool r) ∧ Drawn0 w w' := by
 have H : (if a0 ≥ a1 then (some (decide (a0 ≤ a2))) else (some false)) = some r := h
 clear h
 by_cases c4 : a0 ≥ a1
 ·rw [if_pos c4] at H
  have c4b0 : decide (a1 ≤ a0) = true := decide_eq_true c4
  clear c4
  obtain rfl := Option.some.inj H
  go_enter Try.func13, Try.ntmps13
  go_wp2
  go_ret
  exact ⟨qF, by repeat (first | exact Drawn0.refl _ | apply Drawn0.step)⟩
 ·rw [if_neg c4] at H
  have c4b0 : decide (a1 ≤ a0) = false := decide_eq_false c4
  clear c4
  obtain rfl := Option.some.inj H
  go_enter Try.func13, Try.ntmps13
  go_wp2
  go_ret
  exact ⟨qF, by repeat (first | exact Drawn0.refl _ | apply Drawn0.step)⟩

/-! ### ref_NameOk: function 18 -/
def ref_NameOk.l0 : Nat → ByteArray → Int → Option (Bool)
 | 0, _, _ => none
 | k + 1, x0, x3 => if x3 < (x0.size : Int) then (if 0 ≤ x3 then ((ref_In.f (wrap64 (bt x0 x3)) 97 122).bind fun t103 => (if t103 = true then (ref_NameOk.l0 k x0 (wrap64 (x3 + 1))) else ((ref_In.f (wrap64 (bt x0 x3)) 65 90).bind fun t104 => (if t104 = true then (ref_NameOk.l0 k x0 (wrap64 (x3 + 1))) else (if (wrap64 (bt x0 x3)) = 46 then (ref_NameOk.l0 k x0 (wrap64 (x3 + 1))) else (if (wrap64 (bt x0 x3)) = 95 then (ref_NameOk.l0 k x0 (wrap64 (x3 + 1))) else (if ((wrap64 (bt x0 x3)) = 36) then (ref_NameOk.l0 k x0 (wrap64 (x3 + 1))) else (if x3 > 0 then ((ref_In.f (wrap64 (bt x0 x3)) 48 57).bind fun t105 => (if t105 = true then (ref_NameOk.l0 k x0 (wrap64 (x3 + 1))) else (some false))) else (some false))))))))) else (none)) else ((ref_In.f (x0.size : Int) 1 16).bind fun t102 => (some t102))
def ref_NameOk.f (k : Nat) (a0 : ByteArray) : Option (Bool) := ref_NameOk.l0 k a0 0
theorem ref_NameOk.mono_l : ∀ k, (∀ y0 y1, LeO (ref_NameOk.l0 k y0 y1) (ref_NameOk.l0 (k + 1) y0 y1))
 | 0 => fun _ _ r h => by simp [ref_NameOk.l0] at h
 | k + 1 => by
  have ih0 := ref_NameOk.mono_l k
  ·intro y0 y1
   unfold ref_NameOk.l0
   repeat' first
   | (with_reducible exact ih0 _ _)
   | (with_reducible exact LeO.refl _)
   | (with_reducible exact LeO.none _)
   | (with_reducible refine LeO.ite ?_ ?_)
   | (with_reducible refine LeO.bind ?_ (fun _ => ?_))
   | exact ih0 _ _
   | exact LeO.none _
   | refine LeO.ite ?_ ?_
   | refine LeO.bind ?_ (fun _ => ?_)
theorem ref_NameOk.mono : ∀ a0 k, LeO (ref_NameOk.f k a0) (ref_NameOk.f (k + 1) a0) := by
 intro a0 k
 have ih0 := ref_NameOk.mono_l k
 unfold ref_NameOk.f
 repeat' first
   | (with_reducible exact ih0 _ _)
   | (with_reducible exact LeO.refl _)
   | (with_reducible exact LeO.none _)
   | (with_reducible refine LeO.ite ?_ ?_)
   | (with_reducible refine LeO.bind ?_ (fun _ => ?_))
   | exact ih0 _ _
   | exact LeO.none _
   | refine LeO.ite ?_ ?_
   | refine LeO.bind ?_ (fun _ => ?_)
set_option maxHeartbeats 8000000 in
set_option maxRecDepth 100000 in
theorem ref_NameOk.calls (k : Nat) (a0 : ByteArray) (r : Bool) (w : World) (h : ref_NameOk.f k a0 = some r) :
  Calls Try.prog 18 #[.string a0] w fun e w' => e = .returned (.bool r) ∧ Drawn0 w w' := by
 have H : (ref_NameOk.l0 k a0 0) = some r := h
 clear h
 have H' := Aside0.mk H
 clear H
 go_enter Try.func18, Try.ntmps18
 go_wp2
 go_loopg [3] k (fun kq v3 w' => ∃ (x3_1 : Int), v3 = .int .i64 x3_1 ∧ Aside0 (ref_NameOk.l0 kq a0 x3_1 = some r) ∧ Aside0 (kq ≤ k) ∧ Drawn0 w w')
 case atStart => exact ⟨(0), qF, H', ⟨Nat.le_refl _⟩, by repeat (first | exact Drawn0.refl _ | apply Drawn0.step)⟩
 case round =>
  clear H'
  try clear c1
  obtain ⟨x3_1, rfl, HA, HK1, ⟨m1, rfl⟩⟩ := hrel
  cases gk with
  | zero => exact absurd HA.out (by simp [ref_NameOk.l0])
  | succ k1 =>
   have H := HA.out
   clear HA
   simp only [ref_NameOk.l0] at H
   by_cases c2 : x3_1 < (a0.size : Int)
   ·rw [if_pos c2] at H
    have c2b0 : decide (x3_1 < (a0.size : Int)) = true := decide_eq_true c2
    clear c2
    by_cases c3 : 0 ≤ x3_1
    ·rw [if_pos c3] at H
     have c3b0 : decide (0 ≤ x3_1) = true := decide_eq_true c3
     clear c3
     replace H := Option.bind_eq_some_iff.mp H
     obtain ⟨t103, A50, H⟩ := H
     replace H : (if t103 = true then (ref_NameOk.l0 k1 a0 (wrap64 (x3_1 + 1))) else ((ref_In.f (wrap64 (bt a0 x3_1)) 65 90).bind fun t104 => (if t104 = true then (ref_NameOk.l0 k1 a0 (wrap64 (x3_1 + 1))) else (if (wrap64 (bt a0 x3_1)) = 46 then (ref_NameOk.l0 k1 a0 (wrap64 (x3_1 + 1))) else (if (wrap64 (bt a0 x3_1)) = 95 then (ref_NameOk.l0 k1 a0 (wrap64 (x3_1 + 1))) else (if ((wrap64 (bt a0 x3_1)) = 36) then (ref_NameOk.l0 k1 a0 (wrap64 (x3_1 + 1))) else (if x3_1 > 0 then ((ref_In.f (wrap64 (bt a0 x3_1)) 48 57).bind fun t105 => (if t105 = true then (ref_NameOk.l0 k1 a0 (wrap64 (x3_1 + 1))) else (some false))) else (some false)))))))) = some r := H
     have A5 := Aside0.mk A50
     clear A50
     by_cases c6 : t103 = true
     ·subst c6
      have H1 : (ref_NameOk.l0 k1 a0 (wrap64 (x3_1 + 1))) = some r := by rw [if_pos rfl] at H; exact H
      clear H
      have H := H1
      clear H1
      have H' := Aside0.mk H
      clear H
      have p4 : 0 ≤ (x3_1 : Int) := of_decide_eq_true qO
      have q4 : x3_1 < (a0.size : Int) := of_decide_eq_true qO
      have hx4 := bt_at a0 x3_1
      replace p4 := eq_true p4
      replace q4 := eq_true q4
      go_wp2_with (first | ((with_reducible refine gate_callee (f := 13) rfl ?_); refine goesL_ (some 17) rfl rfl Try.func13 (by kernel_rfl) rfl #[.int .i64 (wrap64 (bt a0 x3_1)), .int .i64 97, .int .i64 122] rfl qA ?_; (with_reducible refine (ref_In.calls (wrap64 (bt a0 x3_1)) 97 122 true _ A5.out).mono ?_); rintro e w' ⟨rfl, ⟨nd, rfl⟩⟩; refine ⟨_, rfl, ?_⟩))
      go_roundg k1
      case measure => have := HK1.out; omega
      case rel => exact ⟨(wrap64 (x3_1 + 1)), qF, H', ⟨by have := HK1.out; omega⟩, by repeat (first | exact Drawn0.refl _ | apply Drawn0.step)⟩
     ·replace c6 := Bool.eq_false_iff.mpr c6
      subst c6
      have H1 : ((ref_In.f (wrap64 (bt a0 x3_1)) 65 90).bind fun t104 => (if t104 = true then (ref_NameOk.l0 k1 a0 (wrap64 (x3_1 + 1))) else (if (wrap64 (bt a0 x3_1)) = 46 then (ref_NameOk.l0 k1 a0 (wrap64 (x3_1 + 1))) else (if (wrap64 (bt a0 x3_1)) = 95 then (ref_NameOk.l0 k1 a0 (wrap64 (x3_1 + 1))) else (if ((wrap64 (bt a0 x3_1)) = 36) then (ref_NameOk.l0 k1 a0 (wrap64 (x3_1 + 1))) else (if x3_1 > 0 then ((ref_In.f (wrap64 (bt a0 x3_1)) 48 57).bind fun t105 => (if t105 = true then (ref_NameOk.l0 k1 a0 (wrap64 (x3_1 + 1))) else (some false))) else (some false))))))) = some r := by rw [if_neg (show ¬ (false = true) by decide)] at H; exact H
      clear H
      have H := H1
      clear H1
      replace H := Option.bind_eq_some_iff.mp H
      obtain ⟨t104, A70, H⟩ := H
      replace H : (if t104 = true then (ref_NameOk.l0 k1 a0 (wrap64 (x3_1 + 1))) else (if (wrap64 (bt a0 x3_1)) = 46 then (ref_NameOk.l0 k1 a0 (wrap64 (x3_1 + 1))) else (if (wrap64 (bt a0 x3_1)) = 95 then (ref_NameOk.l0 k1 a0 (wrap64 (x3_1 + 1))) else (if ((wrap64 (bt a0 x3_1)) = 36) then (ref_NameOk.l0 k1 a0 (wrap64 (x3_1 + 1))) else (if x3_1 > 0 then ((ref_In.f (wrap64 (bt a0 x3_1)) 48 57).bind fun t105 => (if t105 = true then (ref_NameOk.l0 k1 a0 (wrap64 (x3_1 + 1))) else (some false))) else (some false)))))) = some r := H
      have A7 := Aside0.mk A70
      clear A70
      by_cases c8 : t104 = true
      ·subst c8
       have H1 : (ref_NameOk.l0 k1 a0 (wrap64 (x3_1 + 1))) = some r := by rw [if_pos rfl] at H; exact H
       clear H
       have H := H1
       clear H1
       have H' := Aside0.mk H
       clear H
       have p4 : 0 ≤ (x3_1 : Int) := of_decide_eq_true qO
       have q4 : x3_1 < (a0.size : Int) := of_decide_eq_true qO
       have hx4 := bt_at a0 x3_1
       replace p4 := eq_true p4
       replace q4 := eq_true q4
       go_wp2_with (first | ((with_reducible refine gate_callee (f := 13) rfl ?_); refine goesL_ (some 17) rfl rfl Try.func13 (by kernel_rfl) rfl #[.int .i64 (wrap64 (bt a0 x3_1)), .int .i64 97, .int .i64 122] rfl qA ?_; (with_reducible refine (ref_In.calls (wrap64 (bt a0 x3_1)) 97 122 false _ A5.out).mono ?_); rintro e w' ⟨rfl, ⟨nd, rfl⟩⟩; refine ⟨_, rfl, ?_⟩) | (go_at_call 13; (with_reducible refine (ref_In.calls (wrap64 (bt a0 x3_1)) 65 90 true _ A7.out).mono ?_); rintro e w' ⟨rfl, ⟨nd, rfl⟩⟩))
       go_roundg k1
       case measure => have := HK1.out; omega
       case rel => exact ⟨(wrap64 (x3_1 + 1)), qF, H', ⟨by have := HK1.out; omega⟩, by repeat (first | exact Drawn0.refl _ | apply Drawn0.step)⟩
      ·replace c8 := Bool.eq_false_iff.mpr c8
       subst c8
       have H1 : (if (wrap64 (bt a0 x3_1)) = 46 then (ref_NameOk.l0 k1 a0 (wrap64 (x3_1 + 1))) else (if (wrap64 (bt a0 x3_1)) = 95 then (ref_NameOk.l0 k1 a0 (wrap64 (x3_1 + 1))) else (if ((wrap64 (bt a0 x3_1)) = 36) then (ref_NameOk.l0 k1 a0 (wrap64 (x3_1 + 1))) else (if x3_1 > 0 then ((ref_In.f (wrap64 (bt a0 x3_1)) 48 57).bind fun t105 => (if t105 = true then (ref_NameOk.l0 k1 a0 (wrap64 (x3_1 + 1))) else (some false))) else (some false))))) = some r := by rw [if_neg (show ¬ (false = true) by decide)] at H; exact H
       clear H
       have H := H1
       clear H1
       by_cases c9 : (wrap64 (bt a0 x3_1)) = 46
       ·rw [if_pos c9] at H
        have c9b0 : ((wrap64 (bt a0 x3_1)) == 46) = true := beq_iff_eq.mpr c9
        have c9b1 : ((wrap64 (bt a0 x3_1)) != 46) = false := bne_eq_false_iff_eq.mpr c9
        clear c9
        have H' := Aside0.mk H
        clear H
        have p4 : 0 ≤ (x3_1 : Int) := of_decide_eq_true qO
        have q4 : x3_1 < (a0.size : Int) := of_decide_eq_true qO
        have hx4 := bt_at a0 x3_1
        replace p4 := eq_true p4
        replace q4 := eq_true q4
        go_wp2_with (first | ((with_reducible refine gate_callee (f := 13) rfl ?_); refine goesL_ (some 17) rfl rfl Try.func13 (by kernel_rfl) rfl #[.int .i64 (wrap64 (bt a0 x3_1)), .int .i64 97, .int .i64 122] rfl qA ?_; (with_reducible refine (ref_In.calls (wrap64 (bt a0 x3_1)) 97 122 false _ A5.out).mono ?_); rintro e w' ⟨rfl, ⟨nd, rfl⟩⟩; refine ⟨_, rfl, ?_⟩) | (go_at_call 13; (with_reducible refine (ref_In.calls (wrap64 (bt a0 x3_1)) 65 90 false _ A7.out).mono ?_); rintro e w' ⟨rfl, ⟨nd, rfl⟩⟩))
        go_roundg k1
        case measure => have := HK1.out; omega
        case rel => exact ⟨(wrap64 (x3_1 + 1)), qF, H', ⟨by have := HK1.out; omega⟩, by repeat (first | exact Drawn0.refl _ | apply Drawn0.step)⟩
       ·rw [if_neg c9] at H
        have c9b0 : ((wrap64 (bt a0 x3_1)) == 46) = false := beq_eq_false_iff_ne.mpr c9
        have c9b1 : ((wrap64 (bt a0 x3_1)) != 46) = true := bne_iff_ne.mpr c9
        by_cases c10 : (wrap64 (bt a0 x3_1)) = 95
        ·rw [if_pos c10] at H
         have c10b0 : ((wrap64 (bt a0 x3_1)) == 95) = true := beq_iff_eq.mpr c10
         have c10b1 : ((wrap64 (bt a0 x3_1)) != 95) = false := bne_eq_false_iff_eq.mpr c10
         clear c10
         have H' := Aside0.mk H
         clear H
         have p4 : 0 ≤ (x3_1 : Int) := of_decide_eq_true qO
         have q4 : x3_1 < (a0.size : Int) := of_decide_eq_true qO
         have hx4 := bt_at a0 x3_1
         replace p4 := eq_true p4
         replace q4 := eq_true q4
         go_wp2_with (first | ((with_reducible refine gate_callee (f := 13) rfl ?_); refine goesL_ (some 17) rfl rfl Try.func13 (by kernel_rfl) rfl #[.int .i64 (wrap64 (bt a0 x3_1)), .int .i64 97, .int .i64 122] rfl qA ?_; (with_reducible refine (ref_In.calls (wrap64 (bt a0 x3_1)) 97 122 false _ A5.out).mono ?_); rintro e w' ⟨rfl, ⟨nd, rfl⟩⟩; refine ⟨_, rfl, ?_⟩) | (go_at_call 13; (with_reducible refine (ref_In.calls (wrap64 (bt a0 x3_1)) 65 90 false _ A7.out).mono ?_); rintro e w' ⟨rfl, ⟨nd, rfl⟩⟩))
         go_roundg k1
         case measure => have := HK1.out; omega
         case rel => exact ⟨(wrap64 (x3_1 + 1)), qF, H', ⟨by have := HK1.out; omega⟩, by repeat (first | exact Drawn0.refl _ | apply Drawn0.step)⟩
        ·rw [if_neg c10] at H
         have c10b0 : ((wrap64 (bt a0 x3_1)) == 95) = false := beq_eq_false_iff_ne.mpr c10
         have c10b1 : ((wrap64 (bt a0 x3_1)) != 95) = true := bne_iff_ne.mpr c10
         by_cases c11 : ((wrap64 (bt a0 x3_1)) = 36)
         ·rw [if_pos c11] at H
          have c11b0 : ((wrap64 (bt a0 x3_1)) == 36) = true := beq_iff_eq.mpr c11
          have c11b1 : ((wrap64 (bt a0 x3_1)) != 36) = false := bne_eq_false_iff_eq.mpr c11
          clear c11
          have H' := Aside0.mk H
          clear H
          have p4 : 0 ≤ (x3_1 : Int) := of_decide_eq_true qO
          have q4 : x3_1 < (a0.size : Int) := of_decide_eq_true qO
          have hx4 := bt_at a0 x3_1
          replace p4 := eq_true p4
          replace q4 := eq_true q4
          go_wp2_with (first | ((with_reducible refine gate_callee (f := 13) rfl ?_); refine goesL_ (some 17) rfl rfl Try.func13 (by kernel_rfl) rfl #[.int .i64 (wrap64 (bt a0 x3_1)), .int .i64 97, .int .i64 122] rfl qA ?_; (with_reducible refine (ref_In.calls (wrap64 (bt a0 x3_1)) 97 122 false _ A5.out).mono ?_); rintro e w' ⟨rfl, ⟨nd, rfl⟩⟩; refine ⟨_, rfl, ?_⟩) | (go_at_call 13; (with_reducible refine (ref_In.calls (wrap64 (bt a0 x3_1)) 65 90 false _ A7.out).mono ?_); rintro e w' ⟨rfl, ⟨nd, rfl⟩⟩))
          go_roundg k1
          case measure => have := HK1.out; omega
          case rel => exact ⟨(wrap64 (x3_1 + 1)), qF, H', ⟨by have := HK1.out; omega⟩, by repeat (first | exact Drawn0.refl _ | apply Drawn0.step)⟩
         ·rw [if_neg c11] at H
          have c11b0 : ((wrap64 (bt a0 x3_1)) == 36) = false := beq_eq_false_iff_ne.mpr c11
          have c11b1 : ((wrap64 (bt a0 x3_1)) != 36) = true := bne_iff_ne.mpr c11
          by_cases c12 : x3_1 > 0
          ·rw [if_pos c12] at H
           have c12b0 : decide (0 < x3_1) = true := decide_eq_true c12
           clear c12
           replace H := Option.bind_eq_some_iff.mp H
           obtain ⟨t105, A130, H⟩ := H
           replace H : (if t105 = true then (ref_NameOk.l0 k1 a0 (wrap64 (x3_1 + 1))) else (some false)) = some r := H
           have A13 := Aside0.mk A130
           clear A130
           by_cases c14 : t105 = true
           ·subst c14
            have H1 : (ref_NameOk.l0 k1 a0 (wrap64 (x3_1 + 1))) = some r := by rw [if_pos rfl] at H; exact H
            clear H
            have H := H1
            clear H1
            have H' := Aside0.mk H
            clear H
            have p4 : 0 ≤ (x3_1 : Int) := of_decide_eq_true qO
            have q4 : x3_1 < (a0.size : Int) := of_decide_eq_true qO
            have hx4 := bt_at a0 x3_1
            replace p4 := eq_true p4
            replace q4 := eq_true q4
            go_wp2_with (first | ((with_reducible refine gate_callee (f := 13) rfl ?_); refine goesL_ (some 17) rfl rfl Try.func13 (by kernel_rfl) rfl #[.int .i64 (wrap64 (bt a0 x3_1)), .int .i64 97, .int .i64 122] rfl qA ?_; (with_reducible refine (ref_In.calls (wrap64 (bt a0 x3_1)) 97 122 false _ A5.out).mono ?_); rintro e w' ⟨rfl, ⟨nd, rfl⟩⟩; refine ⟨_, rfl, ?_⟩) | (go_at_call 13; (with_reducible refine (ref_In.calls (wrap64 (bt a0 x3_1)) 65 90 false _ A7.out).mono ?_); rintro e w' ⟨rfl, ⟨nd, rfl⟩⟩) | (go_at_call 13; (with_reducible refine (ref_In.calls (wrap64 (bt a0 x3_1)) 48 57 true _ A13.out).mono ?_); rintro e w' ⟨rfl, ⟨nd, rfl⟩⟩))
            go_roundg k1
            case measure => have := HK1.out; omega
            case rel => exact ⟨(wrap64 (x3_1 + 1)), qF, H', ⟨by have := HK1.out; omega⟩, by repeat (first | exact Drawn0.refl _ | apply Drawn0.step)⟩
           ·replace c14 := Bool.eq_false_iff.mpr c14
            subst c14
            have H1 : (some false) = some r := by rw [if_neg (show ¬ (false = true) by decide)] at H; exact H
            clear H
            have H := H1
            clear H1
            obtain rfl := Option.some.inj H
            have p4 : 0 ≤ (x3_1 : Int) := of_decide_eq_true qO
            have q4 : x3_1 < (a0.size : Int) := of_decide_eq_true qO
            have hx4 := bt_at a0 x3_1
            replace p4 := eq_true p4
            replace q4 := eq_true q4
            go_wp2_with (first | ((with_reducible refine gate_callee (f := 13) rfl ?_); refine goesL_ (some 17) rfl rfl Try.func13 (by kernel_rfl) rfl #[.int .i64 (wrap64 (bt a0 x3_1)), .int .i64 97, .int .i64 122] rfl qA ?_; (with_reducible refine (ref_In.calls (wrap64 (bt a0 x3_1)) 97 122 false _ A5.out).mono ?_); rintro e w' ⟨rfl, ⟨nd, rfl⟩⟩; refine ⟨_, rfl, ?_⟩) | (go_at_call 13; (with_reducible refine (ref_In.calls (wrap64 (bt a0 x3_1)) 65 90 false _ A7.out).mono ?_); rintro e w' ⟨rfl, ⟨nd, rfl⟩⟩) | (go_at_call 13; (with_reducible refine (ref_In.calls (wrap64 (bt a0 x3_1)) 48 57 false _ A13.out).mono ?_); rintro e w' ⟨rfl, ⟨nd, rfl⟩⟩))
            go_ret
            exact ⟨qF, by repeat (first | exact Drawn0.refl _ | apply Drawn0.step)⟩
          ·rw [if_neg c12] at H
           have c12b0 : decide (0 < x3_1) = false := decide_eq_false c12
           clear c12
           obtain rfl := Option.some.inj H
           have p4 : 0 ≤ (x3_1 : Int) := of_decide_eq_true qO
           have q4 : x3_1 < (a0.size : Int) := of_decide_eq_true qO
           have hx4 := bt_at a0 x3_1
           replace p4 := eq_true p4
           replace q4 := eq_true q4
           go_wp2_with (first | ((with_reducible refine gate_callee (f := 13) rfl ?_); refine goesL_ (some 17) rfl rfl Try.func13 (by kernel_rfl) rfl #[.int .i64 (wrap64 (bt a0 x3_1)), .int .i64 97, .int .i64 122] rfl qA ?_; (with_reducible refine (ref_In.calls (wrap64 (bt a0 x3_1)) 97 122 false _ A5.out).mono ?_); rintro e w' ⟨rfl, ⟨nd, rfl⟩⟩; refine ⟨_, rfl, ?_⟩) | (go_at_call 13; (with_reducible refine (ref_In.calls (wrap64 (bt a0 x3_1)) 65 90 false _ A7.out).mono ?_); rintro e w' ⟨rfl, ⟨nd, rfl⟩⟩))
           go_ret
           exact ⟨qF, by repeat (first | exact Drawn0.refl _ | apply Drawn0.step)⟩
    ·rw [if_neg c3] at H
     exact absurd H (by simp)
   ·rw [if_neg c2] at H
    have c2b0 : decide (x3_1 < (a0.size : Int)) = false := decide_eq_false c2
    clear c2
    replace H := Option.bind_eq_some_iff.mp H
    obtain ⟨t102, A150, H⟩ := H
    replace H : (some t102) = some r := H
    have A15 := Aside0.mk A150
    clear A150
    obtain rfl := Option.some.inj H
    go_wp2_with (first | ((with_reducible refine gate_callee (f := 13) rfl ?_); refine goesL_ (some 47) rfl rfl Try.func13 (by kernel_rfl) rfl #[.int .i64 (a0.size : Int), .int .i64 1, .int .i64 16] rfl qA ?_; (with_reducible refine (ref_In.calls (a0.size : Int) 1 16 t102 _ A15.out).mono ?_); rintro e w' ⟨rfl, ⟨nd, rfl⟩⟩; refine ⟨_, rfl, ?_⟩))
    go_ret
    exact ⟨qF, by repeat (first | exact Drawn0.refl _ | apply Drawn0.step)⟩

/-! ### ref_NamesOk: function 8 -/
def ref_NamesOk.l0 : Nat → List ByteArray → Int → Option (Bool)
 | 0, _, _ => none
 | k + 1, x0, x3 => if x3 < (x0.length : Int) then (if 0 ≤ x3 then ((ref_NameOk.f k (rdOf ByteArray.empty x0 x3)).bind fun t107 => (if t107 = true then (ref_NamesOk.l0 k x0 (wrap64 (x3 + 1))) else (some false))) else (none)) else (some true)
def ref_NamesOk.f (k : Nat) (l0 : List ByteArray) : Option (Bool) := ref_NamesOk.l0 k l0 0
theorem ref_NamesOk.mono_l : ∀ k, (∀ y0 y1, LeO (ref_NamesOk.l0 k y0 y1) (ref_NamesOk.l0 (k + 1) y0 y1))
 | 0 => fun _ _ r h => by simp [ref_NamesOk.l0] at h
 | k + 1 => by
  have ih0 := ref_NamesOk.mono_l k
  ·intro y0 y1
   unfold ref_NamesOk.l0
   repeat' first
   | (with_reducible exact ih0 _ _)
   | (with_reducible exact ref_NameOk.mono _ _)
   | (with_reducible exact LeO.refl _)
   | (with_reducible exact LeO.none _)
   | (with_reducible refine LeO.ite ?_ ?_)
   | (with_reducible refine LeO.bind ?_ (fun _ => ?_))
   | exact ih0 _ _
   | exact ref_NameOk.mono _ _
   | exact LeO.none _
   | refine LeO.ite ?_ ?_
   | refine LeO.bind ?_ (fun _ => ?_)
theorem ref_NamesOk.mono : ∀ a0 k, LeO (ref_NamesOk.f k a0) (ref_NamesOk.f (k + 1) a0) := by
 intro a0 k
 have ih0 := ref_NamesOk.mono_l k
 unfold ref_NamesOk.f
 repeat' first
   | (with_reducible exact ih0 _ _)
   | (with_reducible exact ref_NameOk.mono _ _)
   | (with_reducible exact LeO.refl _)
   | (with_reducible exact LeO.none _)
   | (with_reducible refine LeO.ite ?_ ?_)
   | (with_reducible refine LeO.bind ?_ (fun _ => ?_))
   | exact ih0 _ _
   | exact ref_NameOk.mono _ _
   | exact LeO.none _
   | refine LeO.ite ?_ ?_
   | refine LeO.bind ?_ (fun _ => ?_)
set_option maxHeartbeats 8000000 in
set_option maxRecDepth 100000 in
theorem ref_NamesOk.calls (k : Nat) (A0 : Option Addr) (c0 : Nat) (l0 : List ByteArray) (r : Bool) (w : World) (hr0 : Kd.C Kd.string w A0 l0.length l0) (hc0 : l0.length ≤ c0) (h : ref_NamesOk.f k l0 = some r) :
  Calls Try.prog 8 #[.slice A0 l0.length c0] w fun e w' => e = .returned (.bool r) ∧ Drawn0 w w' := by
 have HR0 := Aside0.mk hr0
 have HC0 := Aside0.mk hc0
 clear hr0 hc0
 have H : (ref_NamesOk.l0 k l0 0) = some r := h
 clear h
 have H' := Aside0.mk H
 clear H
 go_enter Try.func8, Try.ntmps8
 go_wp2
 go_loopg [3] k (fun kq v3 w' => ∃ (x3_1 : Int), v3 = .int .i64 x3_1 ∧ Aside0 (ref_NamesOk.l0 kq l0 x3_1 = some r) ∧ Aside0 (kq ≤ k) ∧ Drawn0 w w')
 case atStart => exact ⟨(0), qF, H', ⟨Nat.le_refl _⟩, by repeat (first | exact Drawn0.refl _ | apply Drawn0.step)⟩
 case round =>
  clear H'
  obtain ⟨x3_1, rfl, HA, HK1, ⟨m1, rfl⟩⟩ := hrel
  cases gk with
  | zero => exact absurd HA.out (by simp [ref_NamesOk.l0])
  | succ k1 =>
   have H := HA.out
   clear HA
   simp only [ref_NamesOk.l0] at H
   by_cases c2 : x3_1 < (l0.length : Int)
   ·rw [if_pos c2] at H
    have c2b0 : decide (x3_1 < (l0.length : Int)) = true := decide_eq_true c2
    clear c2
    by_cases c3 : 0 ≤ x3_1
    ·rw [if_pos c3] at H
     have c3b0 : decide (0 ≤ x3_1) = true := decide_eq_true c3
     clear c3
     replace H := Option.bind_eq_some_iff.mp H
     obtain ⟨t107, A40, H⟩ := H
     replace H : (if t107 = true then (ref_NamesOk.l0 k1 l0 (wrap64 (x3_1 + 1))) else (some false)) = some r := H
     have A4 := Aside0.mk A40
     clear A40
     by_cases c5 : t107 = true
     ·subst c5
      have H1 : (ref_NamesOk.l0 k1 l0 (wrap64 (x3_1 + 1))) = some r := by rw [if_pos rfl] at H; exact H
      clear H
      have H := H1
      clear H1
      have H' := Aside0.mk H
      clear H
      have p106 : 0 ≤ (x3_1 : Int) := of_decide_eq_true qO
      have q106 : x3_1 < (l0.length : Int) := of_decide_eq_true qO
      obtain ⟨ad106, e106, hx106_0⟩ := Kd.at_string HR0.out x3_1 p106 q106
      cases e106
      replace p106 := eq_true p106
      replace q106 := eq_true q106
      go_wp2_with (first | ((with_reducible refine gate_callee (f := 18) rfl ?_); refine goesL_ (some 14) rfl rfl Try.func18 (by kernel_rfl) rfl #[.string (rdOf ByteArray.empty l0 x3_1)] rfl qA ?_; (with_reducible refine (ref_NameOk.calls k1 (rdOf ByteArray.empty l0 x3_1) true _ A4.out).mono ?_); rintro e w' ⟨rfl, ⟨nd, rfl⟩⟩; refine ⟨_, rfl, ?_⟩))
      go_roundg k1
      case measure => have := HK1.out; omega
      case rel => exact ⟨(wrap64 (x3_1 + 1)), qF, H', ⟨by have := HK1.out; omega⟩, by repeat (first | exact Drawn0.refl _ | apply Drawn0.step)⟩
     ·replace c5 := Bool.eq_false_iff.mpr c5
      subst c5
      have H1 : (some false) = some r := by rw [if_neg (show ¬ (false = true) by decide)] at H; exact H
      clear H
      have H := H1
      clear H1
      obtain rfl := Option.some.inj H
      have p106 : 0 ≤ (x3_1 : Int) := of_decide_eq_true qO
      have q106 : x3_1 < (l0.length : Int) := of_decide_eq_true qO
      obtain ⟨ad106, e106, hx106_0⟩ := Kd.at_string HR0.out x3_1 p106 q106
      cases e106
      replace p106 := eq_true p106
      replace q106 := eq_true q106
      go_wp2_with (first | ((with_reducible refine gate_callee (f := 18) rfl ?_); refine goesL_ (some 14) rfl rfl Try.func18 (by kernel_rfl) rfl #[.string (rdOf ByteArray.empty l0 x3_1)] rfl qA ?_; (with_reducible refine (ref_NameOk.calls k1 (rdOf ByteArray.empty l0 x3_1) false _ A4.out).mono ?_); rintro e w' ⟨rfl, ⟨nd, rfl⟩⟩; refine ⟨_, rfl, ?_⟩))
      go_ret
      exact ⟨qF, by repeat (first | exact Drawn0.refl _ | apply Drawn0.step)⟩
    ·rw [if_neg c3] at H
     exact absurd H (by simp)
   ·rw [if_neg c2] at H
    have c2b0 : decide (x3_1 < (l0.length : Int)) = false := decide_eq_false c2
    clear c2
    obtain rfl := Option.some.inj H
    go_wp2
    go_ret
    exact ⟨qF, by repeat (first | exact Drawn0.refl _ | apply Drawn0.step)⟩

end Go.Proofs.Ytoegghjhepkfkaa.PArr
