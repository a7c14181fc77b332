/- Written by a program of this session, for the law(s) Place: contracts of the Go functions that the law reaches, each against a plain Lean function. No condition. -/
import Derived.Test.YtnbeamaoblmbhaaPPlacex0
namespace Go.Proofs.Ytnbeamaoblmbhaa.PPlace
open Go.RowKit Go.Proofs.YtnbeamaoblmbhaaW.PrintWords Go.Proofs.YtnbeamaoblmbhaaW.PrintLast Go.Proofs.YtnbeamaoblmbhaaW.PrintMore
attribute [local go_sem] max2_int min2_int max_two min_two max_three min_three max_four min_four   -- for this text's walks alone
set_option linter.unusedVariables false
set_option linter.unusedSimpArgs false

/-! ### ref_In: function 13 -/
def ref_In.f (a0 : Int) (a1 : Int) (a2 : Int) : Option (Bool) := if a0 ≥ a1 then (some (decide (a0 ≤ a2))) else (some false)
set_option maxHeartbeats 8000000 in
set_option maxRecDepth 100000 in
theorem ref_In.calls (a0 : Int) (a1 : Int) (a2 : Int) (r : Bool) (w : World) (h : ref_In.f a0 a1 a2 = some r) :
  Calls Try.prog 13 #[.int .i64 a0, .int .i64 a1, .int .i64 a2] w fun e w' => e = .returned (.bool r) ∧ Drawn0 w w' := by
 have H : (if a0 ≥ a1 then (some (decide (a0 ≤ a2))) else (some false)) = some r := h
 clear h
 by_cases c4 : a0 ≥ a1
 ·rw [if_pos c4] at H
  have c4b0 : decide (a1 ≤ a0) = true := decide_eq_true c4
  clear c4
  obtain rfl := Option.some.inj H
  go_enter Try.func13, Try.ntmps13
  go_wp2
  go_ret
  exact ⟨qF, by repeat (first | exact Drawn0.refl _ | apply Drawn0.step)⟩
 ·rw [if_neg c4] at H
  have c4b0 : decide (a1 ≤ a0) = false := decide_eq_false c4
  clear c4
  obtain rfl := Option.some.inj H
  go_enter Try.func13, Try.ntmps13
  go_wp2
  go_ret
  exact ⟨qF, by repeat (first | exact Drawn0.refl _ | apply Drawn0.step)⟩

/-! ### ref_At: function 14 -/
def ref_At.f (a0 : Int) (a1 : Int) : Option (Int × Int) := some (a0, a1)
set_option maxHeartbeats 8000000 in
set_option maxRecDepth 100000 in
theorem ref_At.calls (a0 : Int) (a1 : Int) (r1 : Int) (r2 : Int) (w : World) (h : ref_At.f a0 a1 = some (r1, r2)) :
  Calls Try.prog 14 #[.int .i64 a0, .int .i64 a1] w fun e w' => e = .returned (.agg #[.int .i64 r1, .int .i64 r2]) ∧ Below w.heap.size w w' := by
 have hu26 := Try.underlying26
 have HB := Aside0.mk (Below.refl w.heap.size w)
 have H : (some (a0, a1)) = some (r1, r2) := h
 clear h
 simp only [Option.some.injEq, Prod.mk.injEq] at H
 obtain ⟨rfl, rfl⟩ := H
 go_enter Try.func14, Try.ntmps14
 go_wp2_with (first | ((with_reducible refine gate_dst (N := 4) rfl ?_); refine qX (N := 4) (cs := #[.int .i64 0, .int .i64 0]) (t := 26) ?_; intro gb101 hg w3 hbox hb; have n0_ := Aside0.mk (below_step qB hb); have n1_ := Aside0.mk (hbox); have n2_ := Aside0.mk ((qG hg : w.heap.size ≤ gb101)); have n3_ := Aside0.mk ((qG hg : w.heap.size ≤ gb101)); clear HB; have HB := n0_; have BK101 := n1_; have GW101 := n2_; have GE101 := n3_; clear n0_ n1_ n2_ n3_; clear hb hbox hg; have hcz4_0 : w3.cell? ⟨gb101, 0, none⟩ = some (.int .i64 0) := (blk_cell BK101.out 0).trans rfl; have hcz4_1 : w3.cell? ⟨gb101, 1, none⟩ = some (.int .i64 0) := (blk_cell BK101.out 1).trans rfl; have hfz4_0 := blk_frozen BK101.out 0; have hfz4_1 := blk_frozen BK101.out 1))
 refine bodyPost_ret (results_cell_row rfl _ _ gb101 26 #[.int .i64 a0, .int .i64 a1] (0, 0) _ rfl (by (with_reducible repeat (first | refine blk_drewN ?_ _ | refine blk_drew ?_ | refine blk_alloc ?_ _)); refine blk_put (cs := #[.int .i64 a0, .int .i64 0]) ?_ 1 _ rfl; (with_reducible repeat (first | refine blk_drewN ?_ _ | refine blk_drew ?_ | refine blk_alloc ?_ _)); refine blk_put (cs := #[.int .i64 0, .int .i64 0]) ?_ 0 _ rfl; exact qK BK101) Try.underlying26 rfl (by kernel_rfl)) rfl ?_
 exact ⟨qE, qB⟩

/-! ### ref_NameOk: function 34 -/
def ref_NameOk.l0 : Nat → ByteArray → Int → Option (Bool)
 | 0, _, _ => none
 | k + 1, x0, x3 => if x3 < (x0.size : Int) then (if 0 ≤ x3 then ((ref_In.f (wrap64 (bt x0 x3)) 97 122).bind fun t103 => (if t103 = true then (ref_NameOk.l0 k x0 (wrap64 (x3 + 1))) else ((ref_In.f (wrap64 (bt x0 x3)) 65 90).bind fun t104 => (if t104 = true then (ref_NameOk.l0 k x0 (wrap64 (x3 + 1))) else (if (wrap64 (bt x0 x3)) = 46 then (ref_NameOk.l0 k x0 (wrap64 (x3 + 1))) else (if (wrap64 (bt x0 x3)) = 95 then (ref_NameOk.l0 k x0 (wrap64 (x3 + 1))) else (if ((wrap64 (bt x0 x3)) = 36) then (ref_NameOk.l0 k x0 (wrap64 (x3 + 1))) else (if x3 > 0 then ((ref_In.f (wrap64 (bt x0 x3)) 48 57).bind fun t105 => (if t105 = true then (ref_NameOk.l0 k x0 (wrap64 (x3 + 1))) else (some false))) else (some false))))))))) else (none)) else ((ref_In.f (x0.size : Int) 1 16).bind fun t102 => (some t102))
def ref_NameOk.f (k : Nat) (a0 : ByteArray) : Option (Bool) := ref_NameOk.l0 k a0 0
theorem ref_NameOk.mono_l : ∀ k, (∀ y0 y1, LeO (ref_NameOk.l0 k y0 y1) (ref_NameOk.l0 (k + 1) y0 y1))
 | 0 => fun _ _ r h => by simp [ref_NameOk.l0] at h
 | k + 1 => by
  have ih0 := ref_NameOk.mono_l k
  ·intro y0 y1
   unfold ref_NameOk.l0
   repeat' first
   | (with_reducible exact ih0 _ _)
   | (with_reducible exact LeO.refl _)
   | (with_reducible exact LeO.none _)
   | (with_reducible refine LeO.ite ?_ ?_)
   | (with_reducible refine LeO.bind ?_ (fun _ => ?_))
   | exact ih0 _ _
   | exact LeO.none _
   | refine LeO.ite ?_ ?_
   | refine LeO.bind ?_ (fun _ => ?_)
theorem ref_NameOk.mono : ∀ a0 k, LeO (ref_NameOk.f k a0) (ref_NameOk.f (k + 1) a0) := by
 intro a0 k
 have ih0 := ref_NameOk.mono_l k
 unfold ref_NameOk.f
 repeat' first
   | (with_reducible exact ih0 _ _)
   | (with_reducible exact LeO.refl _)
   | (with_reducible exact LeO.none _)
   | (with_reducible refine LeO.ite ?_ ?_)
   | (with_reducible refine LeO.bind ?_ (fun _ => ?_))
   | exact ih0 _ _
   | exact LeO.none _
   | refine LeO.ite ?_ ?_
   | refine LeO.bind ?_ (fun _ => ?_)
set_option maxHeartbeats 8000000 in
set_option maxRecDepth 100000 in
theorem ref_NameOk.calls (k : Nat) (a0 : ByteArray) (r : Bool) (w : World) (h : ref_NameOk.f k a0 = some r) :
  Calls Try.prog 34 #[.string a0] w fun e w' => e = .returned (.bool r) ∧ Drawn0 w w' := by
 have H : (ref_NameOk.l0 k a0 0) = some r := h
 clear h
 have H' := Aside0.mk H
 clear H
 go_enter Try.func34, Try.ntmps34
 go_wp2
 go_loopg [3] k (fun kq v3 w' => ∃ (x3_1 : Int), v3 = .int .i64 x3_1 ∧ Aside0 (ref_NameOk.l0 kq a0 x3_1 = some r) ∧ Aside0 (kq ≤ k) ∧ Drawn0 w w')
 case atStart => exact ⟨(0), qF, H', ⟨Nat.le_refl _⟩, by repeat (first | exact Drawn0.refl _ | apply Drawn0.step)⟩
 case round =>
  clear H'
  obtain ⟨x3_1, rfl, HA, HK1, ⟨m1, rfl⟩⟩ := hrel
  cases gk with
  | zero => exact absurd HA.out (by simp [ref_NameOk.l0])
  | succ k1 =>
   have H := HA.out
   clear HA
   simp only [ref_NameOk.l0] at H
   by_cases c2 : x3_1 < (a0.size : Int)
   ·rw [if_pos c2] at H
    have c2b0 : decide (x3_1 < (a0.size : Int)) = true := decide_eq_true c2
    clear c2
    by_cases c3 : 0 ≤ x3_1
    ·rw [if_pos c3] at H
     have c3b0 : decide (0 ≤ x3_1) = true := decide_eq_true c3
     clear c3
     replace H := Option.bind_eq_some_iff.mp H
     obtain ⟨t103, A50, H⟩ := H
     replace H : (if t103 = true then (ref_NameOk.l0 k1 a0 (wrap64 (x3_1 + 1))) else ((ref_In.f (wrap64 (bt a0 x3_1)) 65 90).bind fun t104 => (if t104 = true then (ref_NameOk.l0 k1 a0 (wrap64 (x3_1 + 1))) else (if (wrap64 (bt a0 x3_1)) = 46 then (ref_NameOk.l0 k1 a0 (wrap64 (x3_1 + 1))) else (if (wrap64 (bt a0 x3_1)) = 95 then (ref_NameOk.l0 k1 a0 (wrap64 (x3_1 + 1))) else (if ((wrap64 (bt a0 x3_1)) = 36) then (ref_NameOk.l0 k1 a0 (wrap64 (x3_1 + 1))) else (if x3_1 > 0 then ((ref_In.f (wrap64 (bt a0 x3_1)) 48 57).bind fun t105 => (if t105 = true then (ref_NameOk.l0 k1 a0 (wrap64 (x3_1 + 1))) else (some false))) else (some false)))))))) = some r := H
     have A5 := Aside0.mk A50
     clear A50
     by_cases c6 : t103 = true
     ·subst c6
      have H1 : (ref_NameOk.l0 k1 a0 (wrap64 (x3_1 + 1))) = some r := by rw [if_pos rfl] at H; exact H
      clear H
      have H := H1
      clear H1
      have H' := Aside0.mk H
      clear H
      have p4 : 0 ≤ (x3_1 : Int) := of_decide_eq_true qO
      have q4 : x3_1 < (a0.size : Int) := of_decide_eq_true qO
      have hx4 := bt_at a0 x3_1
      replace p4 := eq_true p4
      replace q4 := eq_true q4
      go_wp2_with (first | ((with_reducible refine gate_callee (f := 13) rfl ?_); refine goesL_ (some 17) rfl rfl Try.func13 (by kernel_rfl) rfl #[.int .i64 (wrap64 (bt a0 x3_1)), .int .i64 97, .int .i64 122] rfl qA ?_; (with_reducible refine (ref_In.calls (wrap64 (bt a0 x3_1)) 97 122 true _ A5.out).mono ?_); rintro e w' ⟨rfl, ⟨nd, rfl⟩⟩; refine ⟨_, rfl, ?_⟩))
      go_roundg k1
      case measure => have := HK1.out; omega
      case rel => exact ⟨(wrap64 (x3_1 + 1)), qF, H', ⟨by have := HK1.out; omega⟩, by repeat (first | exact Drawn0.refl _ | apply Drawn0.step)⟩
     ·replace c6 := Bool.eq_false_iff.mpr c6
      subst c6
      have H1 : ((ref_In.f (wrap64 (bt a0 x3_1)) 65 90).bind fun t104 => (if t104 = true then (ref_NameOk.l0 k1 a0 (wrap64 (x3_1 + 1))) else (if (wrap64 (bt a0 x3_1)) = 46 then (ref_NameOk.l0 k1 a0 (wrap64 (x3_1 + 1))) else (if (wrap64 (bt a0 x3_1)) = 95 then (ref_NameOk.l0 k1 a0 (wrap64 (x3_1 + 1))) else (if ((wrap64 (bt a0 x3_1)) = 36) then (ref_NameOk.l0 k1 a0 (wrap64 (x3_1 + 1))) else (if x3_1 > 0 then ((ref_In.f (wrap64 (bt a0 x3_1)) 48 57).bind fun t105 => (if t105 = true then (ref_NameOk.l0 k1 a0 (wrap64 (x3_1 + 1))) else (some false))) else (some false))))))) = some r := by rw [if_neg (show ¬ (false = true) by decide)] at H; exact H
      clear H
      have H := H1
      clear H1
      replace H := Option.bind_eq_some_iff.mp H
      obtain ⟨t104, A70, H⟩ := H
      replace H : (if t104 = true then (ref_NameOk.l0 k1 a0 (wrap64 (x3_1 + 1))) else (if (wrap64 (bt a0 x3_1)) = 46 then (ref_NameOk.l0 k1 a0 (wrap64 (x3_1 + 1))) else (if (wrap64 (bt a0 x3_1)) = 95 then (ref_NameOk.l0 k1 a0 (wrap64 (x3_1 + 1))) else (if ((wrap64 (bt a0 x3_1)) = 36) then (ref_NameOk.l0 k1 a0 (wrap64 (x3_1 + 1))) else (if x3_1 > 0 then ((ref_In.f (wrap64 (bt a0 x3_1)) 48 57).bind fun t105 => (if t105 = true then (ref_NameOk.l0 k1 a0 (wrap64 (x3_1 + 1))) else (some false))) else (some false)))))) = some r := H
      have A7 := Aside0.mk A70
      clear A70
      by_cases c8 : t104 = true
      ·subst c8
       have H1 : (ref_NameOk.l0 k1 a0 (wrap64 (x3_1 + 1))) = some r := by rw [if_pos rfl] at H; exact H
       clear H
       have H := H1
       clear H1
       have H' := Aside0.mk H
       clear H
       have p4 : 0 ≤ (x3_1 : Int) := of_decide_eq_true qO
       have q4 : x3_1 < (a0.size : Int) := of_decide_eq_true qO
       have hx4 := bt_at a0 x3_1
       replace p4 := eq_true p4
       replace q4 := eq_true q4
       go_wp2_with (first | ((with_reducible refine gate_callee (f := 13) rfl ?_); refine goesL_ (some 17) rfl rfl Try.func13 (by kernel_rfl) rfl #[.int .i64 (wrap64 (bt a0 x3_1)), .int .i64 97, .int .i64 122] rfl qA ?_; (with_reducible refine (ref_In.calls (wrap64 (bt a0 x3_1)) 97 122 false _ A5.out).mono ?_); rintro e w' ⟨rfl, ⟨nd, rfl⟩⟩; refine ⟨_, rfl, ?_⟩) | (go_at_call 13; (with_reducible refine (ref_In.calls (wrap64 (bt a0 x3_1)) 65 90 true _ A7.out).mono ?_); rintro e w' ⟨rfl, ⟨nd, rfl⟩⟩))
       go_roundg k1
       case measure => have := HK1.out; omega
       case rel => exact ⟨(wrap64 (x3_1 + 1)), qF, H', ⟨by have := HK1.out; omega⟩, by repeat (first | exact Drawn0.refl _ | apply Drawn0.step)⟩
      ·replace c8 := Bool.eq_false_iff.mpr c8
       subst c8
       have H1 : (if (wrap64 (bt a0 x3_1)) = 46 then (ref_NameOk.l0 k1 a0 (wrap64 (x3_1 + 1))) else (if (wrap64 (bt a0 x3_1)) = 95 then (ref_NameOk.l0 k1 a0 (wrap64 (x3_1 + 1))) else (if ((wrap64 (bt a0 x3_1)) = 36) then (ref_NameOk.l0 k1 a0 (wrap64 (x3_1 + 1))) else (if x3_1 > 0 then ((ref_In.f (wrap64 (bt a0 x3_1)) 48 57).bind fun t105 => (if t105 = true then (ref_NameOk.l0 k1 a0 (wrap64 (x3_1 + 1))) else (some false))) else (some false))))) = some r := by rw [if_neg (show ¬ (false = true) by decide)] at H; exact H
       clear H
       have H := H1
       clear H1
       by_cases c9 : (wrap64 (bt a0 x3_1)) = 46
       ·rw [if_pos c9] at H
        have c9b0 : ((wrap64 (bt a0 x3_1)) == 46) = true := beq_iff_eq.mpr c9
        have c9b1 : ((wrap64 (bt a0 x3_1)) != 46) = false := bne_eq_false_iff_eq.mpr c9
        clear c9
        have H' := Aside0.mk H
        clear H
        have p4 : 0 ≤ (x3_1 : Int) := of_decide_eq_true qO
        have q4 : x3_1 < (a0.size : Int) := of_decide_eq_true qO
        have hx4 := bt_at a0 x3_1
        replace p4 := eq_true p4
        replace q4 := eq_true q4
        go_wp2_with (first | ((with_reducible refine gate_callee (f := 13) rfl ?_); refine goesL_ (some 17) rfl rfl Try.func13 (by kernel_rfl) rfl #[.int .i64 (wrap64 (bt a0 x3_1)), .int .i64 97, .int .i64 122] rfl qA ?_; (with_reducible refine (ref_In.calls (wrap64 (bt a0 x3_1)) 97 122 false _ A5.out).mono ?_); rintro e w' ⟨rfl, ⟨nd, rfl⟩⟩; refine ⟨_, rfl, ?_⟩) | (go_at_call 13; (with_reducible refine (ref_In.calls (wrap64 (bt a0 x3_1)) 65 90 false _ A7.out).mono ?_); rintro e w' ⟨rfl, ⟨nd, rfl⟩⟩))
        go_roundg k1
        case measure => have := HK1.out; omega
        case rel => exact ⟨(wrap64 (x3_1 + 1)), qF, H', ⟨by have := HK1.out; omega⟩, by repeat (first | exact Drawn0.refl _ | apply Drawn0.step)⟩
       ·rw [if_neg c9] at H
        have c9b0 : ((wrap64 (bt a0 x3_1)) == 46) = false := beq_eq_false_iff_ne.mpr c9
        have c9b1 : ((wrap64 (bt a0 x3_1)) != 46) = true := bne_iff_ne.mpr c9
        by_cases c10 : (wrap64 (bt a0 x3_1)) = 95
        ·rw [if_pos c10] at H
         have c10b0 : ((wrap64 (bt a0 x3_1)) == 95) = true := beq_iff_eq.mpr c10
         have c10b1 : ((wrap64 (bt a0 x3_1)) != 95) = false := bne_eq_false_iff_eq.mpr c10
         clear c10
         have H' := Aside0.mk H
         clear H
         have p4 : 0 ≤ (x3_1 : Int) := of_decide_eq_true qO
         have q4 : x3_1 < (a0.size : Int) := of_decide_eq_true qO
         have hx4 := bt_at a0 x3_1
         replace p4 := eq_true p4
         replace q4 := eq_true q4
         go_wp2_with (first | ((with_reducible refine gate_callee (f := 13) rfl ?_); refine goesL_ (some 17) rfl rfl Try.func13 (by kernel_rfl) rfl #[.int .i64 (wrap64 (bt a0 x3_1)), .int .i64 97, .int .i64 122] rfl qA ?_; (with_reducible refine (ref_In.calls (wrap64 (bt a0 x3_1)) 97 122 false _ A5.out).mono ?_); rintro e w' ⟨rfl, ⟨nd, rfl⟩⟩; refine ⟨_, rfl, ?_⟩) | (go_at_call 13; (with_reducible refine (ref_In.calls (wrap64 (bt a0 x3_1)) 65 90 false _ A7.out).mono ?_); rintro e w' ⟨rfl, ⟨nd, rfl⟩⟩))
         go_roundg k1
         case measure => have := HK1.out; omega
         case rel => exact ⟨(wrap64 (x3_1 + 1)), qF, H', ⟨by have := HK1.out; omega⟩, by repeat (first | exact Drawn0.refl _ | apply Drawn0.step)⟩
        ·rw [if_neg c10] at H
         have c10b0 : ((wrap64 (bt a0 x3_1)) == 95) = false := beq_eq_false_iff_ne.mpr c10
         have c10b1 : ((wrap64 (bt a0 x3_1)) != 95) = true := bne_iff_ne.mpr c10
         by_cases c11 : ((wrap64 (bt a0 x3_1)) = 36)
         ·rw [if_pos c11] at H
          have c11b0 : ((wrap64 (bt a0 x3_1)) == 36) = true := beq_iff_eq.mpr c11
          have c11b1 : ((wrap64 (bt a0 x3_1)) != 36) = false := bne_eq_false_iff_eq.mpr c11
          clear c11
          have H' := Aside0.mk H
          clear H
          have p4 : 0 ≤ (x3_1 : Int) := of_decide_eq_true qO
          have q4 : x3_1 < (a0.size : Int) := of_decide_eq_true qO
          have hx4 := bt_at a0 x3_1
          replace p4 := eq_true p4
          replace q4 := eq_true q4
          go_wp2_with (first | ((with_reducible refine gate_callee (f := 13) rfl ?_); refine goesL_ (some 17) rfl rfl Try.func13 (by kernel_rfl) rfl #[.int .i64 (wrap64 (bt a0 x3_1)), .int .i64 97, .int .i64 122] rfl qA ?_; (with_reducible refine (ref_In.calls (wrap64 (bt a0 x3_1)) 97 122 false _ A5.out).mono ?_); rintro e w' ⟨rfl, ⟨nd, rfl⟩⟩; refine ⟨_, rfl, ?_⟩) | (go_at_call 13; (with_reducible refine (ref_In.calls (wrap64 (bt a0 x3_1)) 65 90 false _ A7.out).mono ?_); rintro e w' ⟨rfl, ⟨nd, rfl⟩⟩))
          go_roundg k1
          case measure => have := HK1.out; omega
          case rel => exact ⟨(wrap64 (x3_1 + 1)), qF, H', ⟨by have := HK1.out; omega⟩, by repeat (first | exact Drawn0.refl _ | apply Drawn0.step)⟩
         ·rw [if_neg c11] at H
          have c11b0 : ((wrap64 (bt a0 x3_1)) == 36) = false := beq_eq_false_iff_ne.mpr c11
          have c11b1 : ((wrap64 (bt a0 x3_1)) != 36) = true := bne_iff_ne.mpr c11
          by_cases c12 : x3_1 > 0
          ·rw [if_pos c12] at H
           have c12b0 : decide (0 < x3_1) = true := decide_eq_true c12
           clear c12
           replace H := Option.bind_eq_some_iff.mp H
           obtain ⟨t105, A130, H⟩ := H
           replace H : (if t105 = true then (ref_NameOk.l0 k1 a0 (wrap64 (x3_1 + 1))) else (some false)) = some r := H
           have A13 := Aside0.mk A130
           clear A130
           by_cases c14 : t105 = true
           ·subst c14
            have H1 : (ref_NameOk.l0 k1 a0 (wrap64 (x3_1 + 1))) = some r := by rw [if_pos rfl] at H; exact H
            clear H
            have H := H1
            clear H1
            have H' := Aside0.mk H
            clear H
            have p4 : 0 ≤ (x3_1 : Int) := of_decide_eq_true qO
            have q4 : x3_1 < (a0.size : Int) := of_decide_eq_true qO
            have hx4 := bt_at a0 x3_1
            replace p4 := eq_true p4
            replace q4 := eq_true q4
            go_wp2_with (first | ((with_reducible refine gate_callee (f := 13) rfl ?_); refine goesL_ (some 17) rfl rfl Try.func13 (by kernel_rfl) rfl #[.int .i64 (wrap64 (bt a0 x3_1)), .int .i64 97, .int .i64 122] rfl qA ?_; (with_reducible refine (ref_In.calls (wrap64 (bt a0 x3_1)) 97 122 false _ A5.out).mono ?_); rintro e w' ⟨rfl, ⟨nd, rfl⟩⟩; refine ⟨_, rfl, ?_⟩) | (go_at_call 13; (with_reducible refine (ref_In.calls (wrap64 (bt a0 x3_1)) 65 90 false _ A7.out).mono ?_); rintro e w' ⟨rfl, ⟨nd, rfl⟩⟩) | (go_at_call 13; (with_reducible refine (ref_In.calls (wrap64 (bt a0 x3_1)) 48 57 true _ A13.out).mono ?_); rintro e w' ⟨rfl, ⟨nd, rfl⟩⟩))
            go_roundg k1
            case measure => have := HK1.out; omega
            case rel => exact ⟨(wrap64 (x3_1 + 1)), qF, H', ⟨by have := HK1.out; omega⟩, by repeat (first | exact Drawn0.refl _ | apply Drawn0.step)⟩
           ·replace c14 := Bool.eq_false_iff.mpr c14
            subst c14
            have H1 : (some false) = some r := by rw [if_neg (show ¬ (false = true) by decide)] at H; exact H
            clear H
            have H := H1
            clear H1
            obtain rfl := Option.some.inj H
            have p4 : 0 ≤ (x3_1 : Int) := of_decide_eq_true qO
            have q4 : x3_1 < (a0.size : Int) := of_decide_eq_true qO
            have hx4 := bt_at a0 x3_1
            replace p4 := eq_true p4
            replace q4 := eq_true q4
            go_wp2_with (first | ((with_reducible refine gate_callee (f := 13) rfl ?_); refine goesL_ (some 17) rfl rfl Try.func13 (by kernel_rfl) rfl #[.int .i64 (wrap64 (bt a0 x3_1)), .int .i64 97, .int .i64 122] rfl qA ?_; (with_reducible refine (ref_In.calls (wrap64 (bt a0 x3_1)) 97 122 false _ A5.out).mono ?_); rintro e w' ⟨rfl, ⟨nd, rfl⟩⟩; refine ⟨_, rfl, ?_⟩) | (go_at_call 13; (with_reducible refine (ref_In.calls (wrap64 (bt a0 x3_1)) 65 90 false _ A7.out).mono ?_); rintro e w' ⟨rfl, ⟨nd, rfl⟩⟩) | (go_at_call 13; (with_reducible refine (ref_In.calls (wrap64 (bt a0 x3_1)) 48 57 false _ A13.out).mono ?_); rintro e w' ⟨rfl, ⟨nd, rfl⟩⟩))
            go_ret
            exact ⟨qF, by repeat (first | exact Drawn0.refl _ | apply Drawn0.step)⟩
          ·rw [if_neg c12] at H
           have c12b0 : decide (0 < x3_1) = false := decide_eq_false c12
           clear c12
           obtain rfl := Option.some.inj H
           have p4 : 0 ≤ (x3_1 : Int) := of_decide_eq_true qO
           have q4 : x3_1 < (a0.size : Int) := of_decide_eq_true qO
           have hx4 := bt_at a0 x3_1
           replace p4 := eq_true p4
           replace q4 := eq_true q4
           go_wp2_with (first | ((with_reducible refine gate_callee (f := 13) rfl ?_); refine goesL_ (some 17) rfl rfl Try.func13 (by kernel_rfl) rfl #[.int .i64 (wrap64 (bt a0 x3_1)), .int .i64 97, .int .i64 122] rfl qA ?_; (with_reducible refine (ref_In.calls (wrap64 (bt a0 x3_1)) 97 122 false _ A5.out).mono ?_); rintro e w' ⟨rfl, ⟨nd, rfl⟩⟩; refine ⟨_, rfl, ?_⟩) | (go_at_call 13; (with_reducible refine (ref_In.calls (wrap64 (bt a0 x3_1)) 65 90 false _ A7.out).mono ?_); rintro e w' ⟨rfl, ⟨nd, rfl⟩⟩))
           go_ret
           exact ⟨qF, by repeat (first | exact Drawn0.refl _ | apply Drawn0.step)⟩
    ·rw [if_neg c3] at H
     exact absurd H (by simp)
   ·rw [if_neg c2] at H
    have c2b0 : decide (x3_1 < (a0.size : Int)) = false := decide_eq_false c2
    clear c2
    replace H := Option.bind_eq_some_iff.mp H
    obtain ⟨t102, A150, H⟩ := H
    replace H : (some t102) = some r := H
    have A15 := Aside0.mk A150
    clear A150
    obtain rfl := Option.some.inj H
    go_wp2_with (first | ((with_reducible refine gate_callee (f := 13) rfl ?_); refine goesL_ (some 47) rfl rfl Try.func13 (by kernel_rfl) rfl #[.int .i64 (a0.size : Int), .int .i64 1, .int .i64 16] rfl qA ?_; (with_reducible refine (ref_In.calls (a0.size : Int) 1 16 t102 _ A15.out).mono ?_); rintro e w' ⟨rfl, ⟨nd, rfl⟩⟩; refine ⟨_, rfl, ?_⟩))
    go_ret
    exact ⟨qF, by repeat (first | exact Drawn0.refl _ | apply Drawn0.step)⟩

/-! ### ref_Power: function 35 -/
def ref_Power.l0 : Nat → Int → Int → Int → Option (Bool)
 | 0, _, _, _ => none
 | k + 1, x0, x1, x5 => if x5 ≤ x1 then (if x5 = x0 then (some true) else (ref_Power.l0 k x0 x1 (wrap64 (x5 * 2)))) else (some false)
def ref_Power.f (k : Nat) (a0 : Int) (a1 : Int) : Option (Bool) := ref_Power.l0 k a0 a1 1
theorem ref_Power.mono_l : ∀ k, (∀ y0 y1 y2, LeO (ref_Power.l0 k y0 y1 y2) (ref_Power.l0 (k + 1) y0 y1 y2))
 | 0 => fun _ _ _ r h => by simp [ref_Power.l0] at h
 | k + 1 => by
  have ih0 := ref_Power.mono_l k
  ·intro y0 y1 y2
   unfold ref_Power.l0
   repeat' first
   | (with_reducible exact ih0 _ _ _)
   | (with_reducible exact LeO.refl _)
   | (with_reducible exact LeO.none _)
   | (with_reducible refine LeO.ite ?_ ?_)
   | (with_reducible refine LeO.bind ?_ (fun _ => ?_))
   | exact ih0 _ _ _
   | exact LeO.none _
   | refine LeO.ite ?_ ?_
   | refine LeO.bind ?_ (fun _ => ?_)
theorem ref_Power.mono : ∀ a0 a1 k, LeO (ref_Power.f k a0 a1) (ref_Power.f (k + 1) a0 a1) := by
 intro a0 a1 k
 have ih0 := ref_Power.mono_l k
 unfold ref_Power.f
 repeat' first
   | (with_reducible exact ih0 _ _ _)
   | (with_reducible exact LeO.refl _)
   | (with_reducible exact LeO.none _)
   | (with_reducible refine LeO.ite ?_ ?_)
   | (with_reducible refine LeO.bind ?_ (fun _ => ?_))
   | exact ih0 _ _ _
   | exact LeO.none _
   | refine LeO.ite ?_ ?_
   | refine LeO.bind ?_ (fun _ => ?_)
set_option maxHeartbeats 8000000 in
set_option maxRecDepth 100000 in
theorem ref_Power.calls (k : Nat) (a0 : Int) (a1 : Int) (r : Bool) (w : World) (h : ref_Power.f k a0 a1 = some r) :
  Calls Try.prog 35 #[.int .i64 a0, .int .i64 a1] w fun e w' => e = .returned (.bool r) ∧ Drawn0 w w' := by
 have H : (ref_Power.l0 k a0 a1 1) = some r := h
 clear h
 have H' := Aside0.mk H
 clear H
 go_enter Try.func35, Try.ntmps35
 go_wp2
 go_loopg [5] k (fun kq v5 w' => ∃ (x5_1 : Int), v5 = .int .i64 x5_1 ∧ Aside0 (ref_Power.l0 kq a0 a1 x5_1 = some r) ∧ Aside0 (kq ≤ k) ∧ Drawn0 w w')
 case atStart => exact ⟨(1), qF, H', ⟨Nat.le_refl _⟩, by repeat (first | exact Drawn0.refl _ | apply Drawn0.step)⟩
 case round =>
  clear H'
  try clear p2
  obtain ⟨x5_1, rfl, HA, HK1, ⟨m1, rfl⟩⟩ := hrel
  cases gk with
  | zero => exact absurd HA.out (by simp [ref_Power.l0])
  | succ k1 =>
   have H := HA.out
   clear HA
   simp only [ref_Power.l0] at H
   by_cases c3 : x5_1 ≤ a1
   ·rw [if_pos c3] at H
    have c3b0 : decide (x5_1 ≤ a1) = true := decide_eq_true c3
    clear c3
    by_cases c4 : x5_1 = a0
    ·rw [if_pos c4] at H
     have c4b0 : (x5_1 == a0) = true := beq_iff_eq.mpr c4
     have c4b1 : (x5_1 != a0) = false := bne_eq_false_iff_eq.mpr c4
     clear c4
     obtain rfl := Option.some.inj H
     go_wp2
     go_ret
     exact ⟨qF, by repeat (first | exact Drawn0.refl _ | apply Drawn0.step)⟩
    ·rw [if_neg c4] at H
     have c4b0 : (x5_1 == a0) = false := beq_eq_false_iff_ne.mpr c4
     have c4b1 : (x5_1 != a0) = true := bne_iff_ne.mpr c4
     have H' := Aside0.mk H
     clear H
     go_wp2
     go_roundg k1
     case measure => have := HK1.out; omega
     case rel => exact ⟨(wrap64 (x5_1 * 2)), qF, H', ⟨by have := HK1.out; omega⟩, by repeat (first | exact Drawn0.refl _ | apply Drawn0.step)⟩
   ·rw [if_neg c3] at H
    have c3b0 : decide (x5_1 ≤ a1) = false := decide_eq_false c3
    clear c3
    obtain rfl := Option.some.inj H
    go_wp2
    go_ret
    exact ⟨qF, by repeat (first | exact Drawn0.refl _ | apply Drawn0.step)⟩

/-! ### ref_PatternOk: function 36 -/
def ref_PatternOk.j0 : Nat → ByteArray → Int → Bool → Option (Bool)
 | 0, _, _, _ => none
 | k + 1, x0, x3, x14 => if x14 = true then (if x3 = 1 then (some true) else (if 0 ≤ (wrap64 (x3 - 1)) then (if (wrap64 (x3 - 1)) ≤ (x0.size : Int) then ((ref_NameOk.f k (x0.extract 0 ((wrap64 (x3 - 1)) : Int).toNat)).bind fun t106 => (some t106)) else (none)) else (none))) else ((ref_NameOk.f k x0).bind fun t107 => (some t107))
def ref_PatternOk.f (k : Nat) (a0 : ByteArray) : Option (Bool) := if (a0.size : Int) > 0 then (if 0 ≤ (wrap64 ((a0.size : Int) - 1)) then (if (wrap64 ((a0.size : Int) - 1)) < (a0.size : Int) then (ref_PatternOk.j0 k a0 (a0.size : Int) ((bt a0 (wrap64 ((a0.size : Int) - 1))) == 42)) else (none)) else (none)) else (ref_PatternOk.j0 k a0 (a0.size : Int) false)
theorem ref_PatternOk.mono_l : ∀ k, (∀ y0 y1 y2, LeO (ref_PatternOk.j0 k y0 y1 y2) (ref_PatternOk.j0 (k + 1) y0 y1 y2))
 | 0 => fun _ _ _ r h => by simp [ref_PatternOk.j0] at h
 | k + 1 => by
  have ih0 := ref_PatternOk.mono_l k
  ·intro y0 y1 y2
   unfold ref_PatternOk.j0
   repeat' first
   | (with_reducible exact ih0 _ _ _)
   | (with_reducible exact ref_NameOk.mono _ _)
   | (with_reducible exact LeO.refl _)
   | (with_reducible exact LeO.none _)
   | (with_reducible refine LeO.ite ?_ ?_)
   | (with_reducible refine LeO.bind ?_ (fun _ => ?_))
   | exact ih0 _ _ _
   | exact ref_NameOk.mono _ _
   | exact LeO.none _
   | refine LeO.ite ?_ ?_
   | refine LeO.bind ?_ (fun _ => ?_)
theorem ref_PatternOk.mono : ∀ a0 k, LeO (ref_PatternOk.f k a0) (ref_PatternOk.f (k + 1) a0) := by
 intro a0 k
 have ih0 := ref_PatternOk.mono_l k
 unfold ref_PatternOk.f
 repeat' first
   | (with_reducible exact ih0 _ _ _)
   | (with_reducible exact ref_NameOk.mono _ _)
   | (with_reducible exact LeO.refl _)
   | (with_reducible exact LeO.none _)
   | (with_reducible refine LeO.ite ?_ ?_)
   | (with_reducible refine LeO.bind ?_ (fun _ => ?_))
   | exact ih0 _ _ _
   | exact ref_NameOk.mono _ _
   | exact LeO.none _
   | refine LeO.ite ?_ ?_
   | refine LeO.bind ?_ (fun _ => ?_)
set_option maxHeartbeats 8000000 in
set_option maxRecDepth 100000 in
theorem ref_PatternOk.calls (k : Nat) (a0 : ByteArray) (r : Bool) (w : World) (h : ref_PatternOk.f k a0 = some r) :
  Calls Try.prog 36 #[.string a0] w fun e w' => e = .returned (.bool r) ∧ Drawn0 w w' := by
 have H : (if (a0.size : Int) > 0 then (if 0 ≤ (wrap64 ((a0.size : Int) - 1)) then (if (wrap64 ((a0.size : Int) - 1)) < (a0.size : Int) then (ref_PatternOk.j0 k a0 (a0.size : Int) ((bt a0 (wrap64 ((a0.size : Int) - 1))) == 42)) else (none)) else (none)) else (ref_PatternOk.j0 k a0 (a0.size : Int) false)) = some r := h
 clear h
 have HC2 := Aside0.mk H
 clear H
 go_enter Try.func36, Try.ntmps36
 go_upto_region 2 with (fail)
 go_cut [14] (fun v14 wc => ∃ (kq : Nat) (x14_1 : Bool), v14 = .bool x14_1 ∧ Aside0 (ref_PatternOk.j0 kq a0 (a0.size : Int) x14_1 = some r) ∧ Aside0 (kq ≤ k) ∧ Drawn0 w wc)
 case first =>
  have H := HC2.out
  clear HC2
  by_cases c3 : (a0.size : Int) > 0
  ·rw [if_pos c3] at H
   have c3b0 : decide (0 < (a0.size : Int)) = true := decide_eq_true c3
   have c3b1 : decide (0 < a0.size) = true := decide_eq_true (by omega)
   clear c3
   (first | rw [c3b0] | (simp only [i64_w, i32_w]; rw [c3b0]) | skip)
   obtain ⟨ji4, hji4⟩ : ∃ j_ : Int, (wrap64 ((a0.size : Int) - 1)) = j_ := ⟨_, rfl⟩
   replace H : (if 0 ≤ (ji4) then (if (ji4) < (a0.size : Int) then (ref_PatternOk.j0 k a0 (a0.size : Int) ((bt a0 (ji4)) == 42)) else (none)) else (none)) = some r := by first | (rw [hji4] at H; exact H) | (simp only [hji4] at H ⊢; exact H)
   have hji4w : (IntKind.i64.wrap ((a0.size : Int) - 1)) = ji4 := (i64_w _).trans hji4
   by_cases c5 : 0 ≤ (ji4)
   ·rw [if_pos c5] at H
    have c5b0 : decide (0 ≤ (ji4)) = true := decide_eq_true c5
    clear c5
    by_cases c6 : (ji4) < (a0.size : Int)
    ·rw [if_pos c6] at H
     have c6b0 : decide ((ji4) < (a0.size : Int)) = true := decide_eq_true c6
     clear c6
     have H' := Aside0.mk H
     clear H
     have p7 : 0 ≤ ((ji4) : Int) := of_decide_eq_true qO
     have q7 : (ji4) < (a0.size : Int) := of_decide_eq_true qO
     have hx7 := bt_at a0 (ji4)
     replace p7 := eq_true p7
     replace q7 := eq_true q7
     go_wp2
     go_meet
     case rel => exact ⟨_, (((bt a0 (ji4)) == 42)), (by first | rfl | (simp; done) | (simp only [← hji4] <;> (first | rfl | simp)) | (simp [*]; done)), H', ⟨by first | omega | exact Nat.le_refl _⟩, by repeat (first | exact Drawn0.refl _ | apply Drawn0.step)⟩
    ·rw [if_neg c6] at H
     exact absurd H (by simp)
   ·rw [if_neg c5] at H
    exact absurd H (by simp)
  ·rw [if_neg c3] at H
   have c3b0 : decide (0 < (a0.size : Int)) = false := decide_eq_false c3
   have c3b1 : decide (0 < a0.size) = false := decide_eq_false (by omega)
   clear c3
   (first | rw [c3b0] | (simp only [i64_w, i32_w]; rw [c3b0]) | skip)
   have H' := Aside0.mk H
   clear H
   go_wp2
   go_meet
   case rel => exact ⟨_, (false), qF, H', ⟨by first | omega | exact Nat.le_refl _⟩, by repeat (first | exact Drawn0.refl _ | apply Drawn0.step)⟩
 case rest =>
  clear HC2
  try clear p2
  try clear c3
  try clear c3b0
  try clear c3b1
  try clear c5
  try clear c5b0
  try clear c6
  try clear c6b0
  try clear p6
  try clear p7
  try clear q7
  try clear hx7
  try clear p7
  try clear q7
  obtain ⟨kq, x14_1, rfl, HA, HJ1, ⟨mc1, rfl⟩⟩ := hcut
  cases kq with
  | zero => exact absurd HA.out (by simp [ref_PatternOk.j0])
  | succ kj1 =>
   have H := HA.out
   clear HA
   simp only [ref_PatternOk.j0] at H
   by_cases c8 : x14_1 = true
   ·subst c8
    have H1 : (if (a0.size : Int) = 1 then (some true) else (if 0 ≤ (wrap64 ((a0.size : Int) - 1)) then (if (wrap64 ((a0.size : Int) - 1)) ≤ (a0.size : Int) then ((ref_NameOk.f kj1 (a0.extract 0 ((wrap64 ((a0.size : Int) - 1)) : Int).toNat)).bind fun t106 => (some t106)) else (none)) else (none))) = some r := by rw [if_pos rfl] at H; exact H
    clear H
    have H := H1
    clear H1
    by_cases c9 : (a0.size : Int) = 1
    ·rw [if_pos c9] at H
     have c9b0 : ((a0.size : Int) == 1) = true := beq_iff_eq.mpr c9
     have c9b1 : ((a0.size : Int) != 1) = false := bne_eq_false_iff_eq.mpr c9
     clear c9
     obtain rfl := Option.some.inj H
     go_wp2
     go_ret
     exact ⟨qF, by repeat (first | exact Drawn0.refl _ | apply Drawn0.step)⟩
    ·rw [if_neg c9] at H
     have c9b0 : ((a0.size : Int) == 1) = false := beq_eq_false_iff_ne.mpr c9
     have c9b1 : ((a0.size : Int) != 1) = true := bne_iff_ne.mpr c9
     obtain ⟨ji10, hji10⟩ : ∃ j_ : Int, (wrap64 ((a0.size : Int) - 1)) = j_ := ⟨_, rfl⟩
     replace H : (if 0 ≤ (ji10) then (if (ji10) ≤ (a0.size : Int) then ((ref_NameOk.f kj1 (a0.extract 0 ((ji10) : Int).toNat)).bind fun t106 => (some t106)) else (none)) else (none)) = some r := by first | (rw [hji10] at H; exact H) | (simp only [hji10] at H ⊢; exact H)
     have hji10w : (IntKind.i64.wrap ((a0.size : Int) - 1)) = ji10 := (i64_w _).trans hji10
     by_cases c11 : 0 ≤ (ji10)
     ·rw [if_pos c11] at H
      have c11b0 := eq_true c11
      have c11b1 : decide (0 ≤ (ji10)) = true := decide_eq_true c11
      clear c11
      by_cases c12 : (ji10) ≤ (a0.size : Int)
      ·rw [if_pos c12] at H
       have c12b0 := eq_true c12
       have c12b1 : decide ((ji10) ≤ (a0.size : Int)) = true := decide_eq_true c12
       clear c12
       replace H := Option.bind_eq_some_iff.mp H
       obtain ⟨t106, A130, H⟩ := H
       replace H : (some t106) = some r := H
       have A13 := Aside0.mk A130
       clear A130
       obtain rfl := Option.some.inj H
       go_wp2_with (first | (go_at_call 34; (with_reducible refine (ref_NameOk.calls kj1 (a0.extract 0 ((ji10) : Int).toNat) t106 _ A13.out).mono ?_); rintro e w' ⟨rfl, ⟨nd, rfl⟩⟩))
       go_ret
       exact ⟨by first | rfl | (simp; done) | (simp only [← hji10] <;> (first | rfl | simp)) | (simp [*]; done), by repeat (first | exact Drawn0.refl _ | apply Drawn0.step)⟩
      ·rw [if_neg c12] at H
       exact absurd H (by simp)
     ·rw [if_neg c11] at H
      exact absurd H (by simp)
   ·replace c8 := Bool.eq_false_iff.mpr c8
    subst c8
    have H1 : ((ref_NameOk.f kj1 a0).bind fun t107 => (some t107)) = some r := by rw [if_neg (show ¬ (false = true) by decide)] at H; exact H
    clear H
    have H := H1
    clear H1
    replace H := Option.bind_eq_some_iff.mp H
    obtain ⟨t107, A140, H⟩ := H
    replace H : (some t107) = some r := H
    have A14 := Aside0.mk A140
    clear A140
    obtain rfl := Option.some.inj H
    go_wp2_with (first | ((with_reducible refine gate_callee (f := 34) rfl ?_); refine goesL_ (some 25) rfl rfl Try.func34 (by kernel_rfl) rfl #[.string a0] rfl qA ?_; (with_reducible refine (ref_NameOk.calls kj1 a0 t107 _ A14.out).mono ?_); rintro e w' ⟨rfl, ⟨nd, rfl⟩⟩; refine ⟨_, rfl, ?_⟩))
    go_ret
    exact ⟨qF, by repeat (first | exact Drawn0.refl _ | apply Drawn0.step)⟩

end Go.Proofs.Ytnbeamaoblmbhaa.PPlace
