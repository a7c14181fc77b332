/- Written by a program of this session, for the law(s) Place: contracts of the Go functions that the law reaches, each against a plain Lean function. No condition. -/
import Derived.Test.YtnbeamaoblmbhaaPPlacex0
namespace Go.Proofs.Ytnbeamaoblmbhaa.PPlace
open Go.RowKit Go.Proofs.YtnbeamaoblmbhaaW.PrintWords Go.Proofs.YtnbeamaoblmbhaaW.PrintLast Go.Proofs.YtnbeamaoblmbhaaW.PrintMore
attribute [local go_sem] max2_int min2_int max_two min_two max_three min_three max_four min_four   -- for this text's walks alone
set_option linter.unusedVariables false
set_option linter.unusedSimpArgs false

/-! ### script_IsName: function 46 -/
def script_IsName.l0 : Nat → ByteArray → Int → Int → Option (Bool)
 | 0, _, _, _ => none
 | k + 1, x0, x7, x8 => if x8 < x7 then (if 0 ≤ x8 then (if x8 < (x0.size : Int) then (if (bt x0 x8) ≥ 97 then (if (bt x0 x8) ≤ 122 then (script_IsName.l0 k x0 x7 (wrap64 (x8 + 1))) else (if (bt x0 x8) ≥ 65 then (if (bt x0 x8) ≤ 90 then (script_IsName.l0 k x0 x7 (wrap64 (x8 + 1))) else (if (bt x0 x8) = 46 then (script_IsName.l0 k x0 x7 (wrap64 (x8 + 1))) else (if (bt x0 x8) = 95 then (script_IsName.l0 k x0 x7 (wrap64 (x8 + 1))) else (if ((bt x0 x8) = 36) then (script_IsName.l0 k x0 x7 (wrap64 (x8 + 1))) else (if x8 = 0 then (some false) else (if (bt x0 x8) < 48 then (some false) else (if (bt x0 x8) > 57 then (some false) else (script_IsName.l0 k x0 x7 (wrap64 (x8 + 1)))))))))) else (if (bt x0 x8) = 46 then (script_IsName.l0 k x0 x7 (wrap64 (x8 + 1))) else (if (bt x0 x8) = 95 then (script_IsName.l0 k x0 x7 (wrap64 (x8 + 1))) else (if ((bt x0 x8) = 36) then (script_IsName.l0 k x0 x7 (wrap64 (x8 + 1))) else (if x8 = 0 then (some false) else (if (bt x0 x8) < 48 then (some false) else (if (bt x0 x8) > 57 then (some false) else (script_IsName.l0 k x0 x7 (wrap64 (x8 + 1))))))))))) else (if (bt x0 x8) ≥ 65 then (if (bt x0 x8) ≤ 90 then (script_IsName.l0 k x0 x7 (wrap64 (x8 + 1))) else (if (bt x0 x8) = 46 then (script_IsName.l0 k x0 x7 (wrap64 (x8 + 1))) else (if (bt x0 x8) = 95 then (script_IsName.l0 k x0 x7 (wrap64 (x8 + 1))) else (if ((bt x0 x8) = 36) then (script_IsName.l0 k x0 x7 (wrap64 (x8 + 1))) else (if x8 = 0 then (some false) else (if (bt x0 x8) < 48 then (some false) else (if (bt x0 x8) > 57 then (some false) else (script_IsName.l0 k x0 x7 (wrap64 (x8 + 1)))))))))) else (if (bt x0 x8) = 46 then (script_IsName.l0 k x0 x7 (wrap64 (x8 + 1))) else (if (bt x0 x8) = 95 then (script_IsName.l0 k x0 x7 (wrap64 (x8 + 1))) else (if ((bt x0 x8) = 36) then (script_IsName.l0 k x0 x7 (wrap64 (x8 + 1))) else (if x8 = 0 then (some false) else (if (bt x0 x8) < 48 then (some false) else (if (bt x0 x8) > 57 then (some false) else (script_IsName.l0 k x0 x7 (wrap64 (x8 + 1))))))))))) else (none)) else (none)) else (if (x0.size : Int) ≥ 1 then (some (decide ((x0.size : Int) ≤ 16))) else (some false))
def script_IsName.f (k : Nat) (a0 : ByteArray) : Option (Bool) := script_IsName.l0 k a0 (a0.size : Int) 0
theorem script_IsName.mono_l : ∀ k, (∀ y0 y1 y2, LeO (script_IsName.l0 k y0 y1 y2) (script_IsName.l0 (k + 1) y0 y1 y2))
 | 0 => fun _ _ _ r h => by simp [script_IsName.l0] at h
 | k + 1 => by
  have ih0 := script_IsName.mono_l k
  ·intro y0 y1 y2
   unfold script_IsName.l0
   repeat' first
   | (with_reducible exact ih0 _ _ _)
   | (with_reducible exact LeO.refl _)
   | (with_reducible exact LeO.none _)
   | (with_reducible refine LeO.ite ?_ ?_)
   | (with_reducible refine LeO.bind ?_ (fun _ => ?_))
   | exact ih0 _ _ _
   | exact LeO.none _
   | refine LeO.ite ?_ ?_
   | refine LeO.bind ?_ (fun _ => ?_)
theorem script_IsName.mono : ∀ a0 k, LeO (script_IsName.f k a0) (script_IsName.f (k + 1) a0) := by
 intro a0 k
 have ih0 := script_IsName.mono_l k
 unfold script_IsName.f
 repeat' first
   | (with_reducible exact ih0 _ _ _)
   | (with_reducible exact LeO.refl _)
   | (with_reducible exact LeO.none _)
   | (with_reducible refine LeO.ite ?_ ?_)
   | (with_reducible refine LeO.bind ?_ (fun _ => ?_))
   | exact ih0 _ _ _
   | exact LeO.none _
   | refine LeO.ite ?_ ?_
   | refine LeO.bind ?_ (fun _ => ?_)
set_option maxHeartbeats 8000000 in
set_option maxRecDepth 100000 in
theorem script_IsName.calls (k : Nat) (a0 : ByteArray) (r : Bool) (w : World) (h : script_IsName.f k a0 = some r) :
  Calls Try.prog 46 #[.string a0] w fun e w' => e = .returned (.bool r) ∧ Drawn0 w w' := by
 have H : (script_IsName.l0 k a0 (a0.size : Int) 0) = some r := h
 clear h
 have H' := Aside0.mk H
 clear H
 go_enter Try.func46, Try.ntmps46
 go_wp2
 go_loopg [8] k (fun kq v8 w' => ∃ (x8_1 : Int), v8 = .int .i64 x8_1 ∧ Aside0 (script_IsName.l0 kq a0 (a0.size : Int) x8_1 = some r) ∧ Aside0 (kq ≤ k) ∧ Drawn0 w w')
 case atStart => exact ⟨(0), qF, H', ⟨Nat.le_refl _⟩, by repeat (first | exact Drawn0.refl _ | apply Drawn0.step)⟩
 case round =>
  clear H'
  obtain ⟨x8_1, rfl, HA, HK1, ⟨m1, rfl⟩⟩ := hrel
  cases gk with
  | zero => exact absurd HA.out (by simp [script_IsName.l0])
  | succ k1 =>
   have H := HA.out
   clear HA
   simp only [script_IsName.l0] at H
   by_cases c2 : x8_1 < (a0.size : Int)
   ·rw [if_pos c2] at H
    have c2b0 : decide (x8_1 < (a0.size : Int)) = true := decide_eq_true c2
    clear c2
    by_cases c3 : 0 ≤ x8_1
    ·rw [if_pos c3] at H
     have c3b0 : decide (0 ≤ x8_1) = true := decide_eq_true c3
     clear c3
     by_cases c4 : x8_1 < (a0.size : Int)
     ·rw [if_pos c4] at H
      have c4b0 : decide (x8_1 < (a0.size : Int)) = true := decide_eq_true c4
      clear c4
      by_cases c6 : (bt a0 x8_1) ≥ 97
      ·rw [if_pos c6] at H
       have c6b0 : decide (97 ≤ (bt a0 x8_1)) = true := decide_eq_true c6
       clear c6
       by_cases c7 : (bt a0 x8_1) ≤ 122
       ·rw [if_pos c7] at H
        have c7b0 : decide ((bt a0 x8_1) ≤ 122) = true := decide_eq_true c7
        clear c7
        have H' := Aside0.mk H
        clear H
        have p5 : 0 ≤ (x8_1 : Int) := of_decide_eq_true qO
        have q5 : x8_1 < (a0.size : Int) := of_decide_eq_true qO
        have hx5 := bt_at a0 x8_1
        replace p5 := eq_true p5
        replace q5 := eq_true q5
        go_wp2
        go_roundg k1
        case measure => have := HK1.out; omega
        case rel => exact ⟨(wrap64 (x8_1 + 1)), qF, H', ⟨by have := HK1.out; omega⟩, by repeat (first | exact Drawn0.refl _ | apply Drawn0.step)⟩
       ·rw [if_neg c7] at H
        have c7b0 : decide ((bt a0 x8_1) ≤ 122) = false := decide_eq_false c7
        clear c7
        by_cases c8 : (bt a0 x8_1) ≥ 65
        ·rw [if_pos c8] at H
         have c8b0 : decide (65 ≤ (bt a0 x8_1)) = true := decide_eq_true c8
         clear c8
         by_cases c9 : (bt a0 x8_1) ≤ 90
         ·rw [if_pos c9] at H
          have c9b0 : decide ((bt a0 x8_1) ≤ 90) = true := decide_eq_true c9
          clear c9
          have H' := Aside0.mk H
          clear H
          have p5 : 0 ≤ (x8_1 : Int) := of_decide_eq_true qO
          have q5 : x8_1 < (a0.size : Int) := of_decide_eq_true qO
          have hx5 := bt_at a0 x8_1
          replace p5 := eq_true p5
          replace q5 := eq_true q5
          go_wp2
          go_roundg k1
          case measure => have := HK1.out; omega
          case rel => exact ⟨(wrap64 (x8_1 + 1)), qF, H', ⟨by have := HK1.out; omega⟩, by repeat (first | exact Drawn0.refl _ | apply Drawn0.step)⟩
         ·rw [if_neg c9] at H
          have c9b0 : decide ((bt a0 x8_1) ≤ 90) = false := decide_eq_false c9
          clear c9
          by_cases c10 : (bt a0 x8_1) = 46
          ·rw [if_pos c10] at H
           have c10b0 : ((bt a0 x8_1) == 46) = true := beq_iff_eq.mpr c10
           have c10b1 : ((bt a0 x8_1) != 46) = false := bne_eq_false_iff_eq.mpr c10
           clear c10
           have H' := Aside0.mk H
           clear H
           have p5 : 0 ≤ (x8_1 : Int) := of_decide_eq_true qO
           have q5 : x8_1 < (a0.size : Int) := of_decide_eq_true qO
           have hx5 := bt_at a0 x8_1
           replace p5 := eq_true p5
           replace q5 := eq_true q5
           go_wp2
           go_roundg k1
           case measure => have := HK1.out; omega
           case rel => exact ⟨(wrap64 (x8_1 + 1)), qF, H', ⟨by have := HK1.out; omega⟩, by repeat (first | exact Drawn0.refl _ | apply Drawn0.step)⟩
          ·rw [if_neg c10] at H
           have c10b0 : ((bt a0 x8_1) == 46) = false := beq_eq_false_iff_ne.mpr c10
           have c10b1 : ((bt a0 x8_1) != 46) = true := bne_iff_ne.mpr c10
           by_cases c11 : (bt a0 x8_1) = 95
           ·rw [if_pos c11] at H
            have c11b0 : ((bt a0 x8_1) == 95) = true := beq_iff_eq.mpr c11
            have c11b1 : ((bt a0 x8_1) != 95) = false := bne_eq_false_iff_eq.mpr c11
            clear c11
            have H' := Aside0.mk H
            clear H
            have p5 : 0 ≤ (x8_1 : Int) := of_decide_eq_true qO
            have q5 : x8_1 < (a0.size : Int) := of_decide_eq_true qO
            have hx5 := bt_at a0 x8_1
            replace p5 := eq_true p5
            replace q5 := eq_true q5
            go_wp2
            go_roundg k1
            case measure => have := HK1.out; omega
            case rel => exact ⟨(wrap64 (x8_1 + 1)), qF, H', ⟨by have := HK1.out; omega⟩, by repeat (first | exact Drawn0.refl _ | apply Drawn0.step)⟩
           ·rw [if_neg c11] at H
            have c11b0 : ((bt a0 x8_1) == 95) = false := beq_eq_false_iff_ne.mpr c11
            have c11b1 : ((bt a0 x8_1) != 95) = true := bne_iff_ne.mpr c11
            by_cases c12 : ((bt a0 x8_1) = 36)
            ·rw [if_pos c12] at H
             have c12b0 : ((bt a0 x8_1) == 36) = true := beq_iff_eq.mpr c12
             have c12b1 : ((bt a0 x8_1) != 36) = false := bne_eq_false_iff_eq.mpr c12
             clear c12
             have H' := Aside0.mk H
             clear H
             have p5 : 0 ≤ (x8_1 : Int) := of_decide_eq_true qO
             have q5 : x8_1 < (a0.size : Int) := of_decide_eq_true qO
             have hx5 := bt_at a0 x8_1
             replace p5 := eq_true p5
             replace q5 := eq_true q5
             go_wp2
             go_roundg k1
             case measure => have := HK1.out; omega
             case rel => exact ⟨(wrap64 (x8_1 + 1)), qF, H', ⟨by have := HK1.out; omega⟩, by repeat (first | exact Drawn0.refl _ | apply Drawn0.step)⟩
            ·rw [if_neg c12] at H
             have c12b0 : ((bt a0 x8_1) == 36) = false := beq_eq_false_iff_ne.mpr c12
             have c12b1 : ((bt a0 x8_1) != 36) = true := bne_iff_ne.mpr c12
             by_cases c13 : x8_1 = 0
             ·rw [if_pos c13] at H
              have c13b0 : (x8_1 == 0) = true := beq_iff_eq.mpr c13
              have c13b1 : (x8_1 != 0) = false := bne_eq_false_iff_eq.mpr c13
              clear c13
              obtain rfl := Option.some.inj H
              have p5 : 0 ≤ (x8_1 : Int) := of_decide_eq_true qO
              have q5 : x8_1 < (a0.size : Int) := of_decide_eq_true qO
              have hx5 := bt_at a0 x8_1
              replace p5 := eq_true p5
              replace q5 := eq_true q5
              go_wp2
              go_ret
              exact ⟨qF, by repeat (first | exact Drawn0.refl _ | apply Drawn0.step)⟩
             ·rw [if_neg c13] at H
              have c13b0 : (x8_1 == 0) = false := beq_eq_false_iff_ne.mpr c13
              have c13b1 : (x8_1 != 0) = true := bne_iff_ne.mpr c13
              by_cases c14 : (bt a0 x8_1) < 48
              ·rw [if_pos c14] at H
               have c14b0 : decide ((bt a0 x8_1) < 48) = true := decide_eq_true c14
               clear c14
               obtain rfl := Option.some.inj H
               have p5 : 0 ≤ (x8_1 : Int) := of_decide_eq_true qO
               have q5 : x8_1 < (a0.size : Int) := of_decide_eq_true qO
               have hx5 := bt_at a0 x8_1
               replace p5 := eq_true p5
               replace q5 := eq_true q5
               go_wp2
               go_ret
               exact ⟨qF, by repeat (first | exact Drawn0.refl _ | apply Drawn0.step)⟩
              ·rw [if_neg c14] at H
               have c14b0 : decide ((bt a0 x8_1) < 48) = false := decide_eq_false c14
               clear c14
               by_cases c15 : (bt a0 x8_1) > 57
               ·rw [if_pos c15] at H
                have c15b0 : decide (57 < (bt a0 x8_1)) = true := decide_eq_true c15
                clear c15
                obtain rfl := Option.some.inj H
                have p5 : 0 ≤ (x8_1 : Int) := of_decide_eq_true qO
                have q5 : x8_1 < (a0.size : Int) := of_decide_eq_true qO
                have hx5 := bt_at a0 x8_1
                replace p5 := eq_true p5
                replace q5 := eq_true q5
                go_wp2
                go_ret
                exact ⟨qF, by repeat (first | exact Drawn0.refl _ | apply Drawn0.step)⟩
               ·rw [if_neg c15] at H
                have c15b0 : decide (57 < (bt a0 x8_1)) = false := decide_eq_false c15
                clear c15
                have H' := Aside0.mk H
                clear H
                have p5 : 0 ≤ (x8_1 : Int) := of_decide_eq_true qO
                have q5 : x8_1 < (a0.size : Int) := of_decide_eq_true qO
                have hx5 := bt_at a0 x8_1
                replace p5 := eq_true p5
                replace q5 := eq_true q5
                go_wp2
                go_roundg k1
                case measure => have := HK1.out; omega
                case rel => exact ⟨(wrap64 (x8_1 + 1)), qF, H', ⟨by have := HK1.out; omega⟩, by repeat (first | exact Drawn0.refl _ | apply Drawn0.step)⟩
        ·rw [if_neg c8] at H
         have c8b0 : decide (65 ≤ (bt a0 x8_1)) = false := decide_eq_false c8
         clear c8
         by_cases c16 : (bt a0 x8_1) = 46
         ·rw [if_pos c16] at H
          have c16b0 : ((bt a0 x8_1) == 46) = true := beq_iff_eq.mpr c16
          have c16b1 : ((bt a0 x8_1) != 46) = false := bne_eq_false_iff_eq.mpr c16
          clear c16
          have H' := Aside0.mk H
          clear H
          have p5 : 0 ≤ (x8_1 : Int) := of_decide_eq_true qO
          have q5 : x8_1 < (a0.size : Int) := of_decide_eq_true qO
          have hx5 := bt_at a0 x8_1
          replace p5 := eq_true p5
          replace q5 := eq_true q5
          go_wp2
          go_roundg k1
          case measure => have := HK1.out; omega
          case rel => exact ⟨(wrap64 (x8_1 + 1)), qF, H', ⟨by have := HK1.out; omega⟩, by repeat (first | exact Drawn0.refl _ | apply Drawn0.step)⟩
         ·rw [if_neg c16] at H
          have c16b0 : ((bt a0 x8_1) == 46) = false := beq_eq_false_iff_ne.mpr c16
          have c16b1 : ((bt a0 x8_1) != 46) = true := bne_iff_ne.mpr c16
          by_cases c17 : (bt a0 x8_1) = 95
          ·rw [if_pos c17] at H
           have c17b0 : ((bt a0 x8_1) == 95) = true := beq_iff_eq.mpr c17
           have c17b1 : ((bt a0 x8_1) != 95) = false := bne_eq_false_iff_eq.mpr c17
           clear c17
           have H' := Aside0.mk H
           clear H
           have p5 : 0 ≤ (x8_1 : Int) := of_decide_eq_true qO
           have q5 : x8_1 < (a0.size : Int) := of_decide_eq_true qO
           have hx5 := bt_at a0 x8_1
           replace p5 := eq_true p5
           replace q5 := eq_true q5
           go_wp2
           go_roundg k1
           case measure => have := HK1.out; omega
           case rel => exact ⟨(wrap64 (x8_1 + 1)), qF, H', ⟨by have := HK1.out; omega⟩, by repeat (first | exact Drawn0.refl _ | apply Drawn0.step)⟩
          ·rw [if_neg c17] at H
           have c17b0 : ((bt a0 x8_1) == 95) = false := beq_eq_false_iff_ne.mpr c17
           have c17b1 : ((bt a0 x8_1) != 95) = true := bne_iff_ne.mpr c17
           by_cases c18 : ((bt a0 x8_1) = 36)
           ·rw [if_pos c18] at H
            have c18b0 : ((bt a0 x8_1) == 36) = true := beq_iff_eq.mpr c18
            have c18b1 : ((bt a0 x8_1) != 36) = false := bne_eq_false_iff_eq.mpr c18
            clear c18
            have H' := Aside0.mk H
            clear H
            have p5 : 0 ≤ (x8_1 : Int) := of_decide_eq_true qO
            have q5 : x8_1 < (a0.size : Int) := of_decide_eq_true qO
            have hx5 := bt_at a0 x8_1
            replace p5 := eq_true p5
            replace q5 := eq_true q5
            go_wp2
            go_roundg k1
            case measure => have := HK1.out; omega
            case rel => exact ⟨(wrap64 (x8_1 + 1)), qF, H', ⟨by have := HK1.out; omega⟩, by repeat (first | exact Drawn0.refl _ | apply Drawn0.step)⟩
           ·rw [if_neg c18] at H
            have c18b0 : ((bt a0 x8_1) == 36) = false := beq_eq_false_iff_ne.mpr c18
            have c18b1 : ((bt a0 x8_1) != 36) = true := bne_iff_ne.mpr c18
            by_cases c19 : x8_1 = 0
            ·rw [if_pos c19] at H
             have c19b0 : (x8_1 == 0) = true := beq_iff_eq.mpr c19
             have c19b1 : (x8_1 != 0) = false := bne_eq_false_iff_eq.mpr c19
             clear c19
             obtain rfl := Option.some.inj H
             have p5 : 0 ≤ (x8_1 : Int) := of_decide_eq_true qO
             have q5 : x8_1 < (a0.size : Int) := of_decide_eq_true qO
             have hx5 := bt_at a0 x8_1
             replace p5 := eq_true p5
             replace q5 := eq_true q5
             go_wp2
             go_ret
             exact ⟨qF, by repeat (first | exact Drawn0.refl _ | apply Drawn0.step)⟩
            ·rw [if_neg c19] at H
             have c19b0 : (x8_1 == 0) = false := beq_eq_false_iff_ne.mpr c19
             have c19b1 : (x8_1 != 0) = true := bne_iff_ne.mpr c19
             by_cases c20 : (bt a0 x8_1) < 48
             ·rw [if_pos c20] at H
              have c20b0 : decide ((bt a0 x8_1) < 48) = true := decide_eq_true c20
              clear c20
              obtain rfl := Option.some.inj H
              have p5 : 0 ≤ (x8_1 : Int) := of_decide_eq_true qO
              have q5 : x8_1 < (a0.size : Int) := of_decide_eq_true qO
              have hx5 := bt_at a0 x8_1
              replace p5 := eq_true p5
              replace q5 := eq_true q5
              go_wp2
              go_ret
              exact ⟨qF, by repeat (first | exact Drawn0.refl _ | apply Drawn0.step)⟩
             ·rw [if_neg c20] at H
              have c20b0 : decide ((bt a0 x8_1) < 48) = false := decide_eq_false c20
              clear c20
              by_cases c21 : (bt a0 x8_1) > 57
              ·rw [if_pos c21] at H
               have c21b0 : decide (57 < (bt a0 x8_1)) = true := decide_eq_true c21
               clear c21
               obtain rfl := Option.some.inj H
               have p5 : 0 ≤ (x8_1 : Int) := of_decide_eq_true qO
               have q5 : x8_1 < (a0.size : Int) := of_decide_eq_true qO
               have hx5 := bt_at a0 x8_1
               replace p5 := eq_true p5
               replace q5 := eq_true q5
               go_wp2
               go_ret
               exact ⟨qF, by repeat (first | exact Drawn0.refl _ | apply Drawn0.step)⟩
              ·rw [if_neg c21] at H
               have c21b0 : decide (57 < (bt a0 x8_1)) = false := decide_eq_false c21
               clear c21
               have H' := Aside0.mk H
               clear H
               have p5 : 0 ≤ (x8_1 : Int) := of_decide_eq_true qO
               have q5 : x8_1 < (a0.size : Int) := of_decide_eq_true qO
               have hx5 := bt_at a0 x8_1
               replace p5 := eq_true p5
               replace q5 := eq_true q5
               go_wp2
               go_roundg k1
               case measure => have := HK1.out; omega
               case rel => exact ⟨(wrap64 (x8_1 + 1)), qF, H', ⟨by have := HK1.out; omega⟩, by repeat (first | exact Drawn0.refl _ | apply Drawn0.step)⟩
      ·rw [if_neg c6] at H
       have c6b0 : decide (97 ≤ (bt a0 x8_1)) = false := decide_eq_false c6
       clear c6
       by_cases c22 : (bt a0 x8_1) ≥ 65
       ·rw [if_pos c22] at H
        have c22b0 : decide (65 ≤ (bt a0 x8_1)) = true := decide_eq_true c22
        clear c22
        by_cases c23 : (bt a0 x8_1) ≤ 90
        ·rw [if_pos c23] at H
         have c23b0 : decide ((bt a0 x8_1) ≤ 90) = true := decide_eq_true c23
         clear c23
         have H' := Aside0.mk H
         clear H
         have p5 : 0 ≤ (x8_1 : Int) := of_decide_eq_true qO
         have q5 : x8_1 < (a0.size : Int) := of_decide_eq_true qO
         have hx5 := bt_at a0 x8_1
         replace p5 := eq_true p5
         replace q5 := eq_true q5
         go_wp2
         go_roundg k1
         case measure => have := HK1.out; omega
         case rel => exact ⟨(wrap64 (x8_1 + 1)), qF, H', ⟨by have := HK1.out; omega⟩, by repeat (first | exact Drawn0.refl _ | apply Drawn0.step)⟩
        ·rw [if_neg c23] at H
         have c23b0 : decide ((bt a0 x8_1) ≤ 90) = false := decide_eq_false c23
         clear c23
         by_cases c24 : (bt a0 x8_1) = 46
         ·rw [if_pos c24] at H
          have c24b0 : ((bt a0 x8_1) == 46) = true := beq_iff_eq.mpr c24
          have c24b1 : ((bt a0 x8_1) != 46) = false := bne_eq_false_iff_eq.mpr c24
          clear c24
          have H' := Aside0.mk H
          clear H
          have p5 : 0 ≤ (x8_1 : Int) := of_decide_eq_true qO
          have q5 : x8_1 < (a0.size : Int) := of_decide_eq_true qO
          have hx5 := bt_at a0 x8_1
          replace p5 := eq_true p5
          replace q5 := eq_true q5
          go_wp2
          go_roundg k1
          case measure => have := HK1.out; omega
          case rel => exact ⟨(wrap64 (x8_1 + 1)), qF, H', ⟨by have := HK1.out; omega⟩, by repeat (first | exact Drawn0.refl _ | apply Drawn0.step)⟩
         ·rw [if_neg c24] at H
          have c24b0 : ((bt a0 x8_1) == 46) = false := beq_eq_false_iff_ne.mpr c24
          have c24b1 : ((bt a0 x8_1) != 46) = true := bne_iff_ne.mpr c24
          by_cases c25 : (bt a0 x8_1) = 95
          ·rw [if_pos c25] at H
           have c25b0 : ((bt a0 x8_1) == 95) = true := beq_iff_eq.mpr c25
           have c25b1 : ((bt a0 x8_1) != 95) = false := bne_eq_false_iff_eq.mpr c25
           clear c25
           have H' := Aside0.mk H
           clear H
           have p5 : 0 ≤ (x8_1 : Int) := of_decide_eq_true qO
           have q5 : x8_1 < (a0.size : Int) := of_decide_eq_true qO
           have hx5 := bt_at a0 x8_1
           replace p5 := eq_true p5
           replace q5 := eq_true q5
           go_wp2
           go_roundg k1
           case measure => have := HK1.out; omega
           case rel => exact ⟨(wrap64 (x8_1 + 1)), qF, H', ⟨by have := HK1.out; omega⟩, by repeat (first | exact Drawn0.refl _ | apply Drawn0.step)⟩
          ·rw [if_neg c25] at H
           have c25b0 : ((bt a0 x8_1) == 95) = false := beq_eq_false_iff_ne.mpr c25
           have c25b1 : ((bt a0 x8_1) != 95) = true := bne_iff_ne.mpr c25
           by_cases c26 : ((bt a0 x8_1) = 36)
           ·rw [if_pos c26] at H
            have c26b0 : ((bt a0 x8_1) == 36) = true := beq_iff_eq.mpr c26
            have c26b1 : ((bt a0 x8_1) != 36) = false := bne_eq_false_iff_eq.mpr c26
            clear c26
            have H' := Aside0.mk H
            clear H
            have p5 : 0 ≤ (x8_1 : Int) := of_decide_eq_true qO
            have q5 : x8_1 < (a0.size : Int) := of_decide_eq_true qO
            have hx5 := bt_at a0 x8_1
            replace p5 := eq_true p5
            replace q5 := eq_true q5
            go_wp2
            go_roundg k1
            case measure => have := HK1.out; omega
            case rel => exact ⟨(wrap64 (x8_1 + 1)), qF, H', ⟨by have := HK1.out; omega⟩, by repeat (first | exact Drawn0.refl _ | apply Drawn0.step)⟩
           ·rw [if_neg c26] at H
            have c26b0 : ((bt a0 x8_1) == 36) = false := beq_eq_false_iff_ne.mpr c26
            have c26b1 : ((bt a0 x8_1) != 36) = true := bne_iff_ne.mpr c26
            by_cases c27 : x8_1 = 0
            ·rw [if_pos c27] at H
             have c27b0 : (x8_1 == 0) = true := beq_iff_eq.mpr c27
             have c27b1 : (x8_1 != 0) = false := bne_eq_false_iff_eq.mpr c27
             clear c27
             obtain rfl := Option.some.inj H
             have p5 : 0 ≤ (x8_1 : Int) := of_decide_eq_true qO
             have q5 : x8_1 < (a0.size : Int) := of_decide_eq_true qO
             have hx5 := bt_at a0 x8_1
             replace p5 := eq_true p5
             replace q5 := eq_true q5
             go_wp2
             go_ret
             exact ⟨qF, by repeat (first | exact Drawn0.refl _ | apply Drawn0.step)⟩
            ·rw [if_neg c27] at H
             have c27b0 : (x8_1 == 0) = false := beq_eq_false_iff_ne.mpr c27
             have c27b1 : (x8_1 != 0) = true := bne_iff_ne.mpr c27
             by_cases c28 : (bt a0 x8_1) < 48
             ·rw [if_pos c28] at H
              have c28b0 : decide ((bt a0 x8_1) < 48) = true := decide_eq_true c28
              clear c28
              obtain rfl := Option.some.inj H
              have p5 : 0 ≤ (x8_1 : Int) := of_decide_eq_true qO
              have q5 : x8_1 < (a0.size : Int) := of_decide_eq_true qO
              have hx5 := bt_at a0 x8_1
              replace p5 := eq_true p5
              replace q5 := eq_true q5
              go_wp2
              go_ret
              exact ⟨qF, by repeat (first | exact Drawn0.refl _ | apply Drawn0.step)⟩
             ·rw [if_neg c28] at H
              have c28b0 : decide ((bt a0 x8_1) < 48) = false := decide_eq_false c28
              clear c28
              by_cases c29 : (bt a0 x8_1) > 57
              ·rw [if_pos c29] at H
               have c29b0 : decide (57 < (bt a0 x8_1)) = true := decide_eq_true c29
               clear c29
               obtain rfl := Option.some.inj H
               have p5 : 0 ≤ (x8_1 : Int) := of_decide_eq_true qO
               have q5 : x8_1 < (a0.size : Int) := of_decide_eq_true qO
               have hx5 := bt_at a0 x8_1
               replace p5 := eq_true p5
               replace q5 := eq_true q5
               go_wp2
               go_ret
               exact ⟨qF, by repeat (first | exact Drawn0.refl _ | apply Drawn0.step)⟩
              ·rw [if_neg c29] at H
               have c29b0 : decide (57 < (bt a0 x8_1)) = false := decide_eq_false c29
               clear c29
               have H' := Aside0.mk H
               clear H
               have p5 : 0 ≤ (x8_1 : Int) := of_decide_eq_true qO
               have q5 : x8_1 < (a0.size : Int) := of_decide_eq_true qO
               have hx5 := bt_at a0 x8_1
               replace p5 := eq_true p5
               replace q5 := eq_true q5
               go_wp2
               go_roundg k1
               case measure => have := HK1.out; omega
               case rel => exact ⟨(wrap64 (x8_1 + 1)), qF, H', ⟨by have := HK1.out; omega⟩, by repeat (first | exact Drawn0.refl _ | apply Drawn0.step)⟩
       ·rw [if_neg c22] at H
        have c22b0 : decide (65 ≤ (bt a0 x8_1)) = false := decide_eq_false c22
        clear c22
        by_cases c30 : (bt a0 x8_1) = 46
        ·rw [if_pos c30] at H
         have c30b0 : ((bt a0 x8_1) == 46) = true := beq_iff_eq.mpr c30
         have c30b1 : ((bt a0 x8_1) != 46) = false := bne_eq_false_iff_eq.mpr c30
         clear c30
         have H' := Aside0.mk H
         clear H
         have p5 : 0 ≤ (x8_1 : Int) := of_decide_eq_true qO
         have q5 : x8_1 < (a0.size : Int) := of_decide_eq_true qO
         have hx5 := bt_at a0 x8_1
         replace p5 := eq_true p5
         replace q5 := eq_true q5
         go_wp2
         go_roundg k1
         case measure => have := HK1.out; omega
         case rel => exact ⟨(wrap64 (x8_1 + 1)), qF, H', ⟨by have := HK1.out; omega⟩, by repeat (first | exact Drawn0.refl _ | apply Drawn0.step)⟩
        ·rw [if_neg c30] at H
         have c30b0 : ((bt a0 x8_1) == 46) = false := beq_eq_false_iff_ne.mpr c30
         have c30b1 : ((bt a0 x8_1) != 46) = true := bne_iff_ne.mpr c30
         by_cases c31 : (bt a0 x8_1) = 95
         ·rw [if_pos c31] at H
          have c31b0 : ((bt a0 x8_1) == 95) = true := beq_iff_eq.mpr c31
          have c31b1 : ((bt a0 x8_1) != 95) = false := bne_eq_false_iff_eq.mpr c31
          clear c31
          have H' := Aside0.mk H
          clear H
          have p5 : 0 ≤ (x8_1 : Int) := of_decide_eq_true qO
          have q5 : x8_1 < (a0.size : Int) := of_decide_eq_true qO
          have hx5 := bt_at a0 x8_1
          replace p5 := eq_true p5
          replace q5 := eq_true q5
          go_wp2
          go_roundg k1
          case measure => have := HK1.out; omega
          case rel => exact ⟨(wrap64 (x8_1 + 1)), qF, H', ⟨by have := HK1.out; omega⟩, by repeat (first | exact Drawn0.refl _ | apply Drawn0.step)⟩
         ·rw [if_neg c31] at H
          have c31b0 : ((bt a0 x8_1) == 95) = false := beq_eq_false_iff_ne.mpr c31
          have c31b1 : ((bt a0 x8_1) != 95) = true := bne_iff_ne.mpr c31
          by_cases c32 : ((bt a0 x8_1) = 36)
          ·rw [if_pos c32] at H
           have c32b0 : ((bt a0 x8_1) == 36) = true := beq_iff_eq.mpr c32
           have c32b1 : ((bt a0 x8_1) != 36) = false := bne_eq_false_iff_eq.mpr c32
           clear c32
           have H' := Aside0.mk H
           clear H
           have p5 : 0 ≤ (x8_1 : Int) := of_decide_eq_true qO
           have q5 : x8_1 < (a0.size : Int) := of_decide_eq_true qO
           have hx5 := bt_at a0 x8_1
           replace p5 := eq_true p5
           replace q5 := eq_true q5
           go_wp2
           go_roundg k1
           case measure => have := HK1.out; omega
           case rel => exact ⟨(wrap64 (x8_1 + 1)), qF, H', ⟨by have := HK1.out; omega⟩, by repeat (first | exact Drawn0.refl _ | apply Drawn0.step)⟩
          ·rw [if_neg c32] at H
           have c32b0 : ((bt a0 x8_1) == 36) = false := beq_eq_false_iff_ne.mpr c32
           have c32b1 : ((bt a0 x8_1) != 36) = true := bne_iff_ne.mpr c32
           by_cases c33 : x8_1 = 0
           ·rw [if_pos c33] at H
            have c33b0 : (x8_1 == 0) = true := beq_iff_eq.mpr c33
            have c33b1 : (x8_1 != 0) = false := bne_eq_false_iff_eq.mpr c33
            clear c33
            obtain rfl := Option.some.inj H
            have p5 : 0 ≤ (x8_1 : Int) := of_decide_eq_true qO
            have q5 : x8_1 < (a0.size : Int) := of_decide_eq_true qO
            have hx5 := bt_at a0 x8_1
            replace p5 := eq_true p5
            replace q5 := eq_true q5
            go_wp2
            go_ret
            exact ⟨qF, by repeat (first | exact Drawn0.refl _ | apply Drawn0.step)⟩
           ·rw [if_neg c33] at H
            have c33b0 : (x8_1 == 0) = false := beq_eq_false_iff_ne.mpr c33
            have c33b1 : (x8_1 != 0) = true := bne_iff_ne.mpr c33
            by_cases c34 : (bt a0 x8_1) < 48
            ·rw [if_pos c34] at H
             have c34b0 : decide ((bt a0 x8_1) < 48) = true := decide_eq_true c34
             clear c34
             obtain rfl := Option.some.inj H
             have p5 : 0 ≤ (x8_1 : Int) := of_decide_eq_true qO
             have q5 : x8_1 < (a0.size : Int) := of_decide_eq_true qO
             have hx5 := bt_at a0 x8_1
             replace p5 := eq_true p5
             replace q5 := eq_true q5
             go_wp2
             go_ret
             exact ⟨qF, by repeat (first | exact Drawn0.refl _ | apply Drawn0.step)⟩
            ·rw [if_neg c34] at H
             have c34b0 : decide ((bt a0 x8_1) < 48) = false := decide_eq_false c34
             clear c34
             by_cases c35 : (bt a0 x8_1) > 57
             ·rw [if_pos c35] at H
              have c35b0 : decide (57 < (bt a0 x8_1)) = true := decide_eq_true c35
              clear c35
              obtain rfl := Option.some.inj H
              have p5 : 0 ≤ (x8_1 : Int) := of_decide_eq_true qO
              have q5 : x8_1 < (a0.size : Int) := of_decide_eq_true qO
              have hx5 := bt_at a0 x8_1
              replace p5 := eq_true p5
              replace q5 := eq_true q5
              go_wp2
              go_ret
              exact ⟨qF, by repeat (first | exact Drawn0.refl _ | apply Drawn0.step)⟩
             ·rw [if_neg c35] at H
              have c35b0 : decide (57 < (bt a0 x8_1)) = false := decide_eq_false c35
              clear c35
              have H' := Aside0.mk H
              clear H
              have p5 : 0 ≤ (x8_1 : Int) := of_decide_eq_true qO
              have q5 : x8_1 < (a0.size : Int) := of_decide_eq_true qO
              have hx5 := bt_at a0 x8_1
              replace p5 := eq_true p5
              replace q5 := eq_true q5
              go_wp2
              go_roundg k1
              case measure => have := HK1.out; omega
              case rel => exact ⟨(wrap64 (x8_1 + 1)), qF, H', ⟨by have := HK1.out; omega⟩, by repeat (first | exact Drawn0.refl _ | apply Drawn0.step)⟩
     ·rw [if_neg c4] at H
      exact absurd H (by simp)
    ·rw [if_neg c3] at H
     exact absurd H (by simp)
   ·rw [if_neg c2] at H
    have c2b0 : decide (x8_1 < (a0.size : Int)) = false := decide_eq_false c2
    clear c2
    by_cases c36 : (a0.size : Int) ≥ 1
    ·rw [if_pos c36] at H
     have c36b0 : decide (1 ≤ (a0.size : Int)) = true := decide_eq_true c36
     have c36b1 : decide (1 ≤ a0.size) = true := decide_eq_true (by omega)
     clear c36
     obtain rfl := Option.some.inj H
     go_wp2
     go_ret
     exact ⟨qF, by repeat (first | exact Drawn0.refl _ | apply Drawn0.step)⟩
    ·rw [if_neg c36] at H
     have c36b0 : decide (1 ≤ (a0.size : Int)) = false := decide_eq_false c36
     have c36b1 : decide (1 ≤ a0.size) = false := decide_eq_false (by omega)
     clear c36
     obtain rfl := Option.some.inj H
     go_wp2
     go_ret
     exact ⟨qF, by repeat (first | exact Drawn0.refl _ | apply Drawn0.step)⟩

-- NOT PRINTED: function 50 (api_Output_50)

-- NOT PRINTED: function 47 (api_Output_47)

/-! ### where a predicate first holds -/
def fidx {α : Type} (p : α → Bool) (l : List α) : Int := match l.findIdx? p with | some i => (i : Int) | none => -1
theorem fidx_hit {α : Type} (p : α → Bool) (l : List α) (i : Nat) (x : α) (hx : l[i]? = some x) (hp : p x = true) (hn : ∀ j y, j < i → l[j]? = some y → p y = false) : fidx p l = i := by
  unfold fidx
  have : l.findIdx? p = some i := by
    rw [List.findIdx?_eq_some_iff_getElem]
    obtain ⟨hi, rfl⟩ := List.getElem?_eq_some_iff.1 hx
    exact ⟨hi, hp, fun j hj => by simpa using hn j _ hj (List.getElem?_eq_getElem (by omega))⟩
  rw [this]
theorem fidx_miss {α : Type} (p : α → Bool) (l : List α) (hn : ∀ j y, j < l.length → l[j]? = some y → p y = false) : fidx p l = -1 := by
  unfold fidx
  have : l.findIdx? p = none := by
    rw [List.findIdx?_eq_none_iff]
    intro x hx
    obtain ⟨j, hj, rfl⟩ := List.mem_iff_getElem.1 hx
    exact hn j _ hj (List.getElem?_eq_getElem hj)
  rw [this]

/-! ### slices.IndexFunc, function 50, at whatever function value that tells a predicate -/
set_option maxHeartbeats 4000000 in
set_option maxRecDepth 100000 in
theorem idx50 (A0 : Option Addr) (c0 : Nat) (l0 : List (S60)) (gf : Nat) (lb : Array Value) (p : S60 → Bool) (w : World) (hr0 : Kd.C k60 w A0 l0.length l0)
    (eg : ∀ args w, (callFunc gf args).run Try.prog w = .ok (.enter gf args) w)
    (hp : ∀ (W : World) (x : S60) (cs : List Value), Below w.heap.size w W → (k60).K W x cs → Calls Try.prog gf (#[.agg cs.toArray] ++ lb) W fun e w' => e = .returned (.bool (p x)) ∧ Below W.heap.size W w') :
    Calls Try.prog 50 #[.slice A0 l0.length c0, .func (.func gf) #[] lb] w fun e w' => e = .returned (.int .i64 (fidx p l0)) ∧ Below w.heap.size w w' := by
  have hbig := hr0.2.1
  have HR := Aside0.mk hr0
  have HP := Aside0.mk hp
  clear hr0 hp
  go_enter Try.func50, Try.ntmps50
  go_wp2
  go_loopg [5, 8] l0.length (fun gg _ s8 wr => ∃ kk : Nat, kk ≤ l0.length ∧ l0.length - kk ≤ gg ∧ s8 = .int .i64 kk ∧ Aside0 (Below w.heap.size w wr) ∧ Aside0 (∀ j y, j < kk → l0[j]? = some y → p y = false))
  case atStart => exact ⟨0, Nat.zero_le _, by omega, rfl, ⟨Below.refl _ w⟩, ⟨fun j y hj => absurd hj (Nat.not_lt_zero _)⟩⟩
  case round =>
    obtain ⟨kk, hkk, hg, rfl, BW, A⟩ := hrel
    by_cases hlt : kk < l0.length
    · obtain ⟨ad, c, e, hcl, hK, hcell⟩ := Kd.C_get HR.out z60 (kk : Int) (by omega) (by omega)
      rw [Int.toNat_natCast] at hK hcell
      have hy : l0[kk]? = some (l0.getD kk z60) := by rw [List.getD_eq_getElem?_getD, List.getElem?_eq_getElem hlt]; rfl
      have HY := Aside0.mk hy
      clear hy
      have hcall := HP.out wr _ c BW.out ((k60).K_below BW.out hK)
      have hz : c.length = 4 := hcl
      obtain ⟨v0, v1, v2, v3, rfl⟩ : ∃ v0 v1 v2 v3, c = [v0, v1, v2, v3] := by
        match c, hz with
        | [v0, v1, v2, v3], _ => exact ⟨v0, v1, v2, v3, rfl⟩
      subst e
      have x0 : wr.cell? (ad.add (kk * 4)) = some v0 := pw_cell_below BW.out (hcell 0 v0 rfl)
      have x1 : wr.cell? ⟨(ad.add (kk * 4)).block, (ad.add (kk * 4)).off + 1, none⟩ = some v1 := pw_cell_below BW.out (by rw [← add_field _ _ 1 (by omega)]; exact hcell 1 _ rfl)
      have x2 : wr.cell? ⟨(ad.add (kk * 4)).block, (ad.add (kk * 4)).off + 2, none⟩ = some v2 := pw_cell_below BW.out (by rw [← add_field _ _ 2 (by omega)]; exact hcell 2 _ rfl)
      have x3 : wr.cell? ⟨(ad.add (kk * 4)).block, (ad.add (kk * 4)).off + 3, none⟩ = some v3 := pw_cell_below BW.out (by rw [← add_field _ _ 3 (by omega)]; exact hcell 3 _ rfl)
      clear hcell hK hcl hz
      generalize l0.getD kk z60 = y at hcall HY
      have HC := Aside0.mk hcall
      clear hcall
      have hlti : (kk : Int) < (l0.length : Int) := by omega
      cases hq : p y with
      | true =>
        rw [hq] at HC
        have HQ := Aside0.mk hq
        clear hq
        go_wp2_with fail
        refine HC.out.mono ?_
        rintro e w' ⟨rfl, hb'⟩
        have HB' := Aside0.mk hb'
        clear hb'
        go_wp2
        go_ret
        exact ⟨by rw [fidx_hit p l0 kk y HY.out HQ.out A.out]; rfl, below_step BW.out HB'.out⟩
      | false =>
        rw [hq] at HC
        have HQ := Aside0.mk hq
        clear hq
        go_wp2_with fail
        refine HC.out.mono ?_
        rintro e w' ⟨rfl, hb'⟩
        have HB' := Aside0.mk hb'
        clear hb'
        go_wp2
        go_roundg (l0.length - (kk + 1))
        case measure => omega
        case rel =>
          refine ⟨kk + 1, by omega, by omega, by go_num, ⟨below_step BW.out HB'.out⟩, ⟨fun j y' hj hy' => ?_⟩⟩
          by_cases e : j = kk
          · subst e
            have := HY.out.symm.trans hy'
            injection this with this
            subst this
            exact HQ.out
          · exact A.out j y' (by omega) hy'
    · have hlti : ¬ (kk : Int) < (l0.length : Int) := by omega
      have : kk = l0.length := by omega
      subst this
      go_wp2
      go_ret
      exact ⟨by rw [fidx_miss p l0 A.out]; rfl, BW.out⟩

/-! ### slices.ContainsFunc, function 47, at whatever function value that tells a predicate -/
set_option maxHeartbeats 2000000 in
set_option maxRecDepth 100000 in
theorem cont47 (A0 : Option Addr) (c0 : Nat) (l0 : List (S60)) (gf : Nat) (lb : Array Value) (p : S60 → Bool) (w : World) (hr0 : Kd.C k60 w A0 l0.length l0)
    (eg : ∀ args w, (callFunc gf args).run Try.prog w = .ok (.enter gf args) w)
    (hp : ∀ (W : World) (x : S60) (cs : List Value), Below w.heap.size w W → (k60).K W x cs → Calls Try.prog gf (#[.agg cs.toArray] ++ lb) W fun e w' => e = .returned (.bool (p x)) ∧ Below W.heap.size W w') :
    Calls Try.prog 47 #[.slice A0 l0.length c0, .func (.func gf) #[] lb] w fun e w' => e = .returned (.bool (decide (fidx p l0 ≥ 0))) ∧ Below w.heap.size w w' := by
  have HI := Aside0.mk (idx50 A0 c0 l0 gf lb p w hr0 eg hp)
  clear hr0 hp eg
  go_enter Try.func47, Try.ntmps47
  go_wp2_with fail
  refine HI.out.mono ?_
  rintro e w' ⟨rfl, hb'⟩
  have HB' := Aside0.mk hb'
  clear hb'
  go_wp2
  go_ret
  exact ⟨rfl, HB'.out⟩

/-! ### cf47_48: function 47 at the closure 48: is a field equal to the captured variable's field -/
set_option maxHeartbeats 2000000 in
set_option maxRecDepth 100000 in
theorem clo48 (g : Nat) (cs : Array Value) (b : ByteArray) (x : S60) (W : World) (hb : W.heap[g]? = some (.cells cs 60 (0, 0))) (h0 : cs[0]? = some (.string b)) :
    Calls Try.prog 48 #[.agg #[.string x.f0, .int .i64 x.f1, .int .i64 x.f2, .int .i64 x.f3], .pointer (some ⟨g, 0, none⟩)] W fun e w' => e = .returned (.bool (x.f0.toList == b.toList)) ∧ Below W.heap.size W w' := by
  have hc : W.cell? ⟨g, 0, none⟩ = some (.string b) := (blk_cell hb 0).trans h0
  have hc' : (W.alloc (.cells #[.string x.f0, .int .i64 x.f1, .int .i64 x.f2, .int .i64 x.f3] 60)).cell? ⟨g, 0, none⟩ = some (.string b) := pw_cell_below (below_alloc (Below.refl _ _) _) hc
  clear hb h0 hc
  go_enter Try.func48, Try.ntmps48
  go_wp2
  go_ret
  exact ⟨rfl, (Below.refl _ _).alloc (Nat.le_refl _) _⟩
def cf47_48.f (l0 : List (S60)) (a1 : ByteArray) : Option Bool := some (decide (fidx (fun x : S60 => x.f0.toList == a1.toList) l0 ≥ 0))
theorem cf47_48.calls (A0 : Option Addr) (c0 : Nat) (l0 : List (S60)) (g : Nat) (cs : Array Value) (a1 : ByteArray) (r : Bool) (w : World) (hr0 : Kd.C k60 w A0 l0.length l0) (hc0 : l0.length ≤ c0) (hb : w.heap[g]? = some (.cells cs 60 (0, 0))) (h0 : cs[0]? = some (.string a1)) (h : cf47_48.f l0 a1 = some r) :
    Calls Try.prog 47 #[.slice A0 l0.length c0, .func (.func 48) #[] #[.pointer (some ⟨g, 0, none⟩)]] w fun e w' => e = .returned (.bool r) ∧ Below w.heap.size w w' := by
  obtain rfl := Option.some.inj h
  refine cont47 A0 c0 l0 48 #[.pointer (some ⟨g, 0, none⟩)] (fun x : S60 => x.f0.toList == a1.toList) w hr0 (Go.Proofs.enters_of Try.func48 (by kernel_rfl) rfl) ?_
  intro W x c hB hK
  have hlt := blk_lt hb
  have hb' : W.heap[g]? = some (.cells cs 60 (0, 0)) := (hB.block g hlt).trans hb
  obtain rfl := k60_open hK
  exact clo48 g cs a1 x W hb' h0

end Go.Proofs.Ytnbeamaoblmbhaa.PPlace
