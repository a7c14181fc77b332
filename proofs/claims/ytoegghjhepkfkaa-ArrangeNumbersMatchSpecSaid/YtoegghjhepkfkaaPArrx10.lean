/- Written by a program of this session, for the law(s) Arr: contracts of the Go functions that the law reaches, each against a plain Lean function. No condition. -/
import Derived.Test.YtoegghjhepkfkaaPArrx0
import Derived.Test.YtoegghjhepkfkaaStH
import Derived.Test.YtoegghjhepkfkaaPArrx6
import Derived.Test.YtoegghjhepkfkaaPArrx9
namespace Go.Proofs.Ytoegghjhepkfkaa.PArr
open Go.RowKit Go.Proofs.YtoegghjhepkfkaaW.PrintWords Go.Proofs.YtoegghjhepkfkaaW.PrintLast Go.Proofs.YtoegghjhepkfkaaW.PrintMore
attribute [local go_sem] max2_int min2_int max_two min_two max_three min_three max_four min_four   -- for this text's walks alone
set_option linter.unusedVariables false
set_option linter.unusedSimpArgs false

/-! ### arrange_Inverse: function 16 -/
/-- 'out[k] = i' for each place i from j on -/
def invGo : Nat → List Int → List Int → List Int
  | _, [], out => out
  | j, k :: ks, out => invGo (j + 1) ks (out.set k.toNat (j : Int))
def isOrder (l0 : List Int) : Bool := decide (l0.mergeSort (fun x y => decide (x ≤ y)) = (List.range l0.length).map fun x : Nat => (x : Int))
def arrange_Inverse.f (l0 : List Int) : Option (List Int × Int × Int) :=
  some (if l0.length > 200 then ([], 2, -1) else if isOrder l0 = true then (invGo 0 l0 (List.replicate l0.length 0), 0, 0) else ([], 5, -2))
theorem equal_l0 (xs ys : List Int) (he : xs.length = ys.length) (hl : xs.length < 1000000) : ∀ (m i : Nat), xs.length - i = m → i ≤ xs.length → ∀ k, m < k →
    slices_Equal_int_int.l0 k xs ys (xs.length : Int) (i : Int) = some (decide (xs.drop i = ys.drop i))
  | 0, i, hm, hi, k, hk => by
    obtain ⟨k, rfl⟩ : ∃ q, k = q + 1 := ⟨k - 1, by omega⟩
    have : i = xs.length := by omega
    subst this
    simp only [slices_Equal_int_int.l0]
    rw [if_neg (by omega)]
    congr 1
    rw [eq_comm, decide_eq_true_eq, List.drop_length, he, List.drop_length]
  | m + 1, i, hm, hi, k, hk => by
    obtain ⟨k, rfl⟩ : ∃ q, k = q + 1 := ⟨k - 1, by omega⟩
    have h1 : i < xs.length := by omega
    have h2 : i < ys.length := by omega
    have d1 : xs.drop i = xs[i] :: xs.drop (i + 1) := List.drop_eq_getElem_cons h1
    have d2 : ys.drop i = ys[i] :: ys.drop (i + 1) := List.drop_eq_getElem_cons h2
    have r1 : rd xs (i : Int) = xs[i] := by unfold rd; simp [List.getD, List.getElem?_eq_getElem h1]
    have r2 : rd ys (i : Int) = ys[i] := by unfold rd; simp [List.getD, List.getElem?_eq_getElem h2]
    simp only [slices_Equal_int_int.l0]
    rw [if_pos (by omega), if_pos (by omega), if_pos (by omega), if_pos (by omega), r1, r2, show wrap64 ((i : Int) + 1) = ((i + 1 : Nat) : Int) by unfold wrap64; omega]
    have ih := equal_l0 xs ys he hl m (i + 1) (by omega) (by omega) k (by omega)
    by_cases h : xs[i] = ys[i]
    · rw [if_pos h, ih]
      congr 1
      exact decide_eq_decide.2 (by rw [d1, d2, List.cons.injEq]; exact ⟨fun q => ⟨h, q⟩, fun q => q.2⟩)
    · rw [if_neg h]
      congr 1
      rw [eq_comm, decide_eq_false_iff_not, d1, d2, List.cons.injEq]
      exact fun q => h q.1
theorem equal_of (xs ys : List Int) (he : xs.length = ys.length) (hl : xs.length < 1000000) (A0 : Option Addr) (c0 : Nat) (A1 : Option Addr) (c1 : Nat) (w : World) (hr0 : Kd.C (Kd.int .i64) w A0 xs.length xs) (hc0 : xs.length ≤ c0) (hr1 : Kd.C (Kd.int .i64) w A1 ys.length ys) (hc1 : ys.length ≤ c1) :
    Calls Try.prog 25 #[.slice A0 xs.length c0, .slice A1 ys.length c1] w fun e w' => e = .returned (.bool (decide (xs = ys))) ∧ Drawn0 w w' :=
  slices_Equal_int_int.calls (xs.length + 1) A0 c0 xs A1 c1 ys _ w hr0 hc0 hr1 hc1 (by
    unfold slices_Equal_int_int.f
    rw [if_pos (by omega)]
    have := equal_l0 xs ys he hl xs.length 0 (by omega) (by omega) (xs.length + 1) (by omega)
    simpa using this)
theorem order_mem {l0 : List Int} (h : isOrder l0 = true) (x : Int) (hx : x ∈ l0) : 0 ≤ x ∧ x < l0.length := by
  unfold isOrder at h
  rw [decide_eq_true_eq] at h
  have : x ∈ l0.mergeSort fun x y => decide (x ≤ y) := List.mem_mergeSort.2 hx
  rw [h] at this
  obtain ⟨j, hj, rfl⟩ := List.mem_map.1 this
  have := List.mem_range.1 hj
  omega
theorem invGo_length : ∀ (ks : List Int) (j : Nat) (out : List Int), (invGo j ks out).length = out.length
  | [], _, _ => rfl
  | k :: ks, j, out => by rw [invGo, invGo_length, List.length_set]
set_option maxHeartbeats 8000000 in
set_option maxRecDepth 100000 in
theorem arrange_Inverse.calls (A0 : Option Addr) (c0 : Nat) (l0 : List Int) (r1 : List Int) (r2 : Int) (r3 : Int) (w : World) (hr0 : Kd.C (Kd.int .i64) w A0 l0.length l0) (hc0 : l0.length ≤ c0) (h : arrange_Inverse.f l0 = some (r1, r2, r3)) :
    Calls Try.prog 16 #[.slice A0 l0.length c0] w fun e w' => ∃ v0_ : Value, e = .returned (.tuple #[v0_, .agg #[.int .i64 r2, .int .i64 r3]]) ∧ Kd.R (Kd.int .i64) 3 w' w.heap.size (fun _ => True) v0_ r1 ∧ Below w.heap.size w w' := by
  have hu24 := Try.underlying24
  have H : (if l0.length > 200 then (([] : List Int), (2 : Int), (-1 : Int)) else if isOrder l0 = true then (invGo 0 l0 (List.replicate l0.length 0), 0, 0) else ([], 5, -2)) = (r1, r2, r3) := Option.some.inj h
  clear h
  have HR0 := Aside0.mk hr0
  have hbig := hr0.2.1
  clear hr0 hc0
  by_cases hn : l0.length > 200
  · rw [if_pos hn] at H
    simp only [Prod.mk.injEq] at H
    obtain ⟨rfl, rfl, rfl⟩ := H
    have hnz : (l0.length : Int) > 200 := by omega
    go_enter Try.func16, Try.ntmps16
    go_wp2
    refine bodyPost_ret (results_tc rfl _ _ w.heap.size 24 #[.int .i64 2, .int .i64 (-1)] (0, 0) _ rfl (blk_new w (.cells #[.int .i64 2, .int .i64 (-1)] 24)) Try.underlying24 rfl (by kernel_rfl)) rfl ?_
    exact ⟨_, rfl, Kd.R_nil _ _ _ _ _, (Below.refl _ w).alloc (Nat.le_refl _) _⟩
  · rw [if_neg hn] at H
    have HH := Aside0.mk H
    clear H
    have hnz : ¬ (l0.length : Int) > 200 := by omega
    go_enter Try.func16, Try.ntmps16
    go_upto_region 3 with fail
    obtain ⟨wA, hwA⟩ : ∃ wA, wA = w.alloc (.cells #[.int .i64 0, .int .i64 0] 24) := ⟨_, rfl⟩
    rw [← hwA]
    have BF : Aside0 (wA.heap[w.heap.size]? = some (.cells #[.int .i64 0, .int .i64 0] 24 (0, 0))) := ⟨by rw [hwA]; exact blk_new w _⟩
    have BB : Aside0 (Below w.heap.size w wA) := ⟨by rw [hwA]; exact (Below.refl _ w).alloc (Nat.le_refl _) _⟩
    have hsA : w.heap.size + 1 = wA.heap.size := by rw [hwA]; simp
    have SA : Aside0 (w.heap.size + 1 = wA.heap.size) := ⟨hsA⟩
    clear hwA hsA
    go_wp2_with fail
    refine (Srt.values_calls A0 l0.length c0 wA).mono ?_
    rintro e w1 ⟨rfl, rfl⟩
    obtain ⟨wB, hwB⟩ : ∃ wB, wB = wA.alloc (.cells #[.slice A0 l0.length c0] 27) := ⟨_, rfl⟩
    rw [← hwB]
    have hbS : wB.heap[wA.heap.size]? = some (.cells #[.slice A0 l0.length c0] 27 (0, 0)) := by rw [hwB]; exact blk_new wA _
    have BF1 : Aside0 (wB.heap[w.heap.size]? = some (.cells #[.int .i64 0, .int .i64 0] 24 (0, 0))) := ⟨by rw [hwB]; exact blk_alloc BF.out _⟩
    have BB1 : Aside0 (Below w.heap.size w wB) := ⟨by rw [hwB]; exact BB.out.alloc (by have := SA.out; omega) _⟩
    have SB : Aside0 (wA.heap.size + 1 = wB.heap.size) := ⟨by rw [hwB]; simp⟩
    have c1 := Srt.sorted_calls wA.heap.size A0 c0 l0 (by omega) wB (by have := SB.out; omega) ((blk_cell hbS 0).trans rfl) (Kd.C_below HR0.out BB1.out)
    clear hwB hbS BF BB
    go_wp2_with fail
    refine c1.mono ?_
    clear c1
    rintro e w2 ⟨v, rfl, hv, hb2⟩
    have BF2 : Aside0 (w2.heap[w.heap.size]? = some (.cells #[.int .i64 0, .int .i64 0] 24 (0, 0))) := ⟨blk_below BF1.out hb2⟩
    have BB2 : Aside0 (Below w.heap.size w w2) := ⟨BB1.out.trans (hb2.mono BB1.out.size)⟩
    have HV := Aside0.mk hv
    clear hv hb2 BF1 BB1
    go_wp2_with fail
    refine (identity_of l0.length (by omega) w2).mono ?_
    rintro e w3 ⟨v', rfl, hv', hb3⟩
    have BF3 : Aside0 (w3.heap[w.heap.size]? = some (.cells #[.int .i64 0, .int .i64 0] 24 (0, 0))) := ⟨blk_below BF2.out hb3⟩
    have BB3 : Aside0 (Below w.heap.size w w3) := ⟨BB2.out.trans (hb3.mono BB2.out.size)⟩
    obtain ⟨A1, c1, rfl, hc1, hC1⟩ := Kd.R_reads (Kd.R_below HV.out hb3)
    obtain ⟨A2, c2, rfl, hc2, hC2⟩ := Kd.R_reads hv'
    have ce := equal_of (l0.mergeSort fun x y => decide (x ≤ y)) ((List.range l0.length).map fun x : Nat => (x : Int)) (by simp) (by simp; omega) A1 c1 A2 c2 w3 hC1 hc1 hC2 hc2
    clear hc1 hC1 hc2 hC2 hv' hb3 HV BF2 BB2
    have eo : decide ((l0.mergeSort fun x y => decide (x ≤ y)) = (List.range l0.length).map fun x : Nat => (x : Int)) = isOrder l0 := rfl
    rw [eo] at ce
    clear eo
    simp only [List.length_mergeSort, List.length_map, List.length_range] at ce
    go_wp2_with fail
    refine ce.mono ?_
    clear ce
    rintro e w4 ⟨rfl, hd⟩
    have BF4 : Aside0 (w4.heap[w.heap.size]? = some (.cells #[.int .i64 0, .int .i64 0] 24 (0, 0))) := ⟨blk_below BF3.out hd.below⟩
    have BB4 : Aside0 (Below w.heap.size w w4) := ⟨BB3.out.trans (hd.below.mono BB3.out.size)⟩
    clear hd BF3 BB3
    obtain ⟨f0, f1, z0, z1⟩ := blkC2 BF4.out
    cases ho : isOrder l0 with
    | false =>
      have HH1 := HH.out
      rw [ho, if_neg (by simp)] at HH1
      simp only [Prod.mk.injEq] at HH1
      obtain ⟨rfl, rfl, rfl⟩ := HH1
      have HF2 : Aside0 (((w4.setCell ⟨w.heap.size, 0, none⟩ (.int .i64 5)).setCell ⟨w.heap.size, 1, none⟩ (.int .i64 (-2))).heap[w.heap.size]? = some (.cells #[.int .i64 5, .int .i64 (-2)] 24 (0, 0))) := ⟨by
        refine blk_put (cs := #[.int .i64 5, .int .i64 0]) ?_ 1 _ rfl
        refine blk_put (cs := #[.int .i64 0, .int .i64 0]) ?_ 0 _ rfl
        exact BF4.out⟩
      clear ho
      go_wp2_with fail
      refine bodyPost_ret (results_tc rfl _ _ w.heap.size 24 #[.int .i64 5, .int .i64 (-2)] (0, 0) _ rfl HF2.out Try.underlying24 rfl (by kernel_rfl)) rfl ?_
      exact ⟨_, rfl, Kd.R_nil _ _ _ _ _, below_set (below_set BB4.out (Nat.le_refl _)) (Nat.le_refl _)⟩
    | true =>
      have HH1 := HH.out
      rw [ho, if_pos rfl] at HH1
      simp only [Prod.mk.injEq] at HH1
      obtain ⟨rfl, rfl, rfl⟩ := HH1
      have HO := Aside0.mk ho
      clear ho
      have ln0 : (0 : Int) ≤ (l0.length : Int) := by omega
      go_wp2_with (first | ((with_reducible refine gate_dst (N := 22) rfl ?_); refine Kd.R_make (Kd.int .i64) _ 3 rfl (N := 22) rfl 27 _ _ rfl (l0.length : Int) rfl rfl Try.underlying27 (.int .i64 0) 8 info3 rfl (by decide) (by omega) 0 (ok := fun _ => True) (okp := fun _ => True) rfl (fun _ hk => hk) trivial (by omega) (by rw [Int.toNat_natCast]; omega) (Below.refl _ _) (Nat.le_refl _) ?_; intro v109 w5 ho5 hb hg_ hnew_; clear hg_ hnew_; rw [Int.toNat_natCast] at ho5; obtain ⟨Ao, co, eo⟩ := Kd.R_slice ho5; rw [List.length_replicate] at eo; subst eo; refine up3 (am (Kd.R_lower ho5 BB4.out.size)) (am (blk_below BF4.out hb)) (am (BB4.out.trans (hb.mono BB4.out.size))) ?_; clear hb ho5 f0 f1 z0 z1 BF4 BB4; intro HO5 BF5 BB5))
      go_loopg [5, 6, 25] l0.length (fun gg _ _ v25 wr => ∃ (i : Nat) (out : List Int), v25 = .int .i64 i ∧ i ≤ l0.length ∧ l0.length - i ≤ gg ∧ out.length = l0.length ∧ Aside0 (Kd.R (Kd.int .i64) 3 wr w.heap.size (fun _ => True) (.slice Ao l0.length co) out) ∧ Aside0 (wr.heap[w.heap.size]? = some (.cells #[.int .i64 0, .int .i64 0] 24 (0, 0))) ∧ Aside0 (Below w.heap.size w wr) ∧ Aside0 (invGo i (l0.drop i) out = invGo 0 l0 (List.replicate l0.length 0)))
      case atStart => exact ⟨0, List.replicate l0.length 0, rfl, Nat.zero_le _, by omega, by simp, HO5, BF5, BB5, ⟨rfl⟩⟩
      case round =>
        clear HO5 BF5 BB5
        obtain ⟨i, out, rfl, hi, hg, hol, HOut, BF5, BB5, HI⟩ := hrel
        by_cases hlt : i < l0.length
        · have px : (0 : Int) ≤ (i : Int) := by omega
          have qx : (i : Int) < (l0.length : Int) := by omega
          obtain ⟨ad, e, hcx⟩ := Kd.at_int (Kd.C_below HR0.out BB5.out) (i : Int) px qx
          subst e
          rw [Int.toNat_natCast] at hcx
          have ex : rd l0 (i : Int) = l0[i] := by unfold rd; simp [List.getD, List.getElem?_eq_getElem hlt]
          rw [ex] at hcx
          clear ex
          have hmem := order_mem HO.out l0[i] (List.getElem_mem hlt)
          have hdrop : l0.drop i = l0[i] :: l0.drop (i + 1) := List.drop_eq_getElem_cons hlt
          have HI1 := HI.out
          rw [hdrop, invGo] at HI1
          have HI2 := Aside0.mk HI1
          clear HI1 HI hdrop
          generalize l0[i] = x at hcx hmem HI2
          obtain ⟨p10, q10⟩ := hmem
          have q10' : x < (out.length : Int) := by omega
          have HOR := HOut.out
          rw [← hol] at HOR
          obtain ⟨go10, co10, eo10, gb10, gl10, cl10, HG10⟩ := Kd.R_form HOR (by omega)
          injection eo10 with ea_ en_ ec_
          subst ea_
          subst ec_
          clear en_
          have GB10 := Aside0.mk gb10
          have GG10 := Aside0.mk HG10
          clear gb10 gl10 HG10
          obtain ⟨hx10_0, hf10_0⟩ := Kd.R_celln 0 HOR x p10 q10'
          have HP11 := Kd.R_putg HOR x (i : Int)
          have hne : w.heap.size ≠ go10 := fun e => Kd.R_ne HOR BF5.out (by decide) (by rw [e]; rfl)
          have hput : Aside0 (Kd.R (Kd.int .i64) 3 (wr.setCell ⟨go10, x.toNat, none⟩ (.int .i64 (i : Int))) w.heap.size (fun _ => True) (.slice (some ⟨go10, 0, none⟩) l0.length co) (out.set x.toNat (i : Int))) := ⟨by have := HP11.1; rwa [hol] at this⟩
          have hblk : Aside0 ((wr.setCell ⟨go10, x.toNat, none⟩ (.int .i64 (i : Int))).heap[w.heap.size]? = some (.cells #[.int .i64 0, .int .i64 0] 24 (0, 0))) := ⟨(Below.heap_setCell _ _ _ _ hne).trans BF5.out⟩
          have hbel : Aside0 (Below w.heap.size w (wr.setCell ⟨go10, x.toNat, none⟩ (.int .i64 (i : Int)))) := ⟨below_set BB5.out GB10.out⟩
          clear HP11 HOR HOut hne
          have q10n : x < (l0.length : Int) := by omega
          go_wp2
          go_roundg (l0.length - (i + 1))
          case measure => omega
          case rel => exact ⟨i + 1, out.set x.toNat (i : Int), by go_num, by omega, Nat.le_refl _, by rw [List.length_set]; exact hol, hput, hblk, hbel, HI2⟩
        · have : i = l0.length := by omega
          subst this
          have hlz : ¬ (l0.length : Int) < (l0.length : Int) := by omega
          have HI1 := HI.out
          rw [List.drop_length, invGo] at HI1
          subst HI1
          obtain ⟨f0, f1, z0, z1⟩ := blkC2 BF5.out
          have HF2 : Aside0 (((wr.setCell ⟨w.heap.size, 0, none⟩ (.int .i64 0)).setCell ⟨w.heap.size, 1, none⟩ (.int .i64 0)).heap[w.heap.size]? = some (.cells #[.int .i64 0, .int .i64 0] 24 (0, 0))) := ⟨by
            refine blk_put (cs := #[.int .i64 0, .int .i64 0]) ?_ 1 _ rfl
            refine blk_put (cs := #[.int .i64 0, .int .i64 0]) ?_ 0 _ rfl
            exact BF5.out⟩
          have hq : ∀ q, q ∈ 3 :: (Kd.int .i64).E → q ≠ 24 := fun q hq => by
            simp [Kd.int, Kd.scalar] at hq
            omega
          have HR5 : Aside0 (Kd.R (Kd.int .i64) 3 ((wr.setCell ⟨w.heap.size, 0, none⟩ (.int .i64 0)).setCell ⟨w.heap.size, 1, none⟩ (.int .i64 0)) w.heap.size (fun _ => True) (.slice Ao l0.length co) (invGo 0 l0 (List.replicate l0.length 0))) := ⟨Kd.R_set (Kd.R_set HOut.out BF5.out hq 0 _) (blk_put (cs := #[.int .i64 0, .int .i64 0]) BF5.out 0 (.int .i64 0) rfl) hq 1 _⟩
          go_wp2
          refine bodyPost_ret (results_tc rfl _ _ w.heap.size 24 #[.int .i64 0, .int .i64 0] (0, 0) _ rfl HF2.out Try.underlying24 rfl (by kernel_rfl)) rfl ?_
          exact ⟨_, rfl, HR5.out, below_set (below_set BB5.out (Nat.le_refl _)) (Nat.le_refl _)⟩

end Go.Proofs.Ytoegghjhepkfkaa.PArr
