/- Written by a program of this session, for the law(s) Arr: contracts of the Go functions that the law reaches, each against a plain Lean function. No condition. -/
import Derived.Test.YtoegghjhepkfkaaPArrx0
import Derived.Test.YtoegghjhepkfkaaPArrx6
namespace Go.Proofs.Ytoegghjhepkfkaa.PArr
open Go.RowKit Go.Proofs.YtoegghjhepkfkaaW.PrintWords Go.Proofs.YtoegghjhepkfkaaW.PrintLast Go.Proofs.YtoegghjhepkfkaaW.PrintMore
attribute [local go_sem] max2_int min2_int max_two min_two max_three min_three max_four min_four   -- for this text's walks alone
set_option linter.unusedVariables false
set_option linter.unusedSimpArgs false

/-! ### arrange_ByWeights: function 15 -/
def badW (x : Int) : Bool := decide (x < 0) || decide (x > 1000000)
def weightOrder (l0 : List Int) : List Int :=
  ((List.range l0.length).mergeSort (fun x y => !(decide (l0.getD x 0 < l0.getD y 0 ∨ l0.getD x 0 = l0.getD y 0 ∧ y < x)))).map fun x : Nat => (x : Int)
def arrange_ByWeights.f (l0 : List Int) : Option (List Int × Int × Int) :=
  some (if l0.length > 200 then ([], 2, -1) else match l0.findIdx? badW with | some i => ([], 3, (i : Int)) | none => (weightOrder l0, 0, 0))
theorem bad_hit {l0 : List Int} {i : Nat} {x : Int} (hi : i < l0.length) (hx : l0.getD i 0 = x) (hb : badW x = true) (hg : ∀ j, j < i → badW (l0.getD j 0) = false) : l0.findIdx? badW = some i := by
  rw [List.findIdx?_eq_some_iff_getElem]
  have e : ∀ j (hj : j < l0.length), l0[j] = l0.getD j 0 := fun j hj => by simp [List.getD, List.getElem?_eq_getElem hj]
  exact ⟨hi, by rw [e i hi, hx]; exact hb, fun j hj => by rw [e j (by omega), hg j hj]; simp⟩
theorem bad_none {l0 : List Int} (hg : ∀ j, j < l0.length → badW (l0.getD j 0) = false) : l0.findIdx? badW = none := by
  rw [List.findIdx?_eq_none_iff]
  intro x hx
  obtain ⟨j, hj, rfl⟩ := List.mem_iff_getElem.1 hx
  have := hg j hj
  rwa [show l0.getD j 0 = l0[j] by simp [List.getD, List.getElem?_eq_getElem hj]] at this
theorem badW_no {x : Int} (h : badW x = false) : 0 ≤ x ∧ x ≤ 1000000 := by
  unfold badW at h
  simp only [Bool.or_eq_false_iff, decide_eq_false_iff_not] at h
  omega
set_option maxHeartbeats 4000000 in
set_option maxRecDepth 100000 in
/-- the closure that compares two weights -/
theorem heavy_calls {A0 : Option Addr} {c0 : Nat} {l0 : List Int} {bW : Nat} {W : World} (hW : W.heap[bW]? = some (.cells #[.slice A0 l0.length c0] 27 (0, 0))) (hr0 : Kd.C (Kd.int .i64) W A0 l0.length l0)
    (hb : ∀ z, z < l0.length → 0 ≤ l0.getD z 0 ∧ l0.getD z 0 ≤ 1000000) (x y : Nat) (hx : x < l0.length) (hy : y < l0.length) :
    Calls Try.prog 24 (#[.int .i64 (x : Int), .int .i64 (y : Int)] ++ #[.pointer (some ⟨bW, 0, none⟩)]) W fun e w' => e = .returned (.int .i64 (l0.getD y 0 - l0.getD x 0)) ∧ ∃ q, w' = W.drewN q := by
  have cW : W.cell? ⟨bW, 0, none⟩ = some (.slice A0 l0.length c0) := (blk_cell hW 0).trans rfl
  have px : (0 : Int) ≤ (x : Int) := by omega
  have qx : (x : Int) < (l0.length : Int) := by omega
  have py : (0 : Int) ≤ (y : Int) := by omega
  have qy : (y : Int) < (l0.length : Int) := by omega
  obtain ⟨ad, e, hcx⟩ := Kd.at_int hr0 (x : Int) px qx
  subst e
  obtain ⟨ad', e, hcy⟩ := Kd.at_int hr0 (y : Int) py qy
  injection e with e
  subst e
  rw [Int.toNat_natCast] at hcx hcy
  have ex : rd l0 (x : Int) = l0.getD x 0 := by unfold rd; rw [Int.toNat_natCast]
  have ey : rd l0 (y : Int) = l0.getD y 0 := by unfold rd; rw [Int.toNat_natCast]
  rw [ex] at hcx
  rw [ey] at hcy
  have bx := hb x hx
  have by' := hb y hy
  clear ex ey hb hr0 hW
  generalize l0.getD x 0 = p at hcx bx ⊢
  generalize l0.getD y 0 = q at hcy by' ⊢
  obtain ⟨bx1, bx2⟩ := bx
  obtain ⟨by1, by2⟩ := by'
  go_enter Try.func24, Try.ntmps24
  go_wp2
  go_quiet (fail)
  go_wp2
  go_ret
  exact ⟨rfl, _, rfl⟩
set_option maxHeartbeats 8000000 in
set_option maxRecDepth 100000 in
theorem arrange_ByWeights.calls (A0 : Option Addr) (c0 : Nat) (l0 : List Int) (r1 : List Int) (r2 : Int) (r3 : Int) (w : World) (hr0 : Kd.C (Kd.int .i64) w A0 l0.length l0) (hc0 : l0.length ≤ c0) (h : arrange_ByWeights.f l0 = some (r1, r2, r3)) :
    Calls Try.prog 15 #[.slice A0 l0.length c0] w fun e w' => ∃ v0_ : Value, e = .returned (.tuple #[v0_, .agg #[.int .i64 r2, .int .i64 r3]]) ∧ Kd.R (Kd.int .i64) 3 w' w.heap.size (fun _ => True) v0_ r1 ∧ Below w.heap.size w w' := by
  have hu24 := Try.underlying24
  have H : (if l0.length > 200 then (([] : List Int), (2 : Int), (-1 : Int)) else match l0.findIdx? badW with | some i => ([], 3, (i : Int)) | none => (weightOrder l0, 0, 0)) = (r1, r2, r3) := Option.some.inj h
  clear h
  have HR0 := Aside0.mk hr0
  have HC0 := Aside0.mk hc0
  have hbig := hr0.2.1
  clear hr0 hc0
  by_cases hn : l0.length > 200
  · rw [if_pos hn] at H
    simp only [Prod.mk.injEq] at H
    obtain ⟨rfl, rfl, rfl⟩ := H
    have hnz : (l0.length : Int) > 200 := by omega
    go_enter Try.func15, Try.ntmps15
    go_wp2
    refine bodyPost_ret (results_tc rfl _ _ (w.heap.size + 1) 24 #[.int .i64 2, .int .i64 (-1)] (0, 0) _ rfl (by simpa using blk_new (w.alloc (.cells #[.slice A0 l0.length c0] 27)) (.cells #[.int .i64 2, .int .i64 (-1)] 24)) Try.underlying24 rfl (by kernel_rfl)) rfl ?_
    exact ⟨_, rfl, Kd.R_nil _ _ _ _ _, (((Below.refl _ w).alloc (Nat.le_refl _) _).alloc (by simp) _)⟩
  · rw [if_neg hn] at H
    have HH := Aside0.mk H
    clear H
    have hnz : ¬ (l0.length : Int) > 200 := by omega
    go_enter Try.func15, Try.ntmps15
    go_wp2
    obtain ⟨wA, hwA⟩ : ∃ wA, wA = (w.alloc (.cells #[.slice A0 l0.length c0] 27)).alloc (.cells #[.int .i64 0, .int .i64 0] 24) := ⟨_, rfl⟩
    rw [← hwA]
    have hbW : wA.heap[w.heap.size]? = some (.cells #[.slice A0 l0.length c0] 27 (0, 0)) := by rw [hwA]; exact blk_alloc (blk_new w _) _
    have hbF : wA.heap[w.heap.size + 1]? = some (.cells #[.int .i64 0, .int .i64 0] 24 (0, 0)) := by rw [hwA]; simpa using blk_new (w.alloc (.cells #[.slice A0 l0.length c0] 27)) (.cells #[.int .i64 0, .int .i64 0] 24)
    have hB : Below w.heap.size w wA := by rw [hwA]; exact ((Below.refl _ w).alloc (Nat.le_refl _) _).alloc (by simp) _
    have hsz : wA.heap.size = w.heap.size + 2 := by rw [hwA]; simp
    have cW : wA.cell? ⟨w.heap.size, 0, none⟩ = some (.slice A0 l0.length c0) := (blk_cell hbW 0).trans rfl
    have f0 : wA.cell? ⟨w.heap.size + 1, 0, none⟩ = some (.int .i64 0) := (blk_cell hbF 0).trans rfl
    have f1 : wA.cell? ⟨w.heap.size + 1, 1, none⟩ = some (.int .i64 0) := (blk_cell hbF 1).trans rfl
    have z0 : wA.frozen? ⟨w.heap.size + 1, 0, none⟩ = false := by simp [World.frozen?, hbF]
    have z1 : wA.frozen? ⟨w.heap.size + 1, 1, none⟩ = false := by simp [World.frozen?, hbF]
    have BW := Aside0.mk hbW
    have BF := Aside0.mk hbF
    have BB := Aside0.mk hB
    have SZ := Aside0.mk hsz
    clear hbW hbF hB hwA hsz
    go_loopg [4, 5, 13] l0.length (fun gg _ _ v13 wr => ∃ i : Nat, v13 = .int .i64 i ∧ i ≤ l0.length ∧ l0.length - i ≤ gg ∧ wA = wr ∧ Aside0 (∀ j, j < i → badW (l0.getD j 0) = false))
    case atStart => exact ⟨0, rfl, Nat.zero_le _, by omega, rfl, ⟨fun j hj => absurd hj (Nat.not_lt_zero _)⟩⟩
    case round =>
      obtain ⟨i, rfl, hi, hg, rfl, HG⟩ := hrel
      by_cases hlt : i < l0.length
      · have px : (0 : Int) ≤ (i : Int) := by omega
        have qx : (i : Int) < (l0.length : Int) := by omega
        obtain ⟨ad, e, hcx⟩ := Kd.at_int (Kd.C_below HR0.out BB.out) (i : Int) px qx
        subst e
        rw [Int.toNat_natCast] at hcx
        have ex : rd l0 (i : Int) = l0.getD i 0 := by unfold rd; rw [Int.toNat_natCast]
        rw [ex] at hcx
        clear ex
        obtain ⟨x, hx⟩ : ∃ x, l0.getD i 0 = x := ⟨_, rfl⟩
        rw [hx] at hcx
        have HX := Aside0.mk hx
        clear hx
        by_cases hbad : badW x = true
        · have e := bad_hit hlt HX.out hbad HG.out
          have HH1 := HH.out
          rw [e] at HH1
          simp only [Prod.mk.injEq] at HH1
          obtain ⟨rfl, rfl, rfl⟩ := HH1
          clear e
          have hfin : ((wA.setCell ⟨w.heap.size + 1, 0, none⟩ (.int .i64 3)).setCell ⟨w.heap.size + 1, 1, none⟩ (.int .i64 (i : Int))).heap[w.heap.size + 1]? = some (.cells #[.int .i64 3, .int .i64 (i : Int)] 24 (0, 0)) := by
            refine blk_put (cs := #[.int .i64 3, .int .i64 0]) ?_ 1 _ rfl
            refine blk_put (cs := #[.int .i64 0, .int .i64 0]) ?_ 0 _ rfl
            exact BF.out
          have HF := Aside0.mk hfin
          clear hfin
          by_cases h0 : x < 0
          · have h0d : decide (x < 0) = true := decide_eq_true h0
            go_wp2
            refine bodyPost_ret (results_tc rfl _ _ (w.heap.size + 1) 24 #[.int .i64 3, .int .i64 (i : Int)] (0, 0) _ rfl HF.out Try.underlying24 rfl (by kernel_rfl)) rfl ?_
            exact ⟨_, rfl, Kd.R_nil _ _ _ _ _, below_set (below_set BB.out (by omega)) (by omega)⟩
          · have h1 : x > 1000000 := by
              unfold badW at hbad
              simp only [decide_eq_false h0, Bool.false_or, decide_eq_true_eq] at hbad
              exact hbad
            have h0d : decide (x < 0) = false := decide_eq_false h0
            have h1d : decide (x > 1000000) = true := decide_eq_true h1
            go_wp2
            refine bodyPost_ret (results_tc rfl _ _ (w.heap.size + 1) 24 #[.int .i64 3, .int .i64 (i : Int)] (0, 0) _ rfl HF.out Try.underlying24 rfl (by kernel_rfl)) rfl ?_
            exact ⟨_, rfl, Kd.R_nil _ _ _ _ _, below_set (below_set BB.out (by omega)) (by omega)⟩
        · have hb0 : badW x = false := by simpa using hbad
          have hb1 := badW_no hb0
          have h0d : decide (x < 0) = false := decide_eq_false (by omega)
          have h1d : decide (x > 1000000) = false := decide_eq_false (by omega)
          have HB0 := Aside0.mk hb0
          clear hb0 hbad
          obtain ⟨hb1, hb2⟩ := hb1
          go_wp2
          go_roundg (l0.length - (i + 1))
          case measure => omega
          case rel =>
            refine ⟨i + 1, by go_num, by omega, Nat.le_refl _, rfl, ⟨fun j hj => ?_⟩⟩
            by_cases e : j = i
            · subst e; rw [HX.out]; exact HB0.out
            · exact HG.out j (by omega)
      · have : i = l0.length := by omega
        subst this
        have hlz : ¬ (l0.length : Int) < (l0.length : Int) := by omega
        have HH1 := HH.out
        rw [bad_none HG.out] at HH1
        simp only [Prod.mk.injEq] at HH1
        obtain ⟨rfl, rfl, rfl⟩ := HH1
        have hb := fun z hz => badW_no (HG.out z hz)
        have HB := Aside0.mk hb
        clear hb
        have hid := identity_of l0.length (by omega)
        go_upto_region 10 with (go_at_call 22; refine (hid _).mono ?_; rintro e w1 ⟨v0, rfl, hv, hb⟩)
        have hs1 : w.heap.size + 2 ≤ w1.heap.size := by have := hb.size; have := SZ.out; omega
        have hB1 : Below w.heap.size w w1 := BB.out.trans (hb.mono (by have := SZ.out; omega))
        have hbW : w1.heap[w.heap.size]? = some (.cells #[.slice A0 l0.length c0] 27 (0, 0)) := blk_below BW.out hb
        have hbF : w1.heap[w.heap.size + 1]? = some (.cells #[.int .i64 0, .int .i64 0] 24 (0, 0)) := blk_below BF.out hb
        have hbase : ∀ k, v0.ownBlock = some k → w.heap.size + 2 ≤ k ∧ k < w1.heap.size := fun k hk => by
          have h1 := own_base (Srt.own_of_R hv) k hk
          have h2 := own_lt (Srt.own_of_R hv) k hk
          have := SZ.out
          exact ⟨by omega, h2⟩
        have hv2 := Kd.R_lower (base' := w.heap.size) hv (by have := SZ.out; omega)
        have hc := Srt.sortRange (g := 24) (cb := #[.pointer (some ⟨w.heap.size, 0, none⟩)]) l0.length (by omega) (fun z => - l0.getD z 0) (fun x y => l0.getD y 0 - l0.getD x 0) (fun x y => by show l0.getD y 0 - l0.getD x 0 < 0 ↔ - l0.getD x 0 < - l0.getD y 0; omega) v0 w1 _ hv2 (Go.Proofs.enters_of Try.func24 (by kernel_rfl) rfl) (fun W hg x y hx hy => by
          have hBW : Below w.heap.size w W := hB1.grown hg (by omega) (fun k e => by have := hbase k e; omega)
          exact heavy_calls (bW := w.heap.size) (W := W) ((hg.block _ (by omega) (fun e => by have := hbase _ e.symm; omega)).trans hbW) (Kd.C_below HR0.out hBW) HB.out x y hx hy)
        have hord : Srt.byKey (fun z => - l0.getD z 0) l0.length = weightOrder l0 := by
          have e1 : ∀ x y : Nat, (- l0.getD y 0 < - l0.getD x 0) = (l0.getD x 0 < l0.getD y 0) := fun x y => propext (by omega)
          have e2 : ∀ x y : Nat, (- l0.getD y 0 = - l0.getD x 0) = (l0.getD x 0 = l0.getD y 0) := fun x y => propext (by omega)
          unfold Srt.byKey weightOrder
          simp only [e1, e2]
        rw [hord] at hc
        have HB1 := Aside0.mk hB1
        have HBASE := Aside0.mk hbase
        have HBF := Aside0.mk hbF
        clear hord hid hB1 hbW hbF hv hv2 hb hbase f0 f1 z0 z1
        go_upto_region 11 with (go_at_call 23; refine hc.mono ?_; rintro e w2 ⟨rfl, hR, hg⟩)
        have hF2 : w2.heap[w.heap.size + 1]? = some (.cells #[.int .i64 0, .int .i64 0] 24 (0, 0)) := (hg.block _ (by omega) (fun e => by have := HBASE.out _ e.symm; omega)).trans HBF.out
        obtain ⟨f0, f1, z0, z1⟩ := blkC2 hF2
        have hB2 : Below w.heap.size w w2 := HB1.out.grown hg (by omega) (fun k e => by have := HBASE.out k e; omega)
        have HF2 : Aside0 (((w2.setCell ⟨w.heap.size + 1, 0, none⟩ (.int .i64 0)).setCell ⟨w.heap.size + 1, 1, none⟩ (.int .i64 0)).heap[w.heap.size + 1]? = some (.cells #[.int .i64 0, .int .i64 0] 24 (0, 0))) := ⟨by
          refine blk_put (cs := #[.int .i64 0, .int .i64 0]) ?_ 1 _ rfl
          refine blk_put (cs := #[.int .i64 0, .int .i64 0]) ?_ 0 _ rfl
          exact hF2⟩
        have HR2 := Aside0.mk hR
        have HBB := Aside0.mk hB2
        have HNE : Aside0 (∀ k, v0.ownBlock = some k → k ≠ w.heap.size + 1) := ⟨fun k hk => by have := HBASE.out k hk; omega⟩
        clear hF2 hR hB2 hg
        go_wp2_with fail
        refine bodyPost_ret (results_tc rfl _ _ (w.heap.size + 1) 24 #[.int .i64 0, .int .i64 0] (0, 0) _ rfl HF2.out Try.underlying24 rfl (by kernel_rfl)) rfl ?_
        refine ⟨_, rfl, ?_, below_set (below_set HBB.out (by omega)) (by omega)⟩
        refine Srt.R_of_own ?_
        have own := Srt.own_of_R HR2.out
        refine own_move own (fun k hk => ?_)
        rw [Below.heap_setCell _ _ _ k (HNE.out k hk), Below.heap_setCell _ _ _ k (HNE.out k hk)]

end Go.Proofs.Ytoegghjhepkfkaa.PArr
