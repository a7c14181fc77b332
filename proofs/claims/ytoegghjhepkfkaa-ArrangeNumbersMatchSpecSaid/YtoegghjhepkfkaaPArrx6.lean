/- Written by a program of this session, for the law(s) Arr: contracts of the Go functions that the law reaches, each against a plain Lean function. No condition. -/
import Derived.Test.YtoegghjhepkfkaaPArrx0
import Derived.Test.YtoegghjhepkfkaaPArrx5
namespace Go.Proofs.Ytoegghjhepkfkaa.PArr
open Go.RowKit Go.Proofs.YtoegghjhepkfkaaW.PrintWords Go.Proofs.YtoegghjhepkfkaaW.PrintLast Go.Proofs.YtoegghjhepkfkaaW.PrintMore
attribute [local go_sem] max2_int min2_int max_two min_two max_three min_three max_four min_four   -- for this text's walks alone
set_option linter.unusedVariables false
set_option linter.unusedSimpArgs false

/-! ### arrange_Wanted: function 20 -/
/-- the place of a name among the wanted ones; behind them all, if it is none of them -/
def rk (l1 : List ByteArray) (s : ByteArray) : Nat := (l1.findIdx? (fun b => decide (s.toList = b.toList))).getD l1.length
def wantedOrder (l0 l1 : List ByteArray) : List Int :=
  ((List.range l0.length).mergeSort (fun x y => !(decide (rk l1 (l0.getD y ByteArray.empty) < rk l1 (l0.getD x ByteArray.empty) ∨ rk l1 (l0.getD y ByteArray.empty) = rk l1 (l0.getD x ByteArray.empty) ∧ y < x)))).map fun x : Nat => (x : Int)
def arrange_Wanted.f (l0 : List ByteArray) (l1 : List ByteArray) : Option (List Int) := if l0.length < 1000000 ∧ l1.length < 1000000 then some (wantedOrder l0 l1) else none
theorem identity_l0 : ∀ (m : Nat) (ys : List Int) (i : Nat), ys.length - i = m → i ≤ ys.length → ys.length < 1000000 → (∀ j, j < i → ys[j]? = some (j : Int)) → ∀ k, m < k →
    arrange_identity.l0 k ys (ys.length : Int) (i : Int) = some ((List.range ys.length).map fun x : Nat => (x : Int))
  | 0, ys, i, hm, hi, hl, hy, k, hk => by
    obtain ⟨k, rfl⟩ : ∃ q, k = q + 1 := ⟨k - 1, by omega⟩
    have : i = ys.length := by omega
    subst this
    simp only [arrange_identity.l0]
    rw [if_neg (by omega)]
    congr 1
    apply List.ext_getElem?
    intro j
    by_cases hj : j < ys.length
    · rw [hy j hj]; simp [hj]
    · rw [List.getElem?_eq_none (by omega), List.getElem?_eq_none (by simp; omega)]
  | m + 1, ys, i, hm, hi, hl, hy, k, hk => by
    obtain ⟨k, rfl⟩ : ∃ q, k = q + 1 := ⟨k - 1, by omega⟩
    simp only [arrange_identity.l0]
    rw [if_pos (by omega), if_pos (by omega), if_pos (by omega)]
    have e : wrap64 ((i : Int) + 1) = ((i + 1 : Nat) : Int) := by unfold wrap64; omega
    rw [e]
    clear e
    have := identity_l0 m (ys.set i (i : Int)) (i + 1) (by simp; omega) (by simp; omega) (by simpa using hl) (fun j hj => by
      by_cases e : j = i
      · subst e; rw [List.getElem?_set_self (by omega)]
      · rw [List.getElem?_set_ne (by omega)]; exact hy j (by omega)) k (by omega)
    simpa using this
theorem identity_f (n : Nat) (hn : n < 1000000) : arrange_identity.f (n + 1) (n : Int) = some ((List.range n).map fun x : Nat => (x : Int)) := by
  unfold arrange_identity.f
  rw [if_pos (by omega), if_pos (by omega), Option.bind_some]
  have := identity_l0 n (List.replicate n 0) 0 (by simp) (by simp) (by simpa using hn) (fun j hj => by omega) (n + 1) (by omega)
  simpa using this
theorem identity_of (n : Nat) (hn : n < 1000000) (w : World) : Calls Try.prog 22 #[.int .i64 (n : Int)] w fun e w' => ∃ v0_ : Value, e = .returned (v0_) ∧ Kd.R (Kd.int .i64) 3 w' w.heap.size (fun _ => True) v0_ ((List.range n).map fun x : Nat => (x : Int)) ∧ Below w.heap.size w w' :=
  arrange_identity.calls (n + 1) n _ w (identity_f n hn)

theorem index_l0 (s : ByteArray) (xs : List ByteArray) (hl : xs.length < 1000000) : ∀ (m i : Nat), xs.length - i = m → i ≤ xs.length → ∀ k, m < k →
    slices_Index_string_string.l0 k xs s (xs.length : Int) (i : Int) = some (match (xs.drop i).findIdx? (fun b => decide (s.toList = b.toList)) with | some j => ((i + j : Nat) : Int) | none => -1)
  | 0, i, hm, hi, k, hk => by
    obtain ⟨k, rfl⟩ : ∃ q, k = q + 1 := ⟨k - 1, by omega⟩
    have : i = xs.length := by omega
    subst this
    simp only [slices_Index_string_string.l0]
    rw [if_neg (by omega), List.drop_length]
    rfl
  | m + 1, i, hm, hi, k, hk => by
    obtain ⟨k, rfl⟩ : ∃ q, k = q + 1 := ⟨k - 1, by omega⟩
    simp only [slices_Index_string_string.l0]
    rw [if_pos (by omega), if_pos (by omega), if_pos (by omega)]
    have hd : xs.drop i = xs[i] :: xs.drop (i + 1) := List.drop_eq_getElem_cons (by omega)
    have hr : rdOf ByteArray.empty xs (i : Int) = xs[i] := by unfold rdOf; simp [List.getD, List.getElem?_eq_getElem (show i < xs.length by omega)]
    have e : wrap64 ((i : Int) + 1) = ((i + 1 : Nat) : Int) := by unfold wrap64; omega
    rw [hr, e, hd, List.findIdx?_cons]
    clear e
    by_cases hs : s.toList = xs[i].toList
    · rw [if_pos hs]; simp [hs]
    · rw [if_neg hs, index_l0 s xs hl m (i + 1) (by omega) (by omega) k (by omega)]
      simp only [hs, decide_false, Bool.false_eq_true, if_false]
      cases (xs.drop (i + 1)).findIdx? (fun b => decide (s.toList = b.toList)) with
      | none => rfl
      | some j =>
        show some (((i + 1 + j : Nat)) : Int) = some (((i + (j + 1) : Nat)) : Int)
        rw [show i + 1 + j = i + (j + 1) by omega]
theorem index_f (s : ByteArray) (xs : List ByteArray) (hl : xs.length < 1000000) :
    slices_Index_string_string.f (xs.length + 1) xs s = some (match xs.findIdx? (fun b => decide (s.toList = b.toList)) with | some j => (j : Int) | none => -1) := by
  unfold slices_Index_string_string.f
  have := index_l0 s xs hl xs.length 0 (by omega) (by omega) (xs.length + 1) (by omega)
  simpa using this
theorem index_of (s : ByteArray) (xs : List ByteArray) (hl : xs.length < 1000000) (A0 : Option Addr) (c0 : Nat) (w : World) (hr0 : Kd.C Kd.string w A0 xs.length xs) (hc0 : xs.length ≤ c0) :
    Calls Try.prog 32 #[.slice A0 xs.length c0, .string s] w fun e w' => e = .returned (.int .i64 (match xs.findIdx? (fun b => decide (s.toList = b.toList)) with | some j => (j : Int) | none => -1)) ∧ ∃ q, w' = w.drewN q :=
  (slices_Index_string_string.calls _ A0 c0 xs s _ w hr0 hc0 (index_f s xs hl)).mono fun _ _ ⟨h, d⟩ => ⟨h, d.out⟩

set_option maxHeartbeats 4000000 in
set_option maxRecDepth 100000 in
/-- the closure 'rank' -/
theorem rank_calls {A0 A1 : Option Addr} {c0 c1 : Nat} {l0 l1 : List ByteArray} {bW bL : Nat} {W : World} (hW : W.heap[bW]? = some (.cells #[.slice A1 l1.length c1] 22 (0, 0))) (hL : W.heap[bL]? = some (.cells #[.slice A0 l0.length c0] 22 (0, 0)))
    (hr0 : Kd.C Kd.string W A0 l0.length l0) (hr1 : Kd.C Kd.string W A1 l1.length l1) (hc1 : l1.length ≤ c1) (hl0 : l0.length < 1000000) (hl1 : l1.length < 1000000) (x : Nat) (hx : x < l0.length) :
    Calls Try.prog 31 #[.int .i64 (x : Int), .pointer (some ⟨bW, 0, none⟩), .pointer (some ⟨bL, 0, none⟩)] W fun e w' => e = .returned (.int .i64 (rk l1 (l0.getD x ByteArray.empty) : Nat)) ∧ ∃ q, w' = W.drewN q := by
  have cW : W.cell? ⟨bW, 0, none⟩ = some (.slice A1 l1.length c1) := (blk_cell hW 0).trans rfl
  have cL : W.cell? ⟨bL, 0, none⟩ = some (.slice A0 l0.length c0) := (blk_cell hL 0).trans rfl
  have px : (0 : Int) ≤ (x : Int) := by omega
  have qx : (x : Int) < (l0.length : Int) := by omega
  obtain ⟨ad, e, hcx⟩ := Kd.at_string hr0 (x : Int) px qx
  subst e
  rw [Int.toNat_natCast] at hcx
  have es : rdOf ByteArray.empty l0 (x : Int) = l0.getD x ByteArray.empty := by unfold rdOf; rw [Int.toNat_natCast]
  rw [es] at hcx
  clear es
  generalize l0.getD x ByteArray.empty = s at hcx ⊢
  have hc := fun n => index_of s l1 hl1 A1 c1 (W.drewN n) (Kd.C_below hr1 (Drawn0.below ⟨n, rfl⟩)) hc1
  have RK : Aside0 (rk l1 s = (l1.findIdx? (fun b => decide (s.toList = b.toList))).getD l1.length) := ⟨rfl⟩
  generalize rk l1 s = q at RK ⊢
  clear hW hL hr0 hr1
  cases hi : l1.findIdx? (fun b => decide (s.toList = b.toList)) with
  | some j =>
    rw [hi] at hc RK
    have RK' : Aside0 (q = j) := ⟨RK.out⟩
    clear RK hi
    have j0 : (0 : Int) ≤ (j : Int) := by omega
    go_enter Try.func31, Try.ntmps31
    go_wp2
    go_quiet (first | (go_at_call 32; refine Calls.quiet_of (hc _)))
    go_wp2
    go_ret
    exact ⟨by rw [RK'.out]; rfl, _, rfl⟩
  | none =>
    rw [hi] at hc RK
    have RK' : Aside0 (q = l1.length) := ⟨RK.out⟩
    clear RK hi
    go_enter Try.func31, Try.ntmps31
    go_wp2
    go_quiet (first | (go_at_call 32; refine Calls.quiet_of (hc _)))
    go_wp2
    go_ret
    exact ⟨by rw [RK'.out]; rfl, _, rfl⟩

theorem rk_le (l1 : List ByteArray) (s : ByteArray) : rk l1 s ≤ l1.length := by
  unfold rk
  cases h : l1.findIdx? (fun b => decide (s.toList = b.toList)) with
  | none => exact Nat.le_refl _
  | some j => have := (List.findIdx?_eq_some_iff_getElem.1 h).1; simp; omega

set_option maxHeartbeats 4000000 in
set_option maxRecDepth 100000 in
/-- the closure that compares two ranks -/
theorem cmp_calls {A0 A1 : Option Addr} {c0 c1 : Nat} {l0 l1 : List ByteArray} {bW bL bR : Nat} {W : World} (hW : W.heap[bW]? = some (.cells #[.slice A1 l1.length c1] 22 (0, 0))) (hL : W.heap[bL]? = some (.cells #[.slice A0 l0.length c0] 22 (0, 0)))
    (hR : W.heap[bR]? = some (.cells #[.func (.func 31) #[] #[.pointer (some ⟨bW, 0, none⟩), .pointer (some ⟨bL, 0, none⟩)]] 51 (0, 0)))
    (hr0 : Kd.C Kd.string W A0 l0.length l0) (hr1 : Kd.C Kd.string W A1 l1.length l1) (hc1 : l1.length ≤ c1) (hl0 : l0.length < 1000000) (hl1 : l1.length < 1000000) (x y : Nat) (hx : x < l0.length) (hy : y < l0.length) :
    Calls Try.prog 33 (#[.int .i64 (x : Int), .int .i64 (y : Int)] ++ #[.pointer (some ⟨bR, 0, none⟩)]) W fun e w' => e = .returned (.int .i64 ((rk l1 (l0.getD x ByteArray.empty) : Int) - (rk l1 (l0.getD y ByteArray.empty) : Int))) ∧ ∃ q, w' = W.drewN q := by
  have cR : W.cell? ⟨bR, 0, none⟩ = some (.func (.func 31) #[] #[.pointer (some ⟨bW, 0, none⟩), .pointer (some ⟨bL, 0, none⟩)]) := (blk_cell hR 0).trans rfl
  have e31 : ∀ args w, (callFunc 31 args).run Try.prog w = .ok (.enter 31 args) w := Go.Proofs.enters_of Try.func31 (by kernel_rfl) rfl
  have hc := fun (z : Nat) (hz : z < l0.length) n => rank_calls (W := W.drewN n) (blk_drewN hW n) (blk_drewN hL n) (Kd.C_below hr0 (Drawn0.below ⟨n, rfl⟩)) (Kd.C_below hr1 (Drawn0.below ⟨n, rfl⟩)) hc1 hl0 hl1 z hz
  have bx := rk_le l1 (l0.getD x ByteArray.empty)
  have by' := rk_le l1 (l0.getD y ByteArray.empty)
  obtain ⟨F, hF⟩ : ∃ F : Nat → Nat, F = fun z => rk l1 (l0.getD z ByteArray.empty) := ⟨_, rfl⟩
  have ex : rk l1 (l0.getD x ByteArray.empty) = F x := by rw [hF]
  have ey : rk l1 (l0.getD y ByteArray.empty) = F y := by rw [hF]
  rw [ex] at bx ⊢
  rw [ey] at by' ⊢
  have hc2 : ∀ (z : Nat), z < l0.length → ∀ n, Calls Try.prog 31 #[.int .i64 (z : Int), .pointer (some ⟨bW, 0, none⟩), .pointer (some ⟨bL, 0, none⟩)] (W.drewN n) fun e w' => e = .returned (.int .i64 (F z : Nat)) ∧ ∃ q, w' = (W.drewN n).drewN q := by
    rw [hF]; exact hc
  clear hc hW hL hR hr0 hr1 ex ey hF
  have fx : (F x : Int) < 1000001 := by omega
  have fy : (F y : Int) < 1000001 := by omega
  go_enter Try.func33, Try.ntmps33
  go_wp2
  go_quiet (first | (go_at_call 31; refine Calls.quiet_of (hc2 _ (by assumption) _)))
  go_wp2
  go_ret
  exact ⟨rfl, _, rfl⟩
set_option maxHeartbeats 4000000 in
set_option maxRecDepth 100000 in
theorem arrange_Wanted.calls (A0 : Option Addr) (c0 : Nat) (l0 : List ByteArray) (A1 : Option Addr) (c1 : Nat) (l1 : List ByteArray) (r : List Int) (w : World) (hr0 : Kd.C Kd.string w A0 l0.length l0) (hc0 : l0.length ≤ c0) (hr1 : Kd.C Kd.string w A1 l1.length l1) (hc1 : l1.length ≤ c1) (h : arrange_Wanted.f l0 l1 = some r) :
    Calls Try.prog 20 #[.slice A0 l0.length c0, .slice A1 l1.length c1] w fun e w' => ∃ v0_ : Value, e = .returned (v0_) ∧ Kd.R (Kd.int .i64) 3 w' w.heap.size (fun _ => True) v0_ r ∧ Below w.heap.size w w' := by
  have hlt : l0.length < 1000000 ∧ l1.length < 1000000 := by
    unfold arrange_Wanted.f at h
    split at h
    · assumption
    · cases h
  obtain rfl : wantedOrder l0 l1 = r := by
    unfold arrange_Wanted.f at h
    rw [if_pos hlt] at h
    exact Option.some.inj h
  clear h
  obtain ⟨hl0, hl1⟩ := hlt
  have HR0 := Aside0.mk hr0
  have HR1 := Aside0.mk hr1
  have HC1 := Aside0.mk hc1
  clear hr0 hr1 hc1
  have hid := identity_of l0.length hl0
  go_enter Try.func20, Try.ntmps20
  go_upto_region 3 with (go_at_call 22; refine (hid _).mono ?_; rintro e w1 ⟨v0, rfl, hv, hb⟩)
  have hs1 : w.heap.size + 1 + 1 ≤ w1.heap.size := by have := hb.size; simpa using this
  have hB1 : Below w.heap.size w w1 := (((Below.refl _ w).alloc (Nat.le_refl _) _).alloc (by simp) _).trans (hb.mono (by simp; omega))
  have hbW : w1.heap[w.heap.size + 1]? = some (.cells #[.slice A1 l1.length c1] 22 (0, 0)) := blk_below (by simpa using blk_new (w.alloc (.cells #[.slice A0 l0.length c0] 22)) (.cells #[.slice A1 l1.length c1] 22)) hb
  have hbL : w1.heap[w.heap.size]? = some (.cells #[.slice A0 l0.length c0] 22 (0, 0)) := blk_below (blk_alloc (blk_new w (.cells #[.slice A0 l0.length c0] 22)) _) hb
  have hbase : ∀ k, v0.ownBlock = some k → w.heap.size + 1 + 1 ≤ k ∧ k < w1.heap.size := fun k hk => by
    have h1 := own_base (Srt.own_of_R hv) k hk
    have h2 := own_lt (Srt.own_of_R hv) k hk
    exact ⟨by simpa using h1, h2⟩
  have hv2 := Kd.R_lower (base' := w.heap.size) (Kd.R_below hv ((Below.refl _ w1).alloc (Nat.le_refl _) (.cells #[.func (.func 31) #[] #[.pointer (some ⟨w.heap.size + 1, 0, none⟩), .pointer (some ⟨w.heap.size, 0, none⟩)]] 51))) (by simp; omega)
  have hB2 : Below w.heap.size w (w1.alloc (.cells #[.func (.func 31) #[] #[.pointer (some ⟨w.heap.size + 1, 0, none⟩), .pointer (some ⟨w.heap.size, 0, none⟩)]] 51)) := hB1.alloc (by omega) _
  have hc := Srt.sortRange (g := 33) (cb := #[.pointer (some ⟨w1.heap.size, 0, none⟩)]) l0.length hl0 (fun z => (rk l1 (l0.getD z ByteArray.empty) : Int)) (fun x y => (rk l1 (l0.getD x ByteArray.empty) : Int) - (rk l1 (l0.getD y ByteArray.empty) : Int)) (fun x y => by show (rk l1 (l0.getD x ByteArray.empty) : Int) - (rk l1 (l0.getD y ByteArray.empty) : Int) < 0 ↔ (rk l1 (l0.getD x ByteArray.empty) : Int) < (rk l1 (l0.getD y ByteArray.empty) : Int); omega) v0 _ _ hv2 (Go.Proofs.enters_of Try.func33 (by kernel_rfl) rfl) (fun W hg x y hx hy => by
    have hBW : Below w.heap.size w W := hB2.grown hg (by simp; omega) (fun k e => by have := hbase k e; omega)
    exact cmp_calls (bW := w.heap.size + 1) (bL := w.heap.size) (bR := w1.heap.size) (W := W)
      ((hg.block _ (by simp; omega) (fun e => by have := hbase _ e.symm; omega)).trans (blk_alloc hbW _))
      ((hg.block _ (by simp; omega) (fun e => by have := hbase _ e.symm; omega)).trans (blk_alloc hbL _))
      ((hg.block _ (by simp) (fun e => by have := hbase _ e.symm; omega)).trans (blk_new w1 _))
      (Kd.C_below HR0.out hBW) (Kd.C_below HR1.out hBW) HC1.out hl0 hl1 x y hx hy)
  have hord : Srt.byKey (fun z => (rk l1 (l0.getD z ByteArray.empty) : Int)) l0.length = wantedOrder l0 l1 := by
    unfold Srt.byKey wantedOrder
    simp only [Int.ofNat_lt, Int.ofNat_inj]
  rw [hord] at hc
  have HB2 := Aside0.mk hB2
  have HBASE := Aside0.mk hbase
  clear hord hid hB1 hbW hbL hv hv2 hb hB2 hbase
  go_wp2_with (go_at_call 23; refine hc.mono ?_; rintro e w2 ⟨rfl, hR, hg⟩)
  go_ret
  exact ⟨_, rfl, hR, HB2.out.grown hg (by simp; omega) (fun k e => by have := HBASE.out k e; omega)⟩

end Go.Proofs.Ytoegghjhepkfkaa.PArr
