/- Written by a program of this session, for the law(s) Arr: contracts of the Go functions that the law reaches, each against a plain Lean function. No condition. -/
import Derived.Test.YtoegghjhepkfkaaPArrx0
import Derived.Test.YtoegghjhepkfkaaPArrx1
import Derived.Test.YtoegghjhepkfkaaPArrx4
import Derived.Test.YtoegghjhepkfkaaPArrx6
namespace Go.Proofs.Ytoegghjhepkfkaa.PArr
open Go.RowKit Go.Proofs.YtoegghjhepkfkaaW.PrintWords Go.Proofs.YtoegghjhepkfkaaW.PrintLast Go.Proofs.YtoegghjhepkfkaaW.PrintMore
attribute [local go_sem] max2_int min2_int max_two min_two max_three min_three max_four min_four   -- for this text's walks alone
set_option linter.unusedVariables false
set_option linter.unusedSimpArgs false

attribute [local go_sem high] eqA24
/-! ### arrange_ByNames: function 9 -/
def arrange_ByNames.f (l0 : List ByteArray) (l1 : List ByteArray) : Option (List Int × Int × Int) := (arrange_names.f l0 200 (-1)).bind fun bt114 => (if (!(bt114.1 == 0) || (!(bt114.2 == 0))) = true then (some (([] : List Int), bt114.1, bt114.2)) else ((arrange_names.f l1 40 (-2)).bind fun bt117 => (if (!(bt117.1 == 0) || (!(bt117.2 == 0))) = true then (some (([] : List Int), bt117.1, bt117.2)) else ((arrange_Wanted.f l0 l1).bind fun t120 => (some (t120, 0, 0))))))
set_option maxHeartbeats 8000000 in
set_option maxRecDepth 100000 in
theorem arrange_ByNames.calls (A0 : Option Addr) (c0 : Nat) (l0 : List ByteArray) (A1 : Option Addr) (c1 : Nat) (l1 : List ByteArray) (r1 : List Int) (r2 : Int) (r3 : Int) (w : World) (hr0 : Kd.C Kd.string w A0 l0.length l0) (hc0 : l0.length ≤ c0) (hr1 : Kd.C Kd.string w A1 l1.length l1) (hc1 : l1.length ≤ c1) (h : arrange_ByNames.f l0 l1 = some (r1, r2, r3)) :
  Calls Try.prog 9 #[.slice A0 l0.length c0, .slice A1 l1.length c1] w fun e w' => ∃ v0_ : Value, e = .returned (.tuple #[v0_, .agg #[.int .i64 r2, .int .i64 r3]]) ∧ Kd.R (Kd.int .i64) 3 w' w.heap.size (fun _ => True) v0_ r1 ∧ Below w.heap.size w w' := by
 have hu24 := Try.underlying24
 have HR0 := Aside0.mk hr0
 have HC0 := Aside0.mk hc0
 clear hr0 hc0
 have HR1 := Aside0.mk hr1
 have HC1 := Aside0.mk hc1
 clear hr1 hc1
 have HB := Aside0.mk (Below.refl w.heap.size w)
 have H : ((arrange_names.f l0 200 (-1)).bind fun bt114 => (if (!(bt114.1 == 0) || (!(bt114.2 == 0))) = true then (some (([] : List Int), bt114.1, bt114.2)) else ((arrange_names.f l1 40 (-2)).bind fun bt117 => (if (!(bt117.1 == 0) || (!(bt117.2 == 0))) = true then (some (([] : List Int), bt117.1, bt117.2)) else ((arrange_Wanted.f l0 l1).bind fun t120 => (some (t120, 0, 0))))))) = some (r1, r2, r3) := h
 clear h
 replace H := Option.bind_eq_some_iff.mp H
 obtain ⟨⟨t114, t115⟩, A30, H⟩ := H
 replace H : (if (!(t114 == 0) || (!(t115 == 0))) = true then (some (([] : List Int), t114, t115)) else ((arrange_names.f l1 40 (-2)).bind fun bt117 => (if (!(bt117.1 == 0) || (!(bt117.2 == 0))) = true then (some (([] : List Int), bt117.1, bt117.2)) else ((arrange_Wanted.f l0 l1).bind fun t120 => (some (t120, 0, 0)))))) = some (r1, r2, r3) := H
 have A3 := Aside0.mk A30
 clear A30
 by_cases c4 : (!(t114 == 0) || (!(t115 == 0))) = true
 ·rw [if_pos c4] at H
  have c4b0 : (!(t114 == 0) || (!(t115 == 0))) = true := c4
  clear c4
  simp only [Option.some.injEq, Prod.mk.injEq] at H
  obtain ⟨rfl, rfl, rfl⟩ := H
  go_enter Try.func9, Try.ntmps9
  try go_wp2_with (first | ((with_reducible refine gate_dst (N := 5) rfl ?_); refine qX (N := 5) (cs := #[.int .i64 0, .int .i64 0]) (t := 24) ?_; intro gb113 hg w5 hbox hb; refine up4 (bH hb) (am hbox) (bW hg) (bW hg) ?_; clear HB hb hbox hg; intro HB BK113 GW113 GE113) | ((with_reducible refine gate_callee (f := 19) rfl ?_); refine goesL_ (some 9) rfl rfl Try.func19 (by kernel_rfl) rfl #[.slice A0 l0.length c0, .int .i64 200, .int .i64 (-1)] rfl qA ?_; (with_reducible refine (arrange_names.calls _ _ l0 200 (-1) t114 t115 _ ?side1 ?side2 A3.out).mono ?_); (case side1 => exact qC HR0 HB); (case side2 => exact HC0.out); rintro e w6 ⟨rfl, hb⟩; refine ⟨_, rfl, ?_⟩; refine up2 (bB BK113 hb) (bH hb) ?_; clear BK113 HB; intro BK113 HB; (try clear hb); (try clear hb2); (try clear hk); (try clear hi)) | ((with_reducible refine gate_dst (N := 6) rfl ?_); refine qX (N := 6) (cs := #[.int .i64 0, .int .i64 0]) (t := 24) ?_; intro gb116 hg w7 hbox hb; refine up7 (bB BK113 hb) (bH hb) (am hbox) (bW hg) (bW hg) (bL BK113 hg) (bG BK113 hg) ?_; clear BK113 HB hb hbox hg; intro BK113 HB BK116 GW116 GE116 NB113_116 NB116_113; have hnb8 := NB116_113.out; have hnc8 := NB113_116.out; have hcz9 := blkC2 BK116.out))
  have n0_ : Aside0 (((w7.setCell ⟨gb116, 0, none⟩ (.int .i64 t114)).setCell ⟨gb116, 1, none⟩ (.int .i64 t115)).heap[gb113]? = some (.cells #[.int .i64 0, .int .i64 0] 24 (0, 0))) := ⟨qP BK113⟩
  have n1_ : Aside0 (((w7.setCell ⟨gb116, 0, none⟩ (.int .i64 t114)).setCell ⟨gb116, 1, none⟩ (.int .i64 t115)).heap[gb116]? = some (.cells #[.int .i64 t114, .int .i64 t115] 24 (0, 0))) := ⟨qP BK116⟩
  have n2_ : Aside0 (Below w.heap.size w ((w7.setCell ⟨gb116, 0, none⟩ (.int .i64 t114)).setCell ⟨gb116, 1, none⟩ (.int .i64 t115))) := ⟨qB⟩
  (try clear BK113)
  (try clear BK116)
  (try clear HB)
  generalize ((w7.setCell ⟨gb116, 0, none⟩ (.int .i64 t114)).setCell ⟨gb116, 1, none⟩ (.int .i64 t115)) = w10 at n0_ n1_ n2_ ⊢
  have BK113 := n0_
  have BK116 := n1_
  have HB := n2_
  clear n0_ n1_ n2_
  refine up3 (am (blk_drew BK113.out)) (am (blk_drew BK116.out)) (am (below_drew1 HB.out)) ?_
  clear BK113 BK116 HB
  intro BK113 BK116 HB
  refine start_ (n := 3) (S := fun w' => w'.cell? ⟨gb116, 0, none⟩ = some (.int .i64 t114) ∧ w'.cell? ⟨gb116, 1, none⟩ = some (.int .i64 t115)) (ds := []) #[false, false, false] (by kernel_rfl) rfl rfl ⟨(blk_cell BK116.out 0).trans rfl, (blk_cell BK116.out 1).trans rfl⟩ (fun hHeld => ?_)
  generalize w10.drew = w11 at BK113 BK116 HB hHeld ⊢
  refine pure_ (i := 1) (N := some 4) (v := ?_) (a' := ?_) #[false, true, false] rfl rfl (by kernel_rfl) (fun _ _ _ h => h) (Or.inl ⟨by rfl, ?_⟩) ?_ ?_
  rotate_left
  ·intro w'
   go_simp
   with_reducible rfl
  rotate_left
  ·simp only [Act.put, List.setIfInBounds_toArray, List.set_cons_zero, List.set_cons_succ, i64_w, i32_w]
   rfl
  refine take_ (i := 0) (N := some 13) (v := ?_) (a' := ?_) #[true, true, false] rfl rfl (by kernel_rfl) (fun _ _ _ h => h) (Or.inl ⟨by rfl, ?_⟩) hHeld ?_ ?_
  rotate_left
  ·rintro w' ⟨s0, s1⟩
   go_simp
   with_reducible rfl
  rotate_left
  ·simp only [Act.put, List.setIfInBounds_toArray, List.set_cons_zero, List.set_cons_succ, i64_w, i32_w]
   rfl
  refine one_ (i := 2) (N := none) #[true, true, true] rfl rfl (by kernel_rfl) (by decide) (fun K hK => ?_)
  have hs12 : w11.cell? ⟨gb113, 0, none⟩ = some (.int .i64 0) := (blk_cell BK113.out 0).trans rfl
  have hfs12 := blk_frozen BK113.out 0
  have hns12_1 := NB116_113.out
  have hms12_1 := NB113_116.out
  have hs13 : w11.cell? ⟨gb113, 1, none⟩ = some (.int .i64 0) := (blk_cell BK113.out 1).trans rfl
  have hfs13 := blk_frozen BK113.out 1
  have hns13_1 := NB116_113.out
  have hms13_1 := NB113_116.out
  refine skip_ (w1 := ?_) (by rfl) rfl ?_ ?_
  rotate_left
  ·go_simp
   rfl
  refine hK.out _ _ ⟨(qFw NB116_113.out (hHeld.1)), (qFw NB116_113.out (hHeld.2))⟩ (fun hHeld => ?_)
  clear hK K
  refine done_ (by kernel_rfl) ?_
  try go_wp2
  refine bodyPost_ret (results_tc rfl _ _ gb113 24 #[.int .i64 t114, .int .i64 t115] (0, 0) _ rfl (by (with_reducible repeat (first | refine blk_drewN ?_ _ | refine blk_drew ?_ | refine blk_alloc ?_ _)); refine blk_put (cs := #[.int .i64 t114, .int .i64 0]) ?_ 1 _ rfl; (with_reducible repeat (first | refine blk_drewN ?_ _ | refine blk_drew ?_ | refine blk_alloc ?_ _)); refine blk_put (cs := #[.int .i64 0, .int .i64 0]) ?_ 0 _ rfl; exact qK BK113) Try.underlying24 rfl (by kernel_rfl)) rfl ?_
  exact ⟨_, qE, qL, qB⟩
 ·rw [if_neg c4] at H
  have c4b0 : (!(t114 == 0) || (!(t115 == 0))) = false := by simpa using c4
  clear c4
  replace H := Option.bind_eq_some_iff.mp H
  obtain ⟨⟨t117, t118⟩, A140, H⟩ := H
  replace H : (if (!(t117 == 0) || (!(t118 == 0))) = true then (some (([] : List Int), t117, t118)) else ((arrange_Wanted.f l0 l1).bind fun t120 => (some (t120, 0, 0)))) = some (r1, r2, r3) := H
  have A14 := Aside0.mk A140
  clear A140
  by_cases c15 : (!(t117 == 0) || (!(t118 == 0))) = true
  ·rw [if_pos c15] at H
   have c15b0 : (!(t117 == 0) || (!(t118 == 0))) = true := c15
   clear c15
   simp only [Option.some.injEq, Prod.mk.injEq] at H
   obtain ⟨rfl, rfl, rfl⟩ := H
   go_enter Try.func9, Try.ntmps9
   try go_wp2_with (first | ((with_reducible refine gate_dst (N := 5) rfl ?_); refine qX (N := 5) (cs := #[.int .i64 0, .int .i64 0]) (t := 24) ?_; intro gb113 hg w16 hbox hb; refine up4 (bH hb) (am hbox) (bW hg) (bW hg) ?_; clear HB hb hbox hg; intro HB BK113 GW113 GE113) | ((with_reducible refine gate_callee (f := 19) rfl ?_); refine goesL_ (some 9) rfl rfl Try.func19 (by kernel_rfl) rfl #[.slice A0 l0.length c0, .int .i64 200, .int .i64 (-1)] rfl qA ?_; (with_reducible refine (arrange_names.calls _ _ l0 200 (-1) t114 t115 _ ?side1 ?side2 A3.out).mono ?_); (case side1 => exact qC HR0 HB); (case side2 => exact HC0.out); rintro e w17 ⟨rfl, hb⟩; refine ⟨_, rfl, ?_⟩; refine up2 (bB BK113 hb) (bH hb) ?_; clear BK113 HB; intro BK113 HB; (try clear hb); (try clear hb2); (try clear hk); (try clear hi)) | ((with_reducible refine gate_dst (N := 6) rfl ?_); refine qX (N := 6) (cs := #[.int .i64 0, .int .i64 0]) (t := 24) ?_; intro gb116 hg w18 hbox hb; refine up7 (bB BK113 hb) (bH hb) (am hbox) (bW hg) (bW hg) (bL BK113 hg) (bG BK113 hg) ?_; clear BK113 HB hb hbox hg; intro BK113 HB BK116 GW116 GE116 NB113_116 NB116_113; have hnb19 := NB116_113.out; have hnc19 := NB113_116.out; have hcz20 := blkC2 BK116.out) | ((with_reducible refine gate_callee (f := 19) rfl ?_); refine goesL_ (some 15) rfl rfl Try.func19 (by kernel_rfl) rfl #[.slice A1 l1.length c1, .int .i64 40, .int .i64 (-2)] rfl qA ?_; (with_reducible refine (arrange_names.calls _ _ l1 40 (-2) t117 t118 _ ?side1 ?side2 A14.out).mono ?_); (case side1 => exact Kd.C_below HR1.out qB); (case side2 => exact HC1.out); rintro e w21 ⟨rfl, hb⟩; refine ⟨_, rfl, ?_⟩; refine up3 (bP (o := .cells #[.int .i64 0, .int .i64 0] 24 (0, 0)) BK113 hb) (bP (o := .cells #[.int .i64 t114, .int .i64 t115] 24 (0, 0)) BK116 hb) (bH hb) ?_; clear BK113 BK116 HB; intro BK113 BK116 HB; (try clear hb); (try clear hb2); (try clear hk); (try clear hi)) | ((with_reducible refine gate_dst (N := 7) rfl ?_); refine qX (N := 7) (cs := #[.int .i64 0, .int .i64 0]) (t := 24) ?_; intro gb119 hg w22 hbox hb; refine up10 (bB BK113 hb) (bB BK116 hb) (bH hb) (am hbox) (bW hg) (bW hg) (bL BK113 hg) (bG BK113 hg) (bL BK116 hg) (bG BK116 hg) ?_; clear BK113 BK116 HB hb hbox hg; intro BK113 BK116 HB BK119 GW119 GE119 NB113_119 NB119_113 NB116_119 NB119_116; have hnb23 := NB119_113.out; have hnc23 := NB113_119.out; have hnb24 := NB119_116.out; have hnc24 := NB116_119.out; have hcz25 := blkC2 BK119.out))
   have n0_ : Aside0 (((w22.setCell ⟨gb119, 0, none⟩ (.int .i64 t117)).setCell ⟨gb119, 1, none⟩ (.int .i64 t118)).heap[gb113]? = some (.cells #[.int .i64 0, .int .i64 0] 24 (0, 0))) := ⟨qP BK113⟩
   have n1_ : Aside0 (((w22.setCell ⟨gb119, 0, none⟩ (.int .i64 t117)).setCell ⟨gb119, 1, none⟩ (.int .i64 t118)).heap[gb116]? = some (.cells #[.int .i64 t114, .int .i64 t115] 24 (0, 0))) := ⟨qP BK116⟩
   have n2_ : Aside0 (((w22.setCell ⟨gb119, 0, none⟩ (.int .i64 t117)).setCell ⟨gb119, 1, none⟩ (.int .i64 t118)).heap[gb119]? = some (.cells #[.int .i64 t117, .int .i64 t118] 24 (0, 0))) := ⟨qP BK119⟩
   have n3_ : Aside0 (Below w.heap.size w ((w22.setCell ⟨gb119, 0, none⟩ (.int .i64 t117)).setCell ⟨gb119, 1, none⟩ (.int .i64 t118))) := ⟨qB⟩
   (try clear BK113)
   (try clear BK116)
   (try clear BK119)
   (try clear HB)
   generalize ((w22.setCell ⟨gb119, 0, none⟩ (.int .i64 t117)).setCell ⟨gb119, 1, none⟩ (.int .i64 t118)) = w26 at n0_ n1_ n2_ n3_ ⊢
   have BK113 := n0_
   have BK116 := n1_
   have BK119 := n2_
   have HB := n3_
   clear n0_ n1_ n2_ n3_
   refine up4 (am (blk_drew BK113.out)) (am (blk_drew BK116.out)) (am (blk_drew BK119.out)) (am (below_drew1 HB.out)) ?_
   clear BK113 BK116 BK119 HB
   intro BK113 BK116 BK119 HB
   refine start_ (n := 3) (S := fun w' => w'.cell? ⟨gb119, 0, none⟩ = some (.int .i64 t117) ∧ w'.cell? ⟨gb119, 1, none⟩ = some (.int .i64 t118)) (ds := []) #[false, false, false] (by kernel_rfl) rfl rfl ⟨(blk_cell BK119.out 0).trans rfl, (blk_cell BK119.out 1).trans rfl⟩ (fun hHeld => ?_)
   generalize w26.drew = w27 at BK113 BK116 BK119 HB hHeld ⊢
   refine pure_ (i := 1) (N := some 4) (v := ?_) (a' := ?_) #[false, true, false] rfl rfl (by kernel_rfl) (fun _ _ _ h => h) (Or.inl ⟨by rfl, ?_⟩) ?_ ?_
   rotate_left
   ·intro w'
    go_simp
    with_reducible rfl
   rotate_left
   ·simp only [Act.put, List.setIfInBounds_toArray, List.set_cons_zero, List.set_cons_succ, i64_w, i32_w]
    rfl
   refine take_ (i := 0) (N := some 19) (v := ?_) (a' := ?_) #[true, true, false] rfl rfl (by kernel_rfl) (fun _ _ _ h => h) (Or.inl ⟨by rfl, ?_⟩) hHeld ?_ ?_
   rotate_left
   ·rintro w' ⟨s0, s1⟩
    go_simp
    with_reducible rfl
   rotate_left
   ·simp only [Act.put, List.setIfInBounds_toArray, List.set_cons_zero, List.set_cons_succ, i64_w, i32_w]
    rfl
   refine one_ (i := 2) (N := none) #[true, true, true] rfl rfl (by kernel_rfl) (by decide) (fun K hK => ?_)
   have hs28 : w27.cell? ⟨gb113, 0, none⟩ = some (.int .i64 0) := (blk_cell BK113.out 0).trans rfl
   have hfs28 := blk_frozen BK113.out 0
   have hns28_1 := NB116_113.out
   have hns28_2 := NB119_113.out
   have hms28_1 := NB113_116.out
   have hms28_2 := NB113_119.out
   have hs29 : w27.cell? ⟨gb113, 1, none⟩ = some (.int .i64 0) := (blk_cell BK113.out 1).trans rfl
   have hfs29 := blk_frozen BK113.out 1
   have hns29_1 := NB116_113.out
   have hns29_2 := NB119_113.out
   have hms29_1 := NB113_116.out
   have hms29_2 := NB113_119.out
   refine skip_ (w1 := ?_) (by rfl) rfl ?_ ?_
   rotate_left
   ·go_simp
    rfl
   refine hK.out _ _ ⟨(qFw NB119_113.out (hHeld.1)), (qFw NB119_113.out (hHeld.2))⟩ (fun hHeld => ?_)
   clear hK K
   refine done_ (by kernel_rfl) ?_
   try go_wp2
   refine bodyPost_ret (results_tc rfl _ _ gb113 24 #[.int .i64 t117, .int .i64 t118] (0, 0) _ rfl (by (with_reducible repeat (first | refine blk_drewN ?_ _ | refine blk_drew ?_ | refine blk_alloc ?_ _)); refine blk_put (cs := #[.int .i64 t117, .int .i64 0]) ?_ 1 _ rfl; (with_reducible repeat (first | refine blk_drewN ?_ _ | refine blk_drew ?_ | refine blk_alloc ?_ _)); refine blk_put (cs := #[.int .i64 0, .int .i64 0]) ?_ 0 _ rfl; exact qK BK113) Try.underlying24 rfl (by kernel_rfl)) rfl ?_
   exact ⟨_, qE, qL, qB⟩
  ·rw [if_neg c15] at H
   have c15b0 : (!(t117 == 0) || (!(t118 == 0))) = false := by simpa using c15
   clear c15
   replace H := Option.bind_eq_some_iff.mp H
   obtain ⟨t120, A300, H⟩ := H
   replace H : (some (t120, 0, 0)) = some (r1, r2, r3) := H
   have A30 := Aside0.mk A300
   clear A300
   simp only [Option.some.injEq, Prod.mk.injEq] at H
   obtain ⟨rfl, rfl, rfl⟩ := H
   go_enter Try.func9, Try.ntmps9
   go_wp2_with (first | ((with_reducible refine gate_dst (N := 5) rfl ?_); refine qX (N := 5) (cs := #[.int .i64 0, .int .i64 0]) (t := 24) ?_; intro gb113 hg w31 hbox hb; refine up4 (bH hb) (am hbox) (bW hg) (bW hg) ?_; clear HB hb hbox hg; intro HB BK113 GW113 GE113) | ((with_reducible refine gate_callee (f := 19) rfl ?_); refine goesL_ (some 9) rfl rfl Try.func19 (by kernel_rfl) rfl #[.slice A0 l0.length c0, .int .i64 200, .int .i64 (-1)] rfl qA ?_; (with_reducible refine (arrange_names.calls _ _ l0 200 (-1) t114 t115 _ ?side1 ?side2 A3.out).mono ?_); (case side1 => exact qC HR0 HB); (case side2 => exact HC0.out); rintro e w32 ⟨rfl, hb⟩; refine ⟨_, rfl, ?_⟩; refine up2 (bB BK113 hb) (bH hb) ?_; clear BK113 HB; intro BK113 HB; (try clear hb); (try clear hb2); (try clear hk); (try clear hi)) | ((with_reducible refine gate_dst (N := 6) rfl ?_); refine qX (N := 6) (cs := #[.int .i64 0, .int .i64 0]) (t := 24) ?_; intro gb116 hg w33 hbox hb; refine up7 (bB BK113 hb) (bH hb) (am hbox) (bW hg) (bW hg) (bL BK113 hg) (bG BK113 hg) ?_; clear BK113 HB hb hbox hg; intro BK113 HB BK116 GW116 GE116 NB113_116 NB116_113; have hnb34 := NB116_113.out; have hnc34 := NB113_116.out; have hcz35 := blkC2 BK116.out) | ((with_reducible refine gate_callee (f := 19) rfl ?_); refine goesL_ (some 15) rfl rfl Try.func19 (by kernel_rfl) rfl #[.slice A1 l1.length c1, .int .i64 40, .int .i64 (-2)] rfl qA ?_; (with_reducible refine (arrange_names.calls _ _ l1 40 (-2) t117 t118 _ ?side1 ?side2 A14.out).mono ?_); (case side1 => exact Kd.C_below HR1.out qB); (case side2 => exact HC1.out); rintro e w36 ⟨rfl, hb⟩; refine ⟨_, rfl, ?_⟩; refine up3 (bP (o := .cells #[.int .i64 0, .int .i64 0] 24 (0, 0)) BK113 hb) (bP (o := .cells #[.int .i64 t114, .int .i64 t115] 24 (0, 0)) BK116 hb) (bH hb) ?_; clear BK113 BK116 HB; intro BK113 BK116 HB; (try clear hb); (try clear hb2); (try clear hk); (try clear hi)) | ((with_reducible refine gate_dst (N := 7) rfl ?_); refine qX (N := 7) (cs := #[.int .i64 0, .int .i64 0]) (t := 24) ?_; intro gb119 hg w37 hbox hb; refine up10 (bB BK113 hb) (bB BK116 hb) (bH hb) (am hbox) (bW hg) (bW hg) (bL BK113 hg) (bG BK113 hg) (bL BK116 hg) (bG BK116 hg) ?_; clear BK113 BK116 HB hb hbox hg; intro BK113 BK116 HB BK119 GW119 GE119 NB113_119 NB119_113 NB116_119 NB119_116; have hnb38 := NB119_113.out; have hnc38 := NB113_119.out; have hnb39 := NB119_116.out; have hnc39 := NB116_119.out; have hcz40 := blkC2 BK119.out) | ((with_reducible refine gate_callee (f := 20) rfl ?_); refine goesL_ (some 22) rfl rfl Try.func20 (by kernel_rfl) rfl #[.slice A0 l0.length c0, .slice A1 l1.length c1] rfl qA ?_; (with_reducible refine (arrange_Wanted.calls _ _ l0 _ _ l1 t120 _ ?side1 ?side2 ?side3 ?side4 A30.out).mono ?_); (case side1 => exact Kd.C_below HR0.out qB); (case side2 => exact HC0.out); (case side3 => exact Kd.C_below HR1.out qB); (case side4 => exact HC1.out); rintro e w41 ⟨v121, rfl, ho0, hb⟩; refine ⟨_, rfl, ?_⟩; refine up5 (am (Kd.R_lower ho0 (below_size qB))) (bP (o := .cells #[.int .i64 0, .int .i64 0] 24 (0, 0)) BK113 hb) (bP (o := .cells #[.int .i64 t114, .int .i64 t115] 24 (0, 0)) BK116 hb) (bP (o := .cells #[.int .i64 t117, .int .i64 t118] 24 (0, 0)) BK119 hb) (bH hb) ?_; clear BK113 BK116 BK119 HB; intro HO122 BK113 BK116 BK119 HB; (try clear hb); (try clear hb2); (try clear hk); (try clear hi); (try clear ho0); have hcz42 := blkC2 BK113.out))
   refine bodyPost_ret (results_tc rfl _ _ gb113 24 #[.int .i64 0, .int .i64 0] (0, 0) _ rfl (by (with_reducible repeat (first | refine blk_drewN ?_ _ | refine blk_drew ?_ | refine blk_alloc ?_ _)); refine blk_put (cs := #[.int .i64 0, .int .i64 0]) ?_ 1 _ rfl; (with_reducible repeat (first | refine blk_drewN ?_ _ | refine blk_drew ?_ | refine blk_alloc ?_ _)); refine blk_put (cs := #[.int .i64 0, .int .i64 0]) ?_ 0 _ rfl; exact qK BK113) Try.underlying24 rfl (by kernel_rfl)) rfl ?_
   exact ⟨_, qE, by (with_reducible repeat (first | apply Kd.R_alloc | apply Kd.R_drewN | apply Kd.R_drew)); exact Kd.R_mono (Kd.R_far (p := ⟨gb113, 1, none⟩) (Kd.R_far (p := ⟨gb113, 0, none⟩) (Kd.R_types HO122.out BK113.out (by decide)) (fun _ hk => hk.2) (.int .i64 0)) (fun _ hk => hk.2) (.int .i64 0)) (fun _ hk => trivial), qB⟩

/-! ### law_ints: function 11 -/
def law_ints.l0 : Nat → List Int → List Int → Int → Option (Bool)
 | 0, _, _, _ => none
 | k + 1, x0, x1, x5 => if x5 < (x0.length : Int) then (if 0 ≤ x5 then (if x5 < (x1.length : Int) then (if (rd x0 x5) = (rd x1 x5) then (law_ints.l0 k x0 x1 (wrap64 (x5 + 1))) else (some false)) else (none)) else (none)) else (some true)
def law_ints.f (k : Nat) (l0 : List Int) (l1 : List Int) : Option (Bool) := if (l0.length : Int) = (l1.length : Int) then (law_ints.l0 k l0 l1 0) else (some false)
theorem law_ints.mono_l : ∀ k, (∀ y0 y1 y2, LeO (law_ints.l0 k y0 y1 y2) (law_ints.l0 (k + 1) y0 y1 y2))
 | 0 => fun _ _ _ r h => by simp [law_ints.l0] at h
 | k + 1 => by
  have ih0 := law_ints.mono_l k
  ·intro y0 y1 y2
   unfold law_ints.l0
   repeat' first
   | (with_reducible exact ih0 _ _ _)
   | (with_reducible exact LeO.refl _)
   | (with_reducible exact LeO.none _)
   | (with_reducible refine LeO.ite ?_ ?_)
   | (with_reducible refine LeO.bind ?_ (fun _ => ?_))
   | exact ih0 _ _ _
   | exact LeO.none _
   | refine LeO.ite ?_ ?_
   | refine LeO.bind ?_ (fun _ => ?_)
theorem law_ints.mono : ∀ a0 a1 k, LeO (law_ints.f k a0 a1) (law_ints.f (k + 1) a0 a1) := by
 intro a0 a1 k
 have ih0 := law_ints.mono_l k
 unfold law_ints.f
 repeat' first
   | (with_reducible exact ih0 _ _ _)
   | (with_reducible exact LeO.refl _)
   | (with_reducible exact LeO.none _)
   | (with_reducible refine LeO.ite ?_ ?_)
   | (with_reducible refine LeO.bind ?_ (fun _ => ?_))
   | exact ih0 _ _ _
   | exact LeO.none _
   | refine LeO.ite ?_ ?_
   | refine LeO.bind ?_ (fun _ => ?_)
set_option maxHeartbeats 8000000 in
set_option maxRecDepth 100000 in
theorem law_ints.calls (k : Nat) (A0 : Option Addr) (c0 : Nat) (l0 : List Int) (A1 : Option Addr) (c1 : Nat) (l1 : List Int) (r : Bool) (w : World) (hr0 : Kd.C (Kd.int .i64) w A0 l0.length l0) (hc0 : l0.length ≤ c0) (hr1 : Kd.C (Kd.int .i64) w A1 l1.length l1) (hc1 : l1.length ≤ c1) (h : law_ints.f k l0 l1 = some r) :
  Calls Try.prog 11 #[.slice A0 l0.length c0, .slice A1 l1.length c1] w fun e w' => e = .returned (.bool r) ∧ Drawn0 w w' := by
 have HR0 := Aside0.mk hr0
 have HC0 := Aside0.mk hc0
 clear hr0 hc0
 have HR1 := Aside0.mk hr1
 have HC1 := Aside0.mk hc1
 clear hr1 hc1
 have H : (if (l0.length : Int) = (l1.length : Int) then (law_ints.l0 k l0 l1 0) else (some false)) = some r := h
 clear h
 by_cases c3 : (l0.length : Int) = (l1.length : Int)
 ·rw [if_pos c3] at H
  have c3b0 : ((l0.length : Int) == (l1.length : Int)) = true := beq_iff_eq.mpr c3
  have c3b1 : ((l0.length : Int) != (l1.length : Int)) = false := bne_eq_false_iff_eq.mpr c3
  have c3b2 : (l0.length == l1.length) = true := by first | simpa using c3 | (simp at c3 ⊢; omega)
  clear c3
  have H' := Aside0.mk H
  clear H
  go_enter Try.func11, Try.ntmps11
  go_wp2_with (first | go_in | ((with_reducible refine gate_draws ?_); go_quiet (fail)))
  go_loopg [5] k (fun kq v5 w' => ∃ (x5_1 : Int), v5 = .int .i64 x5_1 ∧ Aside0 (law_ints.l0 kq l0 l1 x5_1 = some r) ∧ Aside0 (kq ≤ k) ∧ Drawn0 w w')
  case atStart => exact ⟨(0), qF, H', ⟨Nat.le_refl _⟩, by repeat (first | exact Drawn0.refl _ | apply Drawn0.step)⟩
  case round =>
   clear H'
   try clear c1
   try clear p2
   try clear c3
   try clear c3b0
   try clear c3b1
   try clear c3b2
   obtain ⟨x5_1, rfl, HA, HK1, ⟨m1, rfl⟩⟩ := hrel
   cases gk with
   | zero => exact absurd HA.out (by simp [law_ints.l0])
   | succ k1 =>
    have H := HA.out
    clear HA
    simp only [law_ints.l0] at H
    by_cases c4 : x5_1 < (l0.length : Int)
    ·rw [if_pos c4] at H
     have c4b0 : decide (x5_1 < (l0.length : Int)) = true := decide_eq_true c4
     clear c4
     by_cases c5 : 0 ≤ x5_1
     ·rw [if_pos c5] at H
      have c5b0 : decide (0 ≤ x5_1) = true := decide_eq_true c5
      clear c5
      by_cases c6 : x5_1 < (l1.length : Int)
      ·rw [if_pos c6] at H
       have c6b0 : decide (x5_1 < (l1.length : Int)) = true := decide_eq_true c6
       clear c6
       by_cases c7 : (rd l0 x5_1) = (rd l1 x5_1)
       ·rw [if_pos c7] at H
        have c7b0 : ((rd l0 x5_1) == (rd l1 x5_1)) = true := beq_iff_eq.mpr c7
        have c7b1 : ((rd l0 x5_1) != (rd l1 x5_1)) = false := bne_eq_false_iff_eq.mpr c7
        clear c7
        have H' := Aside0.mk H
        clear H
        have p123 : 0 ≤ (x5_1 : Int) := of_decide_eq_true qO
        have q123 : x5_1 < (l0.length : Int) := of_decide_eq_true qO
        obtain ⟨ad123, e123, hx123_0⟩ := Kd.at_int HR0.out x5_1 p123 q123
        cases e123
        replace p123 := eq_true p123
        replace q123 := eq_true q123
        have p124 : 0 ≤ (x5_1 : Int) := of_decide_eq_true qO
        have q124 : x5_1 < (l1.length : Int) := of_decide_eq_true qO
        obtain ⟨ad124, e124, hx124_0⟩ := Kd.at_int HR1.out x5_1 p124 q124
        cases e124
        replace p124 := eq_true p124
        replace q124 := eq_true q124
        go_wp2_with (first | go_in | ((with_reducible refine gate_draws ?_); go_quiet (fail)))
        go_roundg k1
        case measure => have := HK1.out; omega
        case rel => exact ⟨(wrap64 (x5_1 + 1)), qF, H', ⟨by have := HK1.out; omega⟩, by repeat (first | exact Drawn0.refl _ | apply Drawn0.step)⟩
       ·rw [if_neg c7] at H
        have c7b0 : ((rd l0 x5_1) == (rd l1 x5_1)) = false := beq_eq_false_iff_ne.mpr c7
        have c7b1 : ((rd l0 x5_1) != (rd l1 x5_1)) = true := bne_iff_ne.mpr c7
        obtain rfl := Option.some.inj H
        have p123 : 0 ≤ (x5_1 : Int) := of_decide_eq_true qO
        have q123 : x5_1 < (l0.length : Int) := of_decide_eq_true qO
        obtain ⟨ad123, e123, hx123_0⟩ := Kd.at_int HR0.out x5_1 p123 q123
        cases e123
        replace p123 := eq_true p123
        replace q123 := eq_true q123
        have p124 : 0 ≤ (x5_1 : Int) := of_decide_eq_true qO
        have q124 : x5_1 < (l1.length : Int) := of_decide_eq_true qO
        obtain ⟨ad124, e124, hx124_0⟩ := Kd.at_int HR1.out x5_1 p124 q124
        cases e124
        replace p124 := eq_true p124
        replace q124 := eq_true q124
        go_wp2_with (first | go_in | ((with_reducible refine gate_draws ?_); go_quiet (fail)))
        go_ret
        exact ⟨qF, by repeat (first | exact Drawn0.refl _ | apply Drawn0.step)⟩
      ·rw [if_neg c6] at H
       exact absurd H (by simp)
     ·rw [if_neg c5] at H
      exact absurd H (by simp)
    ·rw [if_neg c4] at H
     have c4b0 : decide (x5_1 < (l0.length : Int)) = false := decide_eq_false c4
     clear c4
     obtain rfl := Option.some.inj H
     go_wp2_with (first | go_in | ((with_reducible refine gate_draws ?_); go_quiet (fail)))
     go_ret
     exact ⟨qF, by repeat (first | exact Drawn0.refl _ | apply Drawn0.step)⟩
 ·rw [if_neg c3] at H
  have c3b0 : ((l0.length : Int) == (l1.length : Int)) = false := beq_eq_false_iff_ne.mpr c3
  have c3b1 : ((l0.length : Int) != (l1.length : Int)) = true := bne_iff_ne.mpr c3
  have c3b2 : (l0.length == l1.length) = false := by first | simpa using c3 | (simp at c3 ⊢; omega)
  obtain rfl := Option.some.inj H
  go_enter Try.func11, Try.ntmps11
  go_wp2_with (first | go_in | ((with_reducible refine gate_draws ?_); go_quiet (fail)))
  go_ret
  exact ⟨qF, by repeat (first | exact Drawn0.refl _ | apply Drawn0.step)⟩

end Go.Proofs.Ytoegghjhepkfkaa.PArr
