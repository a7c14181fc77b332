/- Written by a program of this session, for the law(s) Arr: contracts of the Go functions that the law reaches, each against a plain Lean function. No condition. -/
import Derived.Test.YtoegghjhepkfkaaPArrx0
import Derived.Test.YtoegghjhepkfkaaPArrx7
import Derived.Test.YtoegghjhepkfkaaPArrx10
import Derived.Test.YtoegghjhepkfkaaPArrx11
import Derived.Test.YtoegghjhepkfkaaPArrx12
namespace Go.Proofs.Ytoegghjhepkfkaa.PArr
open Go.RowKit Go.Proofs.YtoegghjhepkfkaaW.PrintWords Go.Proofs.YtoegghjhepkfkaaW.PrintLast Go.Proofs.YtoegghjhepkfkaaW.PrintMore
attribute [local go_sem] max2_int min2_int max_two min_two max_three min_three max_four min_four   -- for this text's walks alone
set_option linter.unusedVariables false
set_option linter.unusedSimpArgs false

/-! ### law_ArrangeInvertsTwice: function 5 -/
def law_ArrangeInvertsTwice.j0 : Nat → List ByteArray → List Int → Bool → Option (Bool)
 | 0, _, _, _ => none
 | k + 1, x0, x5, x23 => if x23 = true then ((law_orders.f k).bind fun t256 => (if t256 = true then (some ((x5.length : Int) == 0)) else (none))) else ((arrange_Inverse.f x5).bind fun bt257 => ((arrange_Inverse.f bt257.1).bind fun bt263 => (if bt257.2.1 = 0 then (if bt263.2.1 = 0 then (if (x5.length : Int) = (x0.length : Int) then ((ref_Permutes.f k x5).bind fun t269 => (if t269 = true then ((law_ints.f k bt263.1 x5).bind fun t270 => (some t270)) else (none))) else (none)) else (none)) else (none))))
def law_ArrangeInvertsTwice.f (k : Nat) (l0 : List ByteArray) (l1 : List ByteArray) : Option (Bool) := (arrange_ByNames.f l0 l1).bind fun bt249 => ((law_orders.f k).bind fun t255 => (if t255 = true then (law_ArrangeInvertsTwice.j0 k l0 bt249.1 (bt249.2.1 != 0)) else (law_ArrangeInvertsTwice.j0 k l0 bt249.1 true)))
theorem law_ArrangeInvertsTwice.mono_l : ∀ k, (∀ y0 y1 y2, LeO (law_ArrangeInvertsTwice.j0 k y0 y1 y2) (law_ArrangeInvertsTwice.j0 (k + 1) y0 y1 y2))
 | 0 => fun _ _ _ r h => by simp [law_ArrangeInvertsTwice.j0] at h
 | k + 1 => by
  have ih0 := law_ArrangeInvertsTwice.mono_l k
  ·intro y0 y1 y2
   unfold law_ArrangeInvertsTwice.j0
   repeat' first
   | (with_reducible exact ih0 _ _ _)
   | (with_reducible exact law_ints.mono _ _ _)
   | (with_reducible exact law_orders.mono _)
   | (with_reducible exact ref_Permutes.mono _ _)
   | (with_reducible exact LeO.refl _)
   | (with_reducible exact LeO.none _)
   | (with_reducible refine LeO.ite ?_ ?_)
   | (with_reducible refine LeO.bind ?_ (fun _ => ?_))
   | exact ih0 _ _ _
   | exact law_ints.mono _ _ _
   | exact law_orders.mono _
   | exact ref_Permutes.mono _ _
   | exact LeO.none _
   | refine LeO.ite ?_ ?_
   | refine LeO.bind ?_ (fun _ => ?_)
theorem law_ArrangeInvertsTwice.mono : ∀ a0 a1 k, LeO (law_ArrangeInvertsTwice.f k a0 a1) (law_ArrangeInvertsTwice.f (k + 1) a0 a1) := by
 intro a0 a1 k
 have ih0 := law_ArrangeInvertsTwice.mono_l k
 unfold law_ArrangeInvertsTwice.f
 repeat' first
   | (with_reducible exact ih0 _ _ _)
   | (with_reducible exact law_ints.mono _ _ _)
   | (with_reducible exact law_orders.mono _)
   | (with_reducible exact ref_Permutes.mono _ _)
   | (with_reducible exact LeO.refl _)
   | (with_reducible exact LeO.none _)
   | (with_reducible refine LeO.ite ?_ ?_)
   | (with_reducible refine LeO.bind ?_ (fun _ => ?_))
   | exact ih0 _ _ _
   | exact law_ints.mono _ _ _
   | exact law_orders.mono _
   | exact ref_Permutes.mono _ _
   | exact LeO.none _
   | refine LeO.ite ?_ ?_
   | refine LeO.bind ?_ (fun _ => ?_)
set_option maxHeartbeats 8000000 in
set_option maxRecDepth 100000 in
theorem law_ArrangeInvertsTwice.calls (k : Nat) (A0 : Option Addr) (c0 : Nat) (l0 : List ByteArray) (A1 : Option Addr) (c1 : Nat) (l1 : List ByteArray) (r : Bool) (w : World) (hr0 : Kd.C Kd.string w A0 l0.length l0) (hc0 : l0.length ≤ c0) (hr1 : Kd.C Kd.string w A1 l1.length l1) (hc1 : l1.length ≤ c1) (h : law_ArrangeInvertsTwice.f k l0 l1 = some r) :
  Calls Try.prog 5 #[.slice A0 l0.length c0, .slice A1 l1.length c1] w fun e w' => e = .returned (.bool r) ∧ Below w.heap.size w w' := by
 have hu24 := Try.underlying24
 have HR0 := Aside0.mk hr0
 have HC0 := Aside0.mk hc0
 clear hr0 hc0
 have HR1 := Aside0.mk hr1
 have HC1 := Aside0.mk hc1
 clear hr1 hc1
 have HB := Aside0.mk (Below.refl w.heap.size w)
 have H : ((arrange_ByNames.f l0 l1).bind fun bt249 => ((law_orders.f k).bind fun t255 => (if t255 = true then (law_ArrangeInvertsTwice.j0 k l0 bt249.1 (bt249.2.1 != 0)) else (law_ArrangeInvertsTwice.j0 k l0 bt249.1 true)))) = some r := h
 clear h
 replace H := Option.bind_eq_some_iff.mp H
 obtain ⟨⟨t249, t252, t253⟩, A30, H⟩ := H
 replace H : ((law_orders.f k).bind fun t255 => (if t255 = true then (law_ArrangeInvertsTwice.j0 k l0 t249 (t252 != 0)) else (law_ArrangeInvertsTwice.j0 k l0 t249 true))) = some r := H
 have A3 := Aside0.mk A30
 clear A30
 have HC4 := Aside0.mk H
 clear H
 go_enter Try.func5, Try.ntmps5
 go_upto_region 2 with (first | ((with_reducible refine gate_callee (f := 9) rfl ?_); refine goesL_ (some 14) rfl rfl Try.func9 (by kernel_rfl) rfl #[.slice A0 l0.length c0, .slice A1 l1.length c1] rfl qA ?_; (with_reducible refine (arrange_ByNames.calls _ _ l0 _ _ l1 t249 t252 t253 _ ?side1 ?side2 ?side3 ?side4 A3.out).mono ?_); (case side1 => exact qCn HR0); (case side2 => exact HC0.out); (case side3 => exact qCn HR1); (case side4 => exact HC1.out); rintro e w5 ⟨v250, rfl, ho0, hb⟩; refine ⟨_, rfl, ?_⟩; refine up2 (am (Kd.R_lower ho0 (below_size qB))) (bH hb) ?_; clear HB; intro HO251 HB; (try clear hb); (try clear hb2); (try clear hk); (try clear hi); (try clear ho0)) | ((with_reducible refine gate_dst (N := 6) rfl ?_); (try (refine gate_guard (by rfl) ?_; dsimp only)); refine qX (N := 6) (cs := #[.int .i64 0, .int .i64 0]) (t := 24) ?_; intro gb254 hg w6 hbox hb; refine up5 (am (Kd.R_below (qR HO251) hb)) (bH hb) (am hbox) (bW hg) (bW hg) ?_; clear HO251 HB hb hbox hg; intro HO251 HB BK254 GW254 GE254; have hcz7 := blkC2 BK254.out))
 (try simp only [Act.put, List.setIfInBounds_toArray, List.set_cons_zero, List.set_cons_succ])
 go_cut [23] (fun v23 wc => ∃ (kq : Nat) (x23_3 : Bool), v23 = .bool x23_3 ∧ Aside0 (law_ArrangeInvertsTwice.j0 kq l0 t249 x23_3 = some r) ∧ Aside0 (kq ≤ k) ∧ Aside0 (Kd.R (Kd.int .i64) 3 wc w.heap.size (fun _ => True) v250 t249) ∧ Aside0 (wc.heap[gb254]? = some (.cells #[.int .i64 t252, .int .i64 t253] 24 (0, 0))) ∧ Aside0 (Below w.heap.size w wc))
 case first =>
  have H := HC4.out
  clear HC4
  replace H := Option.bind_eq_some_iff.mp H
  obtain ⟨t255, A80, H⟩ := H
  replace H : (if t255 = true then (law_ArrangeInvertsTwice.j0 k l0 t249 (t252 != 0)) else (law_ArrangeInvertsTwice.j0 k l0 t249 true)) = some r := H
  have A8 := Aside0.mk A80
  clear A80
  by_cases c9 : t255 = true
  ·subst c9
   have H1 : (law_ArrangeInvertsTwice.j0 k l0 t249 (t252 != 0)) = some r := by rw [if_pos rfl] at H; exact H
   clear H
   have H := H1
   clear H1
   have H' := Aside0.mk H
   clear H
   go_wp2_with (first | ((with_reducible refine gate_callee (f := 10) rfl ?_); refine goesL_ (some 17) rfl rfl Try.func10 (by kernel_rfl) rfl #[] rfl qA ?_; (with_reducible refine (law_orders.calls k  true _ A8.out).mono ?_); rintro e w10 ⟨rfl, hb⟩; refine ⟨_, rfl, ?_⟩; refine up3 (am (Kd.R_below (by (with_reducible repeat (first | apply Kd.R_alloc | apply Kd.R_drewN | apply Kd.R_drew)); exact (Kd.R_mono (Kd.R_far (p := ⟨gb254, 1, none⟩) (Kd.R_far (p := ⟨gb254, 0, none⟩) (Kd.R_types HO251.out BK254.out (by decide)) (fun _ hk => hk.2) (.int .i64 t252)) (fun _ hk => hk.2) (.int .i64 t253)) (fun _ h_ => h_.1))) hb)) (bP (o := .cells #[.int .i64 t252, .int .i64 t253] 24 (0, 0)) BK254 hb) (bH hb) ?_; clear HO251 BK254 HB; intro HO251 BK254 HB; (try clear hb); (try clear hb2); (try clear hk); (try clear hi); have hcz11 := blkC2 BK254.out))
   go_meet
   case rel => exact ⟨_, ((t252 != 0)), qF, H', ⟨by first | omega | exact Nat.le_refl _⟩, ⟨qR HO251⟩, ⟨qK BK254⟩, ⟨qB⟩⟩
  ·replace c9 := Bool.eq_false_iff.mpr c9
   subst c9
   have H1 : (law_ArrangeInvertsTwice.j0 k l0 t249 true) = some r := by rw [if_neg (show ¬ (false = true) by decide)] at H; exact H
   clear H
   have H := H1
   clear H1
   have H' := Aside0.mk H
   clear H
   go_wp2_with (first | ((with_reducible refine gate_callee (f := 10) rfl ?_); refine goesL_ (some 17) rfl rfl Try.func10 (by kernel_rfl) rfl #[] rfl qA ?_; (with_reducible refine (law_orders.calls k  false _ A8.out).mono ?_); rintro e w12 ⟨rfl, hb⟩; refine ⟨_, rfl, ?_⟩; refine up3 (am (Kd.R_below (by (with_reducible repeat (first | apply Kd.R_alloc | apply Kd.R_drewN | apply Kd.R_drew)); exact (Kd.R_mono (Kd.R_far (p := ⟨gb254, 1, none⟩) (Kd.R_far (p := ⟨gb254, 0, none⟩) (Kd.R_types HO251.out BK254.out (by decide)) (fun _ hk => hk.2) (.int .i64 t252)) (fun _ hk => hk.2) (.int .i64 t253)) (fun _ h_ => h_.1))) hb)) (bP (o := .cells #[.int .i64 t252, .int .i64 t253] 24 (0, 0)) BK254 hb) (bH hb) ?_; clear HO251 BK254 HB; intro HO251 BK254 HB; (try clear hb); (try clear hb2); (try clear hk); (try clear hi)))
   go_meet
   case rel => exact ⟨_, (true), qF, H', ⟨by first | omega | exact Nat.le_refl _⟩, ⟨qR HO251⟩, ⟨qK BK254⟩, ⟨qB⟩⟩
 case rest =>
  clear HC4
  try clear c1
  try clear p2
  try clear c5
  try clear c9
  try clear c10
  try clear hcz11
  try clear hcz7
  obtain ⟨kq, x23_3, rfl, HA, HJ3, HO_5, BK254, HB⟩ := hcut
  cases kq with
  | zero => exact absurd HA.out (by simp [law_ArrangeInvertsTwice.j0])
  | succ kj3 =>
   have H := HA.out
   clear HA
   simp only [law_ArrangeInvertsTwice.j0] at H
   by_cases c13 : x23_3 = true
   ·subst c13
    have H1 : ((law_orders.f kj3).bind fun t256 => (if t256 = true then (some ((t249.length : Int) == 0)) else (none))) = some r := by rw [if_pos rfl] at H; exact H
    clear H
    have H := H1
    clear H1
    replace H := Option.bind_eq_some_iff.mp H
    obtain ⟨t256, A140, H⟩ := H
    replace H : (if t256 = true then (some ((t249.length : Int) == 0)) else (none)) = some r := H
    have A14 := Aside0.mk A140
    clear A140
    by_cases c15 : t256 = true
    ·subst c15
     have H1 : (some ((t249.length : Int) == 0)) = some r := by rw [if_pos rfl] at H; exact H
     clear H
     have H := H1
     clear H1
     obtain rfl := Option.some.inj H
     go_wp2_with (first | ((with_reducible refine gate_callee (f := 10) rfl ?_); refine goesL_ (some 24) rfl rfl Try.func10 (by kernel_rfl) rfl #[] rfl qA ?_; (with_reducible refine (law_orders.calls kj3  true _ A14.out).mono ?_); rintro e w16 ⟨rfl, hb⟩; refine ⟨_, rfl, ?_⟩; refine up3 (am (Kd.R_below (qR HO_5) hb)) (bB BK254 hb) (bH hb) ?_; clear HO_5 BK254 HB; intro HO_5 BK254 HB; (try clear hb); (try clear hb2); (try clear hk); (try clear hi); obtain ⟨Ao17, co17, eo17⟩ := Kd.R_slice HO_5.out; subst eo17))
     go_ret
     exact ⟨qE, qB⟩
    ·replace c15 := Bool.eq_false_iff.mpr c15
     subst c15
     have H1 : (none) = some r := by rw [if_neg (show ¬ (false = true) by decide)] at H; exact H
     clear H
     have H := H1
     clear H1
     exact absurd H (by simp)
   ·replace c13 := Bool.eq_false_iff.mpr c13
    subst c13
    have H1 : ((arrange_Inverse.f t249).bind fun bt257 => ((arrange_Inverse.f bt257.1).bind fun bt263 => (if bt257.2.1 = 0 then (if bt263.2.1 = 0 then (if (t249.length : Int) = (l0.length : Int) then ((ref_Permutes.f kj3 t249).bind fun t269 => (if t269 = true then ((law_ints.f kj3 bt263.1 t249).bind fun t270 => (some t270)) else (none))) else (none)) else (none)) else (none)))) = some r := by rw [if_neg (show ¬ (false = true) by decide)] at H; exact H
    clear H
    have H := H1
    clear H1
    replace H := Option.bind_eq_some_iff.mp H
    obtain ⟨⟨t257, t260, t261⟩, A180, H⟩ := H
    replace H : ((arrange_Inverse.f t257).bind fun bt263 => (if t260 = 0 then (if bt263.2.1 = 0 then (if (t249.length : Int) = (l0.length : Int) then ((ref_Permutes.f kj3 t249).bind fun t269 => (if t269 = true then ((law_ints.f kj3 bt263.1 t249).bind fun t270 => (some t270)) else (none))) else (none)) else (none)) else (none))) = some r := H
    have A18 := Aside0.mk A180
    clear A180
    replace H := Option.bind_eq_some_iff.mp H
    obtain ⟨⟨t263, t266, t267⟩, A190, H⟩ := H
    replace H : (if t260 = 0 then (if t266 = 0 then (if (t249.length : Int) = (l0.length : Int) then ((ref_Permutes.f kj3 t249).bind fun t269 => (if t269 = true then ((law_ints.f kj3 t263 t249).bind fun t270 => (some t270)) else (none))) else (none)) else (none)) else (none)) = some r := H
    have A19 := Aside0.mk A190
    clear A190
    by_cases c20 : t260 = 0
    ·rw [if_pos c20] at H
     have c20b0 : (t260 == 0) = true := beq_iff_eq.mpr c20
     have c20b1 : (t260 != 0) = false := bne_eq_false_iff_eq.mpr c20
     clear c20
     by_cases c21 : t266 = 0
     ·rw [if_pos c21] at H
      have c21b0 : (t266 == 0) = true := beq_iff_eq.mpr c21
      have c21b1 : (t266 != 0) = false := bne_eq_false_iff_eq.mpr c21
      clear c21
      by_cases c22 : (t249.length : Int) = (l0.length : Int)
      ·rw [if_pos c22] at H
       have c22b0 : ((t249.length : Int) == (l0.length : Int)) = true := beq_iff_eq.mpr c22
       have c22b1 : ((t249.length : Int) != (l0.length : Int)) = false := bne_eq_false_iff_eq.mpr c22
       have c22b2 : (t249.length == l0.length) = true := by first | simpa using c22 | (simp at c22 ⊢; omega)
       clear c22
       replace H := Option.bind_eq_some_iff.mp H
       obtain ⟨t269, A230, H⟩ := H
       replace H : (if t269 = true then ((law_ints.f kj3 t263 t249).bind fun t270 => (some t270)) else (none)) = some r := H
       have A23 := Aside0.mk A230
       clear A230
       by_cases c24 : t269 = true
       ·subst c24
        have H1 : ((law_ints.f kj3 t263 t249).bind fun t270 => (some t270)) = some r := by rw [if_pos rfl] at H; exact H
        clear H
        have H := H1
        clear H1
        replace H := Option.bind_eq_some_iff.mp H
        obtain ⟨t270, A250, H⟩ := H
        replace H : (some t270) = some r := H
        have A25 := Aside0.mk A250
        clear A250
        obtain rfl := Option.some.inj H
        obtain ⟨Ao26, co26, eo26⟩ := Kd.R_slice HO_5.out
        subst eo26
        go_wp2_with (first | ((with_reducible refine gate_callee (f := 16) rfl ?_); refine goesL_ (some 32) rfl rfl Try.func16 (by kernel_rfl) rfl #[.slice Ao26 t249.length co26] rfl qA ?_; (with_reducible refine (arrange_Inverse.calls _ _ t249 t257 t260 t261 _ ?side1 ?side2 A18.out).mono ?_); (case side1 => repeat (first | exact (Kd.R_reads' HO_5.out).2.2 | (with_reducible refine Kd.C_alloc ?_ _) | (with_reducible refine Kd.C_drewN ?_ _) | (with_reducible refine Kd.C_drew ?_))); (case side2 => exact (Kd.R_reads' HO_5.out).2.1); rintro e w27 ⟨v258, rfl, ho0, hb⟩; refine ⟨_, rfl, ?_⟩; refine up4 (am (Kd.R_elder' (qR HO_5) (Kd.R_base ho0) hb)) (am (Kd.R_lower (Kd.R_new' ho0 (Kd.R_lt (qR HO_5))) (below_size qB))) (bB BK254 hb) (bH hb) ?_; clear HO_5 BK254 HB; intro HO_5 HO259 BK254 HB; (try clear hb); (try clear hb2); (try clear hk); (try clear hi); (try clear ho0)) | ((with_reducible refine gate_dst (N := 8) rfl ?_); (try (refine gate_guard (by rfl) ?_; dsimp only)); refine qX (N := 8) (cs := #[.int .i64 0, .int .i64 0]) (t := 24) ?_; intro gb262 hg w28 hbox hb; refine up9 (am (Kd.R_below (qR HO_5) hb)) (am (Kd.R_below (qR HO259) hb)) (bB BK254 hb) (bH hb) (am hbox) (bW hg) (bW hg) (bL BK254 hg) (bG BK254 hg) ?_; clear HO_5 HO259 BK254 HB hb hbox hg; intro HO_5 HO259 BK254 HB BK262 GW262 GE262 NB254_262 NB262_254; have hnb29 := NB262_254.out; have hnc29 := NB254_262.out; have hcz30 := blkC2 BK262.out; obtain ⟨Ao31, co31, eo31⟩ := Kd.R_slice HO259.out; subst eo31) | ((with_reducible refine gate_callee (f := 16) rfl ?_); refine goesL_ (some 37) rfl rfl Try.func16 (by kernel_rfl) rfl #[.slice Ao31 t257.length co31] rfl qA ?_; (with_reducible refine (arrange_Inverse.calls _ _ t257 t263 t266 t267 _ ?side1 ?side2 A19.out).mono ?_); (case side1 => refine (Kd.R_reads' (e := 3) (base := w.heap.size) (ok := fun k_ => (True ∧ some k_ ≠ (.slice Ao26 t249.length co26 : Value).ownBlock)) (n := t257.length) (c := co31) ?_).2.2; exact (by (with_reducible repeat (first | apply Kd.R_alloc | apply Kd.R_drewN | apply Kd.R_drew)); exact (Kd.R_mono (Kd.R_far (p := ⟨gb262, 1, none⟩) (Kd.R_far (p := ⟨gb262, 0, none⟩) (Kd.R_types HO259.out BK262.out (by decide)) (fun _ hk => hk.2) (.int .i64 t260)) (fun _ hk => hk.2) (.int .i64 t261)) (fun _ h_ => h_.1)))); (case side2 => exact (Kd.R_reads' HO259.out).2.1); rintro e w32 ⟨v264, rfl, ho0, hb⟩; refine ⟨_, rfl, ?_⟩; refine up6 (am (Kd.R_elder' (by (with_reducible repeat (first | apply Kd.R_alloc | apply Kd.R_drewN | apply Kd.R_drew)); exact (Kd.R_mono (Kd.R_far (p := ⟨gb262, 1, none⟩) (Kd.R_far (p := ⟨gb262, 0, none⟩) (Kd.R_types HO_5.out BK262.out (by decide)) (fun _ hk => hk.2) (.int .i64 t260)) (fun _ hk => hk.2) (.int .i64 t261)) (fun _ h_ => h_.1))) (Kd.R_base ho0) hb)) (am (Kd.R_elder' (by (with_reducible repeat (first | apply Kd.R_alloc | apply Kd.R_drewN | apply Kd.R_drew)); exact (Kd.R_mono (Kd.R_far (p := ⟨gb262, 1, none⟩) (Kd.R_far (p := ⟨gb262, 0, none⟩) (Kd.R_types HO259.out BK262.out (by decide)) (fun _ hk => hk.2) (.int .i64 t260)) (fun _ hk => hk.2) (.int .i64 t261)) (fun _ h_ => h_.1))) (Kd.R_base ho0) hb)) (am (Kd.R_lower (Kd.R_new' (Kd.R_new' ho0 (Kd.R_lt (by (with_reducible repeat (first | apply Kd.R_alloc | apply Kd.R_drewN | apply Kd.R_drew)); exact (Kd.R_mono (Kd.R_far (p := ⟨gb262, 1, none⟩) (Kd.R_far (p := ⟨gb262, 0, none⟩) (Kd.R_types HO_5.out BK262.out (by decide)) (fun _ hk => hk.2) (.int .i64 t260)) (fun _ hk => hk.2) (.int .i64 t261)) (fun _ h_ => h_.1))))) (Kd.R_lt (by (with_reducible repeat (first | apply Kd.R_alloc | apply Kd.R_drewN | apply Kd.R_drew)); exact (Kd.R_mono (Kd.R_far (p := ⟨gb262, 1, none⟩) (Kd.R_far (p := ⟨gb262, 0, none⟩) (Kd.R_types HO259.out BK262.out (by decide)) (fun _ hk => hk.2) (.int .i64 t260)) (fun _ hk => hk.2) (.int .i64 t261)) (fun _ h_ => h_.1))))) (below_size qB))) (bP (o := .cells #[.int .i64 t252, .int .i64 t253] 24 (0, 0)) BK254 hb) (bP (o := .cells #[.int .i64 t260, .int .i64 t261] 24 (0, 0)) BK262 hb) (bH hb) ?_; clear HO_5 HO259 BK254 BK262 HB; intro HO_5 HO259 HO265 BK254 BK262 HB; (try clear hb); (try clear hb2); (try clear hk); (try clear hi); (try clear ho0)) | ((with_reducible refine gate_dst (N := 10) rfl ?_); (try (refine gate_guard (by rfl) ?_; dsimp only)); refine qX (N := 10) (cs := #[.int .i64 0, .int .i64 0]) (t := 24) ?_; intro gb268 hg w33 hbox hb; refine up13 (am (Kd.R_below (qR HO_5) hb)) (am (Kd.R_below (qR HO259) hb)) (am (Kd.R_below (qR HO265) hb)) (bB BK254 hb) (bB BK262 hb) (bH hb) (am hbox) (bW hg) (bW hg) (bL BK254 hg) (bG BK254 hg) (bL BK262 hg) (bG BK262 hg) ?_; clear HO_5 HO259 HO265 BK254 BK262 HB hb hbox hg; intro HO_5 HO259 HO265 BK254 BK262 HB BK268 GW268 GE268 NB254_268 NB268_254 NB262_268 NB268_262; have hnb34 := NB268_254.out; have hnc34 := NB254_268.out; have hnb35 := NB268_262.out; have hnc35 := NB262_268.out; have hcz36 := blkC2 BK268.out; have hcz37 := blkC2 BK262.out) | (go_at_call 14; (with_reducible refine (ref_Permutes.calls kj3 _ _ t249 true _ ?side1 ?side2 A23.out).mono ?_); (case side1 => refine (Kd.R_reads' (e := 3) (base := w.heap.size) (ok := fun k_ => ((True ∧ some k_ ≠ (.slice Ao31 t257.length co31 : Value).ownBlock) ∧ some k_ ≠ (v264 : Value).ownBlock)) (n := t249.length) (c := co26) ?_).2.2; exact (by (with_reducible repeat (first | apply Kd.R_alloc | apply Kd.R_drewN | apply Kd.R_drew)); exact (Kd.R_mono (Kd.R_far (p := ⟨gb268, 1, none⟩) (Kd.R_far (p := ⟨gb268, 0, none⟩) (Kd.R_types HO_5.out BK268.out (by decide)) (fun _ hk => hk.2) (.int .i64 t266)) (fun _ hk => hk.2) (.int .i64 t267)) (fun _ h_ => h_.1)))); (case side2 => exact (Kd.R_reads' HO_5.out).2.1); rintro e w' ⟨rfl, ⟨nd, rfl⟩⟩; obtain ⟨Ao38, co38, eo38⟩ := Kd.R_slice HO265.out; subst eo38) | (go_at_call 11; (with_reducible refine (law_ints.calls kj3 _ _ t263 _ _ t249 t270 _ ?side1 ?side2 ?side3 ?side4 A25.out).mono ?_); (case side1 => refine (Kd.R_reads' (e := 3) (base := w.heap.size) (ok := fun k_ => ((True ∧ some k_ ≠ (.slice Ao26 t249.length co26 : Value).ownBlock) ∧ some k_ ≠ (.slice Ao31 t257.length co31 : Value).ownBlock)) (n := t263.length) (c := co38) ?_).2.2; exact (by (with_reducible repeat (first | apply Kd.R_alloc | apply Kd.R_drewN | apply Kd.R_drew)); exact (Kd.R_mono (Kd.R_far (p := ⟨gb268, 1, none⟩) (Kd.R_far (p := ⟨gb268, 0, none⟩) (Kd.R_types HO265.out BK268.out (by decide)) (fun _ hk => hk.2) (.int .i64 t266)) (fun _ hk => hk.2) (.int .i64 t267)) (fun _ h_ => h_.1)))); (case side2 => exact (Kd.R_reads' HO265.out).2.1); (case side3 => refine (Kd.R_reads' (e := 3) (base := w.heap.size) (ok := fun k_ => ((True ∧ some k_ ≠ (.slice Ao31 t257.length co31 : Value).ownBlock) ∧ some k_ ≠ (.slice Ao38 t263.length co38 : Value).ownBlock)) (n := t249.length) (c := co26) ?_).2.2; exact (by (with_reducible repeat (first | apply Kd.R_alloc | apply Kd.R_drewN | apply Kd.R_drew)); exact (Kd.R_mono (Kd.R_far (p := ⟨gb268, 1, none⟩) (Kd.R_far (p := ⟨gb268, 0, none⟩) (Kd.R_types HO_5.out BK268.out (by decide)) (fun _ hk => hk.2) (.int .i64 t266)) (fun _ hk => hk.2) (.int .i64 t267)) (fun _ h_ => h_.1)))); (case side4 => exact (Kd.R_reads' HO_5.out).2.1); rintro e w' ⟨rfl, ⟨nd, rfl⟩⟩))
        go_ret
        exact ⟨qE, qB⟩
       ·replace c24 := Bool.eq_false_iff.mpr c24
        subst c24
        have H1 : (none) = some r := by rw [if_neg (show ¬ (false = true) by decide)] at H; exact H
        clear H
        have H := H1
        clear H1
        exact absurd H (by simp)
      ·rw [if_neg c22] at H
       exact absurd H (by simp)
     ·rw [if_neg c21] at H
      exact absurd H (by simp)
    ·rw [if_neg c20] at H
     exact absurd H (by simp)

/-- What is left to prove of law_ArrangeInvertsTwice. -/
def law_ArrangeInvertsTwice.Pure : Prop := ∀ (l0 : List ByteArray) (l1 : List ByteArray), l0.length ≤ 9223372036854775807 → l0.length * 16 ≤ 140737488351232 → (∀ y ∈ l0, y.size ≤ 9223372036854775807) → l1.length ≤ 9223372036854775807 → l1.length * 16 ≤ 140737488351232 → (∀ y ∈ l1, y.size ≤ 9223372036854775807) → ∃ k, law_ArrangeInvertsTwice.f k l0 l1 = some true

end Go.Proofs.Ytoegghjhepkfkaa.PArr
