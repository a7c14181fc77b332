/- Written by a program of this session, for the law(s) Place: contracts of the Go functions that the law reaches, each against a plain Lean function. No condition. -/
import Derived.Test.YtnbeamaoblmbhaaPPlacex0
import Derived.Test.YtnbeamaoblmbhaaPPlacex7
namespace Go.Proofs.Ytnbeamaoblmbhaa.PPlace
open Go.RowKit Go.Proofs.YtnbeamaoblmbhaaW.PrintWords Go.Proofs.YtnbeamaoblmbhaaW.PrintLast Go.Proofs.YtnbeamaoblmbhaaW.PrintMore
attribute [local go_sem] max2_int min2_int max_two min_two max_three min_three max_four min_four   -- for this text's walks alone
set_option linter.unusedVariables false
set_option linter.unusedSimpArgs false

/-! ### script_output: function 43 -/
mutual
def script_output.j0 : Nat → Bool → ByteArray → Int → Int → Int → Option (Int)
 | 0, _, _, _, _, _ => none
 | k + 1, x23, x189000, x189001, x189002, x189003 => if x23 = true then (some 3) else (if x189002 < 1 then (script_output.j1 k true x189000 x189001 x189002 x189003) else (if x189002 > 4096 then (script_output.j1 k true x189000 x189001 x189002 x189003) else (script_output.j1 k ((Go.bits .and .i64 x189002 (wrap64 (x189002 - 1))) != 0) x189000 x189001 x189002 x189003)))
def script_output.j1 : Nat → Bool → ByteArray → Int → Int → Int → Option (Int)
 | 0, _, _, _, _, _ => none
 | k + 1, x43, x189000, x189001, x189002, x189003 => if x43 = true then (some 3) else (if x189003 < 1 then (some 3) else (if x189003 > 7 then (some 3) else (some 0)))
end
def script_output.f (k : Nat) (l0_0 : List (S60)) (l0_1 : List (S72)) (a1 : Int) : Option (Int) := if 0 ≤ a1 then (if a1 < (l0_0.length : Int) then ((script_IsName.f k ((rd_T60 l0_0 a1).f0)).bind fun t189 => (if t189 = true then (if a1 ≤ (l0_0.length : Int) then ((cf47_48.f (l0_0.take (a1 : Int).toNat) ((rd_T60 l0_0 a1).f0)).bind fun t194 => (if t194 = true then (some 7) else (if ((rd_T60 l0_0 a1).f1) = (-1) then (script_output.j0 k false ((rd_T60 l0_0 a1).f0) ((rd_T60 l0_0 a1).f1) ((rd_T60 l0_0 a1).f2) ((rd_T60 l0_0 a1).f3)) else (if ((rd_T60 l0_0 a1).f1) < 0 then (script_output.j0 k true ((rd_T60 l0_0 a1).f0) ((rd_T60 l0_0 a1).f1) ((rd_T60 l0_0 a1).f2) ((rd_T60 l0_0 a1).f3)) else (if ((rd_T60 l0_0 a1).f1) ≥ 1048576 then (script_output.j0 k true ((rd_T60 l0_0 a1).f0) ((rd_T60 l0_0 a1).f1) ((rd_T60 l0_0 a1).f2) ((rd_T60 l0_0 a1).f3)) else (script_output.j0 k ((Int.tmod ((rd_T60 l0_0 a1).f1) 256) != 0) ((rd_T60 l0_0 a1).f0) ((rd_T60 l0_0 a1).f1) ((rd_T60 l0_0 a1).f2) ((rd_T60 l0_0 a1).f3))))))) else (none)) else (some 12))) else (none)) else (none)
theorem script_output.mono_l : ∀ k, (∀ y0 y1 y2 y3 y4, LeO (script_output.j0 k y0 y1 y2 y3 y4) (script_output.j0 (k + 1) y0 y1 y2 y3 y4)) ∧ (∀ y0 y1 y2 y3 y4, LeO (script_output.j1 k y0 y1 y2 y3 y4) (script_output.j1 (k + 1) y0 y1 y2 y3 y4))
 | 0 => ⟨fun _ _ _ _ _ r h => by simp [script_output.j0] at h, fun _ _ _ _ _ r h => by simp [script_output.j1] at h⟩
 | k + 1 => by
  obtain ⟨ih0, ih1⟩ := script_output.mono_l k
  refine ⟨?_, ?_⟩
  ·intro y0 y1 y2 y3 y4
   unfold script_output.j0
   repeat' first
   | (with_reducible exact ih0 _ _ _ _ _)
   | (with_reducible exact ih1 _ _ _ _ _)
   | (with_reducible exact script_IsName.mono _ _)
   | (with_reducible exact LeO.refl _)
   | (with_reducible exact LeO.none _)
   | (with_reducible refine LeO.ite ?_ ?_)
   | (with_reducible refine LeO.bind ?_ (fun _ => ?_))
   | exact ih0 _ _ _ _ _
   | exact ih1 _ _ _ _ _
   | exact script_IsName.mono _ _
   | exact LeO.none _
   | refine LeO.ite ?_ ?_
   | refine LeO.bind ?_ (fun _ => ?_)
  ·intro y0 y1 y2 y3 y4
   unfold script_output.j1
   repeat' first
   | (with_reducible exact ih0 _ _ _ _ _)
   | (with_reducible exact ih1 _ _ _ _ _)
   | (with_reducible exact script_IsName.mono _ _)
   | (with_reducible exact LeO.refl _)
   | (with_reducible exact LeO.none _)
   | (with_reducible refine LeO.ite ?_ ?_)
   | (with_reducible refine LeO.bind ?_ (fun _ => ?_))
   | exact ih0 _ _ _ _ _
   | exact ih1 _ _ _ _ _
   | exact script_IsName.mono _ _
   | exact LeO.none _
   | refine LeO.ite ?_ ?_
   | refine LeO.bind ?_ (fun _ => ?_)
theorem script_output.mono : ∀ a0 a1 a2 k, LeO (script_output.f k a0 a1 a2) (script_output.f (k + 1) a0 a1 a2) := by
 intro a0 a1 a2 k
 obtain ⟨ih0, ih1⟩ := script_output.mono_l k
 unfold script_output.f
 repeat' first
   | (with_reducible exact ih0 _ _ _ _ _)
   | (with_reducible exact ih1 _ _ _ _ _)
   | (with_reducible exact script_IsName.mono _ _)
   | (with_reducible exact LeO.refl _)
   | (with_reducible exact LeO.none _)
   | (with_reducible refine LeO.ite ?_ ?_)
   | (with_reducible refine LeO.bind ?_ (fun _ => ?_))
   | exact ih0 _ _ _ _ _
   | exact ih1 _ _ _ _ _
   | exact script_IsName.mono _ _
   | exact LeO.none _
   | refine LeO.ite ?_ ?_
   | refine LeO.bind ?_ (fun _ => ?_)
set_option maxHeartbeats 8000000 in
set_option maxRecDepth 100000 in
theorem script_output.calls (k : Nat) (A0_0 : Option Addr) (c0_0 : Nat) (l0_0 : List (S60)) (A0_1 : Option Addr) (c0_1 : Nat) (l0_1 : List (S72)) (a1 : Int) (r : Int) (w : World) (hr0_0 : Kd.C k60 w A0_0 l0_0.length l0_0) (hc0_0 : l0_0.length ≤ c0_0) (hr0_1 : Kd.C k72 w A0_1 l0_1.length l0_1) (hc0_1 : l0_1.length ≤ c0_1) (h : script_output.f k l0_0 l0_1 a1 = some r) :
  Calls Try.prog 43 #[.agg #[.slice A0_0 l0_0.length c0_0, .slice A0_1 l0_1.length c0_1], .int .i64 a1] w fun e w' => e = .returned (.int .i64 r) ∧ Below w.heap.size w w' := by
 have hu46 := Try.underlying46
 have hu60 := Try.underlying60
 have HR0_0 := Aside0.mk hr0_0
 have HC0_0 := Aside0.mk hc0_0
 clear hr0_0 hc0_0
 have HR0_1 := Aside0.mk hr0_1
 have HC0_1 := Aside0.mk hc0_1
 clear hr0_1 hc0_1
 have HB := Aside0.mk (Below.refl w.heap.size w)
 have H : (if 0 ≤ a1 then (if a1 < (l0_0.length : Int) then ((script_IsName.f k ((rd_T60 l0_0 a1).f0)).bind fun t189 => (if t189 = true then (if a1 ≤ (l0_0.length : Int) then ((cf47_48.f (l0_0.take (a1 : Int).toNat) ((rd_T60 l0_0 a1).f0)).bind fun t194 => (if t194 = true then (some 7) else (if ((rd_T60 l0_0 a1).f1) = (-1) then (script_output.j0 k false ((rd_T60 l0_0 a1).f0) ((rd_T60 l0_0 a1).f1) ((rd_T60 l0_0 a1).f2) ((rd_T60 l0_0 a1).f3)) else (if ((rd_T60 l0_0 a1).f1) < 0 then (script_output.j0 k true ((rd_T60 l0_0 a1).f0) ((rd_T60 l0_0 a1).f1) ((rd_T60 l0_0 a1).f2) ((rd_T60 l0_0 a1).f3)) else (if ((rd_T60 l0_0 a1).f1) ≥ 1048576 then (script_output.j0 k true ((rd_T60 l0_0 a1).f0) ((rd_T60 l0_0 a1).f1) ((rd_T60 l0_0 a1).f2) ((rd_T60 l0_0 a1).f3)) else (script_output.j0 k ((Int.tmod ((rd_T60 l0_0 a1).f1) 256) != 0) ((rd_T60 l0_0 a1).f0) ((rd_T60 l0_0 a1).f1) ((rd_T60 l0_0 a1).f2) ((rd_T60 l0_0 a1).f3))))))) else (none)) else (some 12))) else (none)) else (none)) = some r := h
 clear h
 by_cases c3 : 0 ≤ a1
 ·rw [if_pos c3] at H
  have c3b0 : decide (0 ≤ a1) = true := decide_eq_true c3
  clear c3
  by_cases c4 : a1 < (l0_0.length : Int)
  ·rw [if_pos c4] at H
   have c4b0 : decide (a1 < (l0_0.length : Int)) = true := decide_eq_true c4
   clear c4
   replace H := Option.bind_eq_some_iff.mp H
   obtain ⟨t189, A50, H⟩ := H
   replace H : (if t189 = true then (if a1 ≤ (l0_0.length : Int) then ((cf47_48.f (l0_0.take (a1 : Int).toNat) ((rd_T60 l0_0 a1).f0)).bind fun t194 => (if t194 = true then (some 7) else (if ((rd_T60 l0_0 a1).f1) = (-1) then (script_output.j0 k false ((rd_T60 l0_0 a1).f0) ((rd_T60 l0_0 a1).f1) ((rd_T60 l0_0 a1).f2) ((rd_T60 l0_0 a1).f3)) else (if ((rd_T60 l0_0 a1).f1) < 0 then (script_output.j0 k true ((rd_T60 l0_0 a1).f0) ((rd_T60 l0_0 a1).f1) ((rd_T60 l0_0 a1).f2) ((rd_T60 l0_0 a1).f3)) else (if ((rd_T60 l0_0 a1).f1) ≥ 1048576 then (script_output.j0 k true ((rd_T60 l0_0 a1).f0) ((rd_T60 l0_0 a1).f1) ((rd_T60 l0_0 a1).f2) ((rd_T60 l0_0 a1).f3)) else (script_output.j0 k ((Int.tmod ((rd_T60 l0_0 a1).f1) 256) != 0) ((rd_T60 l0_0 a1).f0) ((rd_T60 l0_0 a1).f1) ((rd_T60 l0_0 a1).f2) ((rd_T60 l0_0 a1).f3))))))) else (none)) else (some 12)) = some r := H
   have A5 := Aside0.mk A50
   clear A50
   by_cases c6 : t189 = true
   ·subst c6
    have H1 : (if a1 ≤ (l0_0.length : Int) then ((cf47_48.f (l0_0.take (a1 : Int).toNat) ((rd_T60 l0_0 a1).f0)).bind fun t194 => (if t194 = true then (some 7) else (if ((rd_T60 l0_0 a1).f1) = (-1) then (script_output.j0 k false ((rd_T60 l0_0 a1).f0) ((rd_T60 l0_0 a1).f1) ((rd_T60 l0_0 a1).f2) ((rd_T60 l0_0 a1).f3)) else (if ((rd_T60 l0_0 a1).f1) < 0 then (script_output.j0 k true ((rd_T60 l0_0 a1).f0) ((rd_T60 l0_0 a1).f1) ((rd_T60 l0_0 a1).f2) ((rd_T60 l0_0 a1).f3)) else (if ((rd_T60 l0_0 a1).f1) ≥ 1048576 then (script_output.j0 k true ((rd_T60 l0_0 a1).f0) ((rd_T60 l0_0 a1).f1) ((rd_T60 l0_0 a1).f2) ((rd_T60 l0_0 a1).f3)) else (script_output.j0 k ((Int.tmod ((rd_T60 l0_0 a1).f1) 256) != 0) ((rd_T60 l0_0 a1).f0) ((rd_T60 l0_0 a1).f1) ((rd_T60 l0_0 a1).f2) ((rd_T60 l0_0 a1).f3))))))) else (none)) = some r := by rw [if_pos rfl] at H; exact H
    clear H
    have H := H1
    clear H1
    have c7b0 := eq_true (of_decide_eq_true qO : 0 ≤ a1)
    by_cases c8 : a1 ≤ (l0_0.length : Int)
    ·rw [if_pos c8] at H
     have c8b0 := eq_true c8
     have c8b1 : decide (a1 ≤ (l0_0.length : Int)) = true := decide_eq_true c8
     clear c8
     obtain ⟨y190, hy190⟩ : ∃ y_ : List (S60), y_ = (l0_0.take (a1 : Int).toNat) := ⟨_, rfl⟩
     replace H : ((cf47_48.f y190 ((rd_T60 l0_0 a1).f0)).bind fun t194 => (if t194 = true then (some 7) else (if ((rd_T60 l0_0 a1).f1) = (-1) then (script_output.j0 k false ((rd_T60 l0_0 a1).f0) ((rd_T60 l0_0 a1).f1) ((rd_T60 l0_0 a1).f2) ((rd_T60 l0_0 a1).f3)) else (if ((rd_T60 l0_0 a1).f1) < 0 then (script_output.j0 k true ((rd_T60 l0_0 a1).f0) ((rd_T60 l0_0 a1).f1) ((rd_T60 l0_0 a1).f2) ((rd_T60 l0_0 a1).f3)) else (if ((rd_T60 l0_0 a1).f1) ≥ 1048576 then (script_output.j0 k true ((rd_T60 l0_0 a1).f0) ((rd_T60 l0_0 a1).f1) ((rd_T60 l0_0 a1).f2) ((rd_T60 l0_0 a1).f3)) else (script_output.j0 k ((Int.tmod ((rd_T60 l0_0 a1).f1) 256) != 0) ((rd_T60 l0_0 a1).f0) ((rd_T60 l0_0 a1).f1) ((rd_T60 l0_0 a1).f2) ((rd_T60 l0_0 a1).f3))))))) = some r := by first | (rw [hy190]; with_reducible exact H) | (have H2_ := (Option.bind_some _ _).symm.trans H; rw [hy190]; with_reducible exact H2_) | (have H2_ := (Option.bind_some _ _).symm.trans H; with_reducible exact H2_) | with_reducible exact H | (rw [hy190]; exact H) | exact H
     have Ny190 := Aside0.mk hy190
     clear hy190
     replace H := Option.bind_eq_some_iff.mp H
     obtain ⟨t194, A90, H⟩ := H
     replace H : (if t194 = true then (some 7) else (if ((rd_T60 l0_0 a1).f1) = (-1) then (script_output.j0 k false ((rd_T60 l0_0 a1).f0) ((rd_T60 l0_0 a1).f1) ((rd_T60 l0_0 a1).f2) ((rd_T60 l0_0 a1).f3)) else (if ((rd_T60 l0_0 a1).f1) < 0 then (script_output.j0 k true ((rd_T60 l0_0 a1).f0) ((rd_T60 l0_0 a1).f1) ((rd_T60 l0_0 a1).f2) ((rd_T60 l0_0 a1).f3)) else (if ((rd_T60 l0_0 a1).f1) ≥ 1048576 then (script_output.j0 k true ((rd_T60 l0_0 a1).f0) ((rd_T60 l0_0 a1).f1) ((rd_T60 l0_0 a1).f2) ((rd_T60 l0_0 a1).f3)) else (script_output.j0 k ((Int.tmod ((rd_T60 l0_0 a1).f1) 256) != 0) ((rd_T60 l0_0 a1).f0) ((rd_T60 l0_0 a1).f1) ((rd_T60 l0_0 a1).f2) ((rd_T60 l0_0 a1).f3)))))) = some r := H
     have A9 := Aside0.mk A90
     clear A90
     by_cases c10 : t194 = true
     ·subst c10
      have H1 : (some 7) = some r := by rw [if_pos rfl] at H; exact H
      clear H
      have H := H1
      clear H1
      obtain rfl := Option.some.inj H
      go_enter Try.func43, Try.ntmps43
      go_wp2_with (first | ((with_reducible refine gate_dst (N := 2) rfl ?_); refine qX (N := 2) (cs := #[.slice A0_0 l0_0.length c0_0, .slice A0_1 l0_1.length c0_1]) (t := 46) ?_; intro gb186 hg w11 hbox hb; have n0_ := Aside0.mk (below_step qB hb); have n1_ := Aside0.mk (hbox); have n2_ := Aside0.mk ((qG hg : w.heap.size ≤ gb186)); have n3_ := Aside0.mk ((qG hg : w.heap.size ≤ gb186)); clear HB; have HB := n0_; have BK186 := n1_; have GW186 := n2_; have GE186 := n3_; clear n0_ n1_ n2_ n3_; clear hb hbox hg; have hcz12_0 : w11.cell? ⟨gb186, 0, none⟩ = some (.slice A0_0 l0_0.length c0_0) := (blk_cell BK186.out 0).trans rfl; have hcz12_1 : w11.cell? ⟨gb186, 1, none⟩ = some (.slice A0_1 l0_1.length c0_1) := (blk_cell BK186.out 1).trans rfl; have hfz12_0 := blk_frozen BK186.out 0; have hfz12_1 := blk_frozen BK186.out 1; have p187 : 0 ≤ (a1 : Int) := of_decide_eq_true qO; have q187 : a1 < (l0_0.length : Int) := of_decide_eq_true qO; obtain ⟨ad187, e187, hx187_0, hx187_1, hx187_2, hx187_3⟩ := at_T60 HR0_0.out a1 p187 q187; cases e187; replace hx187_0 := (HB.out.cell (World.block_lt_of_cell? w _ hx187_0)).trans hx187_0; replace hx187_1 := (HB.out.cell (World.block_lt_of_cell? w _ hx187_1)).trans hx187_1; replace hx187_2 := (HB.out.cell (World.block_lt_of_cell? w _ hx187_2)).trans hx187_2; replace hx187_3 := (HB.out.cell (World.block_lt_of_cell? w _ hx187_3)).trans hx187_3; replace p187 := eq_true p187; replace q187 := eq_true q187) | ((with_reducible refine gate_dst (N := 5) rfl ?_); refine qX (N := 5) (cs := #[.string (⟨#[]⟩ : ByteArray), .int .i64 0, .int .i64 0, .int .i64 0]) (t := 60) ?_; intro gb188 hg w13 hbox hb; have n0_ := Aside0.mk (blk_below (g := gb186) (o := .cells #[.slice (some ad187) l0_0.length c0_0, .slice A0_1 l0_1.length c0_1] 46 (0, 0)) (qK BK186) hb); have n1_ := Aside0.mk (below_step qB hb); have n2_ := Aside0.mk (hbox); have n3_ := Aside0.mk ((qG hg : w.heap.size ≤ gb188)); have n4_ := Aside0.mk ((qG hg : w.heap.size ≤ gb188)); have n5_ := Aside0.mk ((by rw [hg]; exact Nat.ne_of_lt (blk_lt (g := gb186) (o := .cells #[.slice (some ad187) l0_0.length c0_0, .slice A0_1 l0_1.length c0_1] 46 (0, 0)) (qK BK186)) : gb186 ≠ gb188)); have n6_ := Aside0.mk ((by rw [hg]; exact Nat.ne_of_gt (blk_lt (g := gb186) (o := .cells #[.slice (some ad187) l0_0.length c0_0, .slice A0_1 l0_1.length c0_1] 46 (0, 0)) (qK BK186)) : gb188 ≠ gb186)); clear BK186; clear HB; have BK186 := n0_; have HB := n1_; have BK188 := n2_; have GW188 := n3_; have GE188 := n4_; have NB186_188 := n5_; have NB188_186 := n6_; clear n0_ n1_ n2_ n3_ n4_ n5_ n6_; clear hb hbox hg; have hnb14 := NB188_186.out; have hnc14 := NB186_188.out; have hcz15_0 : w13.cell? ⟨gb188, 0, none⟩ = some (.string (⟨#[]⟩ : ByteArray)) := (blk_cell BK188.out 0).trans rfl; have hcz15_1 : w13.cell? ⟨gb188, 1, none⟩ = some (.int .i64 0) := (blk_cell BK188.out 1).trans rfl; have hcz15_2 : w13.cell? ⟨gb188, 2, none⟩ = some (.int .i64 0) := (blk_cell BK188.out 2).trans rfl; have hcz15_3 : w13.cell? ⟨gb188, 3, none⟩ = some (.int .i64 0) := (blk_cell BK188.out 3).trans rfl; have hfz15_0 := blk_frozen BK188.out 0; have hfz15_1 := blk_frozen BK188.out 1; have hfz15_2 := blk_frozen BK188.out 2; have hfz15_3 := blk_frozen BK188.out 3) | ((with_reducible refine gate_store (t := 60) (p := 5) rfl ?_); refine store_event (t := 60) (p := 5) (v := ?vo_w16) (w1 := ((((w13.setCell ⟨gb188, 0, none⟩ (.string ((rd_T60 l0_0 a1).f0))).setCell ⟨gb188, 1, none⟩ (.int .i64 ((rd_T60 l0_0 a1).f1))).setCell ⟨gb188, 2, none⟩ (.int .i64 ((rd_T60 l0_0 a1).f2))).setCell ⟨gb188, 3, none⟩ (.int .i64 ((rd_T60 l0_0 a1).f3)))) ?hg ?ho ?hn ?hr ?_; (case ho => rfl); (case hg => rfl); (case hn => rfl); (case hr => first | (go_simp; done) | (go_simp; rfl)); intro w16 hw; have n0_ : Aside0 (w16.heap[gb186]? = some (.cells #[.slice (some ad187) l0_0.length c0_0, .slice A0_1 l0_1.length c0_1] 46 (0, 0))) := ⟨(by rw [hw]; exact (by (with_reducible repeat (first | refine blk_drewN ?_ _ | refine blk_drew ?_ | refine blk_alloc ?_ _)); refine blk_far ?_ NB186_188.out _; (with_reducible repeat (first | refine blk_drewN ?_ _ | refine blk_drew ?_ | refine blk_alloc ?_ _)); refine blk_far ?_ NB186_188.out _; (with_reducible repeat (first | refine blk_drewN ?_ _ | refine blk_drew ?_ | refine blk_alloc ?_ _)); refine blk_far ?_ NB186_188.out _; (with_reducible repeat (first | refine blk_drewN ?_ _ | refine blk_drew ?_ | refine blk_alloc ?_ _)); refine blk_far ?_ NB186_188.out _; exact qK BK186))⟩; have n1_ : Aside0 (w16.heap[gb188]? = some (.cells #[.string ((rd_T60 l0_0 a1).f0), .int .i64 ((rd_T60 l0_0 a1).f1), .int .i64 ((rd_T60 l0_0 a1).f2), .int .i64 ((rd_T60 l0_0 a1).f3)] 60 (0, 0))) := ⟨(by rw [hw]; exact (by (with_reducible repeat (first | refine blk_drewN ?_ _ | refine blk_drew ?_ | refine blk_alloc ?_ _)); refine blk_put (cs := #[.string ((rd_T60 l0_0 a1).f0), .int .i64 ((rd_T60 l0_0 a1).f1), .int .i64 ((rd_T60 l0_0 a1).f2), .int .i64 0]) ?_ 3 _ rfl; (with_reducible repeat (first | refine blk_drewN ?_ _ | refine blk_drew ?_ | refine blk_alloc ?_ _)); refine blk_put (cs := #[.string ((rd_T60 l0_0 a1).f0), .int .i64 ((rd_T60 l0_0 a1).f1), .int .i64 0, .int .i64 0]) ?_ 2 _ rfl; (with_reducible repeat (first | refine blk_drewN ?_ _ | refine blk_drew ?_ | refine blk_alloc ?_ _)); refine blk_put (cs := #[.string ((rd_T60 l0_0 a1).f0), .int .i64 0, .int .i64 0, .int .i64 0]) ?_ 1 _ rfl; (with_reducible repeat (first | refine blk_drewN ?_ _ | refine blk_drew ?_ | refine blk_alloc ?_ _)); refine blk_put (cs := #[.string (⟨#[]⟩ : ByteArray), .int .i64 0, .int .i64 0, .int .i64 0]) ?_ 0 _ rfl; exact qK BK188))⟩; have n2_ : Aside0 (Below w.heap.size w w16) := ⟨(by rw [hw]; exact qB)⟩; clear hw; clear BK186; clear BK188; clear HB; have BK186 := n0_; have BK188 := n1_; have HB := n2_; clear n0_ n1_ n2_; have hcz17_0 : w16.cell? ⟨gb188, 0, none⟩ = some (.string ((rd_T60 l0_0 a1).f0)) := (blk_cell BK188.out 0).trans rfl; have hcz17_1 : w16.cell? ⟨gb188, 1, none⟩ = some (.int .i64 ((rd_T60 l0_0 a1).f1)) := (blk_cell BK188.out 1).trans rfl; have hcz17_2 : w16.cell? ⟨gb188, 2, none⟩ = some (.int .i64 ((rd_T60 l0_0 a1).f2)) := (blk_cell BK188.out 2).trans rfl; have hcz17_3 : w16.cell? ⟨gb188, 3, none⟩ = some (.int .i64 ((rd_T60 l0_0 a1).f3)) := (blk_cell BK188.out 3).trans rfl; have hfz17_0 := blk_frozen BK188.out 0; have hfz17_1 := blk_frozen BK188.out 1; have hfz17_2 := blk_frozen BK188.out 2; have hfz17_3 := blk_frozen BK188.out 3) | ((with_reducible refine gate_callee (f := 46) rfl ?_); refine goesL_ (some 14) rfl rfl Try.func46 (by kernel_rfl) rfl #[.string ((rd_T60 l0_0 a1).f0)] rfl qA ?_; (with_reducible refine (script_IsName.calls k ((rd_T60 l0_0 a1).f0) true _ A5.out).mono ?_); rintro e w' ⟨rfl, ⟨nd, rfl⟩⟩; refine ⟨_, rfl, ?_⟩; have hcz18_0 : w16.cell? ⟨gb186, 0, none⟩ = some (.slice (some ad187) l0_0.length c0_0) := (blk_cell BK186.out 0).trans rfl; have hcz18_1 : w16.cell? ⟨gb186, 1, none⟩ = some (.slice A0_1 l0_1.length c0_1) := (blk_cell BK186.out 1).trans rfl; have hfz18_0 := blk_frozen BK186.out 0; have hfz18_1 := blk_frozen BK186.out 1; have q19 : (a1 : Int) ≤ ((l0_0.length : Int) : Int) := of_decide_eq_true qO; obtain ⟨i019, hi019, _, hsz19, _⟩ := info_parts info60; have hroom19 : l0_0.length ≤ c0_0 := HC0_0.out; have hC19 : Kd.C k60 _ (some ad187) l0_0.length l0_0 := HR0_0.out; have hcut19 := cut_to (P := Try.prog) 43 60 .i64 Try.underlying43 hi019 (some ad187) l0_0.length c0_0 a1 (of_decide_eq_true qO) q19 hroom19; have hr19 := Kd.C_take (m := (a1 : Int).toNat) hC19 (by omega); have hy19 : y190.length = (a1 : Int).toNat := (by rw [Ny190.out, List.length_take]; omega); rw [← Ny190.out] at hr19; rw [← hy19] at hcut19; have HR193 := Aside0.mk hr19; have HC193 := Aside0.mk (show y190.length ≤ c0_0 from by omega); clear hr19 hC19 hroom19 hi019 hsz19; have KY19 := Aside0.mk hy19; clear hy19; replace q19 := eq_true q19) | ((with_reducible refine gate_callee (f := 47) rfl ?_); refine goesL_ (some 22) rfl rfl Try.func47 (by kernel_rfl) rfl #[.slice (some ad187) y190.length c0_0, .func (.func 48) #[] #[.pointer (some ⟨gb188, 0, none⟩)]] rfl qA ?_; (with_reducible refine (cf47_48.calls _ _ y190 gb188 #[.string ((rd_T60 l0_0 a1).f0), .int .i64 ((rd_T60 l0_0 a1).f1), .int .i64 ((rd_T60 l0_0 a1).f2), .int .i64 ((rd_T60 l0_0 a1).f3)] ((rd_T60 l0_0 a1).f0) true _ ?side1 ?side2 ?side3 ?side4 A9.out).mono ?_); (case side1 => repeat (first | exact (Kd.C_below HR193.out qB) | (with_reducible refine Kd.C_alloc ?_ _) | (with_reducible refine Kd.C_drewN ?_ _) | (with_reducible refine Kd.C_drew ?_))); (case side2 => exact HC193.out); (case side3 => exact qK BK188); (case side4 => first | rfl | (simp; done)); rintro e w20 ⟨rfl, hb⟩; refine ⟨_, rfl, ?_⟩; have n0_ := Aside0.mk (blk_below (g := gb186) (o := .cells #[.slice (some ad187) l0_0.length c0_0, .slice A0_1 l0_1.length c0_1] 46 (0, 0)) (qK BK186) hb); have n1_ := Aside0.mk (blk_below (g := gb188) (o := .cells #[.string ((rd_T60 l0_0 a1).f0), .int .i64 ((rd_T60 l0_0 a1).f1), .int .i64 ((rd_T60 l0_0 a1).f2), .int .i64 ((rd_T60 l0_0 a1).f3)] 60 (0, 0)) (qK BK188) hb); have n2_ := Aside0.mk (below_step qB hb); clear BK186; clear BK188; clear HB; have BK186 := n0_; have BK188 := n1_; have HB := n2_; clear n0_ n1_ n2_; (try clear hb); (try clear hb2); (try clear hk); (try clear hi)))
      go_ret
      exact ⟨qE, qB⟩
     ·replace c10 := Bool.eq_false_iff.mpr c10
      subst c10
      have H1 : (if ((rd_T60 l0_0 a1).f1) = (-1) then (script_output.j0 k false ((rd_T60 l0_0 a1).f0) ((rd_T60 l0_0 a1).f1) ((rd_T60 l0_0 a1).f2) ((rd_T60 l0_0 a1).f3)) else (if ((rd_T60 l0_0 a1).f1) < 0 then (script_output.j0 k true ((rd_T60 l0_0 a1).f0) ((rd_T60 l0_0 a1).f1) ((rd_T60 l0_0 a1).f2) ((rd_T60 l0_0 a1).f3)) else (if ((rd_T60 l0_0 a1).f1) ≥ 1048576 then (script_output.j0 k true ((rd_T60 l0_0 a1).f0) ((rd_T60 l0_0 a1).f1) ((rd_T60 l0_0 a1).f2) ((rd_T60 l0_0 a1).f3)) else (script_output.j0 k ((Int.tmod ((rd_T60 l0_0 a1).f1) 256) != 0) ((rd_T60 l0_0 a1).f0) ((rd_T60 l0_0 a1).f1) ((rd_T60 l0_0 a1).f2) ((rd_T60 l0_0 a1).f3))))) = some r := by rw [if_neg (show ¬ (false = true) by decide)] at H; exact H
      clear H
      have H := H1
      clear H1
      have HC21 := Aside0.mk H
      clear H
      go_enter Try.func43, Try.ntmps43
      go_upto_region 6 with (first | ((with_reducible refine gate_dst (N := 2) rfl ?_); refine qX (N := 2) (cs := #[.slice A0_0 l0_0.length c0_0, .slice A0_1 l0_1.length c0_1]) (t := 46) ?_; intro gb186 hg w22 hbox hb; have n0_ := Aside0.mk (below_step qB hb); have n1_ := Aside0.mk (hbox); have n2_ := Aside0.mk ((qG hg : w.heap.size ≤ gb186)); have n3_ := Aside0.mk ((qG hg : w.heap.size ≤ gb186)); clear HB; have HB := n0_; have BK186 := n1_; have GW186 := n2_; have GE186 := n3_; clear n0_ n1_ n2_ n3_; clear hb hbox hg; have hcz23_0 : w22.cell? ⟨gb186, 0, none⟩ = some (.slice A0_0 l0_0.length c0_0) := (blk_cell BK186.out 0).trans rfl; have hcz23_1 : w22.cell? ⟨gb186, 1, none⟩ = some (.slice A0_1 l0_1.length c0_1) := (blk_cell BK186.out 1).trans rfl; have hfz23_0 := blk_frozen BK186.out 0; have hfz23_1 := blk_frozen BK186.out 1; have p187 : 0 ≤ (a1 : Int) := of_decide_eq_true qO; have q187 : a1 < (l0_0.length : Int) := of_decide_eq_true qO; obtain ⟨ad187, e187, hx187_0, hx187_1, hx187_2, hx187_3⟩ := at_T60 HR0_0.out a1 p187 q187; cases e187; replace hx187_0 := (HB.out.cell (World.block_lt_of_cell? w _ hx187_0)).trans hx187_0; replace hx187_1 := (HB.out.cell (World.block_lt_of_cell? w _ hx187_1)).trans hx187_1; replace hx187_2 := (HB.out.cell (World.block_lt_of_cell? w _ hx187_2)).trans hx187_2; replace hx187_3 := (HB.out.cell (World.block_lt_of_cell? w _ hx187_3)).trans hx187_3; replace p187 := eq_true p187; replace q187 := eq_true q187) | ((with_reducible refine gate_dst (N := 5) rfl ?_); refine qX (N := 5) (cs := #[.string (⟨#[]⟩ : ByteArray), .int .i64 0, .int .i64 0, .int .i64 0]) (t := 60) ?_; intro gb188 hg w24 hbox hb; have n0_ := Aside0.mk (blk_below (g := gb186) (o := .cells #[.slice (some ad187) l0_0.length c0_0, .slice A0_1 l0_1.length c0_1] 46 (0, 0)) (qK BK186) hb); have n1_ := Aside0.mk (below_step qB hb); have n2_ := Aside0.mk (hbox); have n3_ := Aside0.mk ((qG hg : w.heap.size ≤ gb188)); have n4_ := Aside0.mk ((qG hg : w.heap.size ≤ gb188)); have n5_ := Aside0.mk ((by rw [hg]; exact Nat.ne_of_lt (blk_lt (g := gb186) (o := .cells #[.slice (some ad187) l0_0.length c0_0, .slice A0_1 l0_1.length c0_1] 46 (0, 0)) (qK BK186)) : gb186 ≠ gb188)); have n6_ := Aside0.mk ((by rw [hg]; exact Nat.ne_of_gt (blk_lt (g := gb186) (o := .cells #[.slice (some ad187) l0_0.length c0_0, .slice A0_1 l0_1.length c0_1] 46 (0, 0)) (qK BK186)) : gb188 ≠ gb186)); clear BK186; clear HB; have BK186 := n0_; have HB := n1_; have BK188 := n2_; have GW188 := n3_; have GE188 := n4_; have NB186_188 := n5_; have NB188_186 := n6_; clear n0_ n1_ n2_ n3_ n4_ n5_ n6_; clear hb hbox hg; have hnb25 := NB188_186.out; have hnc25 := NB186_188.out; have hcz26_0 : w24.cell? ⟨gb188, 0, none⟩ = some (.string (⟨#[]⟩ : ByteArray)) := (blk_cell BK188.out 0).trans rfl; have hcz26_1 : w24.cell? ⟨gb188, 1, none⟩ = some (.int .i64 0) := (blk_cell BK188.out 1).trans rfl; have hcz26_2 : w24.cell? ⟨gb188, 2, none⟩ = some (.int .i64 0) := (blk_cell BK188.out 2).trans rfl; have hcz26_3 : w24.cell? ⟨gb188, 3, none⟩ = some (.int .i64 0) := (blk_cell BK188.out 3).trans rfl; have hfz26_0 := blk_frozen BK188.out 0; have hfz26_1 := blk_frozen BK188.out 1; have hfz26_2 := blk_frozen BK188.out 2; have hfz26_3 := blk_frozen BK188.out 3) | ((with_reducible refine gate_store (t := 60) (p := 5) rfl ?_); refine store_event (t := 60) (p := 5) (v := ?vo_w27) (w1 := ((((w24.setCell ⟨gb188, 0, none⟩ (.string ((rd_T60 l0_0 a1).f0))).setCell ⟨gb188, 1, none⟩ (.int .i64 ((rd_T60 l0_0 a1).f1))).setCell ⟨gb188, 2, none⟩ (.int .i64 ((rd_T60 l0_0 a1).f2))).setCell ⟨gb188, 3, none⟩ (.int .i64 ((rd_T60 l0_0 a1).f3)))) ?hg ?ho ?hn ?hr ?_; (case ho => rfl); (case hg => rfl); (case hn => rfl); (case hr => first | (go_simp; done) | (go_simp; rfl)); intro w27 hw; have n0_ : Aside0 (w27.heap[gb186]? = some (.cells #[.slice (some ad187) l0_0.length c0_0, .slice A0_1 l0_1.length c0_1] 46 (0, 0))) := ⟨(by rw [hw]; exact (by (with_reducible repeat (first | refine blk_drewN ?_ _ | refine blk_drew ?_ | refine blk_alloc ?_ _)); refine blk_far ?_ NB186_188.out _; (with_reducible repeat (first | refine blk_drewN ?_ _ | refine blk_drew ?_ | refine blk_alloc ?_ _)); refine blk_far ?_ NB186_188.out _; (with_reducible repeat (first | refine blk_drewN ?_ _ | refine blk_drew ?_ | refine blk_alloc ?_ _)); refine blk_far ?_ NB186_188.out _; (with_reducible repeat (first | refine blk_drewN ?_ _ | refine blk_drew ?_ | refine blk_alloc ?_ _)); refine blk_far ?_ NB186_188.out _; exact qK BK186))⟩; have n1_ : Aside0 (w27.heap[gb188]? = some (.cells #[.string ((rd_T60 l0_0 a1).f0), .int .i64 ((rd_T60 l0_0 a1).f1), .int .i64 ((rd_T60 l0_0 a1).f2), .int .i64 ((rd_T60 l0_0 a1).f3)] 60 (0, 0))) := ⟨(by rw [hw]; exact (by (with_reducible repeat (first | refine blk_drewN ?_ _ | refine blk_drew ?_ | refine blk_alloc ?_ _)); refine blk_put (cs := #[.string ((rd_T60 l0_0 a1).f0), .int .i64 ((rd_T60 l0_0 a1).f1), .int .i64 ((rd_T60 l0_0 a1).f2), .int .i64 0]) ?_ 3 _ rfl; (with_reducible repeat (first | refine blk_drewN ?_ _ | refine blk_drew ?_ | refine blk_alloc ?_ _)); refine blk_put (cs := #[.string ((rd_T60 l0_0 a1).f0), .int .i64 ((rd_T60 l0_0 a1).f1), .int .i64 0, .int .i64 0]) ?_ 2 _ rfl; (with_reducible repeat (first | refine blk_drewN ?_ _ | refine blk_drew ?_ | refine blk_alloc ?_ _)); refine blk_put (cs := #[.string ((rd_T60 l0_0 a1).f0), .int .i64 0, .int .i64 0, .int .i64 0]) ?_ 1 _ rfl; (with_reducible repeat (first | refine blk_drewN ?_ _ | refine blk_drew ?_ | refine blk_alloc ?_ _)); refine blk_put (cs := #[.string (⟨#[]⟩ : ByteArray), .int .i64 0, .int .i64 0, .int .i64 0]) ?_ 0 _ rfl; exact qK BK188))⟩; have n2_ : Aside0 (Below w.heap.size w w27) := ⟨(by rw [hw]; exact qB)⟩; clear hw; clear BK186; clear BK188; clear HB; have BK186 := n0_; have BK188 := n1_; have HB := n2_; clear n0_ n1_ n2_; have hcz28_0 : w27.cell? ⟨gb188, 0, none⟩ = some (.string ((rd_T60 l0_0 a1).f0)) := (blk_cell BK188.out 0).trans rfl; have hcz28_1 : w27.cell? ⟨gb188, 1, none⟩ = some (.int .i64 ((rd_T60 l0_0 a1).f1)) := (blk_cell BK188.out 1).trans rfl; have hcz28_2 : w27.cell? ⟨gb188, 2, none⟩ = some (.int .i64 ((rd_T60 l0_0 a1).f2)) := (blk_cell BK188.out 2).trans rfl; have hcz28_3 : w27.cell? ⟨gb188, 3, none⟩ = some (.int .i64 ((rd_T60 l0_0 a1).f3)) := (blk_cell BK188.out 3).trans rfl; have hfz28_0 := blk_frozen BK188.out 0; have hfz28_1 := blk_frozen BK188.out 1; have hfz28_2 := blk_frozen BK188.out 2; have hfz28_3 := blk_frozen BK188.out 3) | ((with_reducible refine gate_callee (f := 46) rfl ?_); refine goesL_ (some 14) rfl rfl Try.func46 (by kernel_rfl) rfl #[.string ((rd_T60 l0_0 a1).f0)] rfl qA ?_; (with_reducible refine (script_IsName.calls k ((rd_T60 l0_0 a1).f0) true _ A5.out).mono ?_); rintro e w' ⟨rfl, ⟨nd, rfl⟩⟩; refine ⟨_, rfl, ?_⟩; have hcz29_0 : w27.cell? ⟨gb186, 0, none⟩ = some (.slice (some ad187) l0_0.length c0_0) := (blk_cell BK186.out 0).trans rfl; have hcz29_1 : w27.cell? ⟨gb186, 1, none⟩ = some (.slice A0_1 l0_1.length c0_1) := (blk_cell BK186.out 1).trans rfl; have hfz29_0 := blk_frozen BK186.out 0; have hfz29_1 := blk_frozen BK186.out 1; have q30 : (a1 : Int) ≤ ((l0_0.length : Int) : Int) := of_decide_eq_true qO; obtain ⟨i030, hi030, _, hsz30, _⟩ := info_parts info60; have hroom30 : l0_0.length ≤ c0_0 := HC0_0.out; have hC30 : Kd.C k60 _ (some ad187) l0_0.length l0_0 := HR0_0.out; have hcut30 := cut_to (P := Try.prog) 43 60 .i64 Try.underlying43 hi030 (some ad187) l0_0.length c0_0 a1 (of_decide_eq_true qO) q30 hroom30; have hr30 := Kd.C_take (m := (a1 : Int).toNat) hC30 (by omega); have hy30 : y190.length = (a1 : Int).toNat := (by rw [Ny190.out, List.length_take]; omega); rw [← Ny190.out] at hr30; rw [← hy30] at hcut30; have HR193 := Aside0.mk hr30; have HC193 := Aside0.mk (show y190.length ≤ c0_0 from by omega); clear hr30 hC30 hroom30 hi030 hsz30; have KY30 := Aside0.mk hy30; clear hy30; replace q30 := eq_true q30) | ((with_reducible refine gate_callee (f := 47) rfl ?_); refine goesL_ (some 22) rfl rfl Try.func47 (by kernel_rfl) rfl #[.slice (some ad187) y190.length c0_0, .func (.func 48) #[] #[.pointer (some ⟨gb188, 0, none⟩)]] rfl qA ?_; (with_reducible refine (cf47_48.calls _ _ y190 gb188 #[.string ((rd_T60 l0_0 a1).f0), .int .i64 ((rd_T60 l0_0 a1).f1), .int .i64 ((rd_T60 l0_0 a1).f2), .int .i64 ((rd_T60 l0_0 a1).f3)] ((rd_T60 l0_0 a1).f0) false _ ?side1 ?side2 ?side3 ?side4 A9.out).mono ?_); (case side1 => repeat (first | exact (Kd.C_below HR193.out qB) | (with_reducible refine Kd.C_alloc ?_ _) | (with_reducible refine Kd.C_drewN ?_ _) | (with_reducible refine Kd.C_drew ?_))); (case side2 => exact HC193.out); (case side3 => exact qK BK188); (case side4 => first | rfl | (simp; done)); rintro e w31 ⟨rfl, hb⟩; refine ⟨_, rfl, ?_⟩; have n0_ := Aside0.mk (blk_below (g := gb186) (o := .cells #[.slice (some ad187) l0_0.length c0_0, .slice A0_1 l0_1.length c0_1] 46 (0, 0)) (qK BK186) hb); have n1_ := Aside0.mk (blk_below (g := gb188) (o := .cells #[.string ((rd_T60 l0_0 a1).f0), .int .i64 ((rd_T60 l0_0 a1).f1), .int .i64 ((rd_T60 l0_0 a1).f2), .int .i64 ((rd_T60 l0_0 a1).f3)] 60 (0, 0)) (qK BK188) hb); have n2_ := Aside0.mk (below_step qB hb); clear BK186; clear BK188; clear HB; have BK186 := n0_; have BK188 := n1_; have HB := n2_; clear n0_ n1_ n2_; (try clear hb); (try clear hb2); (try clear hk); (try clear hi)))
      (try simp only [Act.put, List.setIfInBounds_toArray, List.set_cons_zero, List.set_cons_succ])
      go_cut [23] (fun v23 wc => ∃ (kq : Nat) (x23_20 : Bool), v23 = .bool x23_20 ∧ Aside0 (script_output.j0 kq x23_20 ((rd_T60 l0_0 a1).f0) ((rd_T60 l0_0 a1).f1) ((rd_T60 l0_0 a1).f2) ((rd_T60 l0_0 a1).f3) = some r) ∧ Aside0 (kq ≤ k) ∧ Aside0 (wc.heap[gb186]? = some (.cells #[(.slice (some ad187) l0_0.length c0_0), (.slice A0_1 l0_1.length c0_1)] 46 (0, 0))) ∧ Aside0 (wc.heap[gb188]? = some (.cells #[.string ((rd_T60 l0_0 a1).f0), .int .i64 ((rd_T60 l0_0 a1).f1), .int .i64 ((rd_T60 l0_0 a1).f2), .int .i64 ((rd_T60 l0_0 a1).f3)] 60 (0, 0))) ∧ Aside0 (Below w.heap.size w wc))
      case first =>
       have H := HC21.out
       clear HC21
       by_cases c32 : ((rd_T60 l0_0 a1).f1) = (-1)
       ·rw [if_pos c32] at H
        have c32b0 : (((rd_T60 l0_0 a1).f1) == (-1)) = true := beq_iff_eq.mpr c32
        have c32b1 : (((rd_T60 l0_0 a1).f1) != (-1)) = false := bne_eq_false_iff_eq.mpr c32
        clear c32
        (first | rw [c32b0] | (simp only [i64_w, i32_w]; rw [c32b0]) | skip)
        have H' := Aside0.mk H
        clear H
        have hnb33 := NB188_186.out
        have hnc33 := NB186_188.out
        have hcz34_0 : w31.cell? ⟨gb188, 0, none⟩ = some (.string ((rd_T60 l0_0 a1).f0)) := (blk_cell BK188.out 0).trans rfl
        have hcz34_1 : w31.cell? ⟨gb188, 1, none⟩ = some (.int .i64 ((rd_T60 l0_0 a1).f1)) := (blk_cell BK188.out 1).trans rfl
        have hcz34_2 : w31.cell? ⟨gb188, 2, none⟩ = some (.int .i64 ((rd_T60 l0_0 a1).f2)) := (blk_cell BK188.out 2).trans rfl
        have hcz34_3 : w31.cell? ⟨gb188, 3, none⟩ = some (.int .i64 ((rd_T60 l0_0 a1).f3)) := (blk_cell BK188.out 3).trans rfl
        have hfz34_0 := blk_frozen BK188.out 0
        have hfz34_1 := blk_frozen BK188.out 1
        have hfz34_2 := blk_frozen BK188.out 2
        have hfz34_3 := blk_frozen BK188.out 3
        go_wp2
        go_meet
        case rel => exact ⟨_, (false), qF, H', ⟨by first | omega | exact Nat.le_refl _⟩, ⟨qK BK186⟩, ⟨qK BK188⟩, ⟨qB⟩⟩
       ·rw [if_neg c32] at H
        have c32b0 : (((rd_T60 l0_0 a1).f1) == (-1)) = false := beq_eq_false_iff_ne.mpr c32
        have c32b1 : (((rd_T60 l0_0 a1).f1) != (-1)) = true := bne_iff_ne.mpr c32
        (first | rw [c32b0] | (simp only [i64_w, i32_w]; rw [c32b0]) | skip)
        by_cases c35 : ((rd_T60 l0_0 a1).f1) < 0
        ·rw [if_pos c35] at H
         have c35b0 : decide (((rd_T60 l0_0 a1).f1) < 0) = true := decide_eq_true c35
         clear c35
         have H' := Aside0.mk H
         clear H
         have hnb36 := NB188_186.out
         have hnc36 := NB186_188.out
         have hcz37_0 : w31.cell? ⟨gb188, 0, none⟩ = some (.string ((rd_T60 l0_0 a1).f0)) := (blk_cell BK188.out 0).trans rfl
         have hcz37_1 : w31.cell? ⟨gb188, 1, none⟩ = some (.int .i64 ((rd_T60 l0_0 a1).f1)) := (blk_cell BK188.out 1).trans rfl
         have hcz37_2 : w31.cell? ⟨gb188, 2, none⟩ = some (.int .i64 ((rd_T60 l0_0 a1).f2)) := (blk_cell BK188.out 2).trans rfl
         have hcz37_3 : w31.cell? ⟨gb188, 3, none⟩ = some (.int .i64 ((rd_T60 l0_0 a1).f3)) := (blk_cell BK188.out 3).trans rfl
         have hfz37_0 := blk_frozen BK188.out 0
         have hfz37_1 := blk_frozen BK188.out 1
         have hfz37_2 := blk_frozen BK188.out 2
         have hfz37_3 := blk_frozen BK188.out 3
         go_wp2
         go_meet
         case rel => exact ⟨_, (true), qF, H', ⟨by first | omega | exact Nat.le_refl _⟩, ⟨qK BK186⟩, ⟨qK BK188⟩, ⟨qB⟩⟩
        ·rw [if_neg c35] at H
         have c35b0 : decide (((rd_T60 l0_0 a1).f1) < 0) = false := decide_eq_false c35
         clear c35
         by_cases c38 : ((rd_T60 l0_0 a1).f1) ≥ 1048576
         ·rw [if_pos c38] at H
          have c38b0 : decide (1048576 ≤ ((rd_T60 l0_0 a1).f1)) = true := decide_eq_true c38
          clear c38
          have H' := Aside0.mk H
          clear H
          have hnb39 := NB188_186.out
          have hnc39 := NB186_188.out
          have hcz40_0 : w31.cell? ⟨gb188, 0, none⟩ = some (.string ((rd_T60 l0_0 a1).f0)) := (blk_cell BK188.out 0).trans rfl
          have hcz40_1 : w31.cell? ⟨gb188, 1, none⟩ = some (.int .i64 ((rd_T60 l0_0 a1).f1)) := (blk_cell BK188.out 1).trans rfl
          have hcz40_2 : w31.cell? ⟨gb188, 2, none⟩ = some (.int .i64 ((rd_T60 l0_0 a1).f2)) := (blk_cell BK188.out 2).trans rfl
          have hcz40_3 : w31.cell? ⟨gb188, 3, none⟩ = some (.int .i64 ((rd_T60 l0_0 a1).f3)) := (blk_cell BK188.out 3).trans rfl
          have hfz40_0 := blk_frozen BK188.out 0
          have hfz40_1 := blk_frozen BK188.out 1
          have hfz40_2 := blk_frozen BK188.out 2
          have hfz40_3 := blk_frozen BK188.out 3
          go_wp2
          go_meet
          case rel => exact ⟨_, (true), qF, H', ⟨by first | omega | exact Nat.le_refl _⟩, ⟨qK BK186⟩, ⟨qK BK188⟩, ⟨qB⟩⟩
         ·rw [if_neg c38] at H
          have c38b0 : decide (1048576 ≤ ((rd_T60 l0_0 a1).f1)) = false := decide_eq_false c38
          clear c38
          have H' := Aside0.mk H
          clear H
          have hnb41 := NB188_186.out
          have hnc41 := NB186_188.out
          have hcz42_0 : w31.cell? ⟨gb188, 0, none⟩ = some (.string ((rd_T60 l0_0 a1).f0)) := (blk_cell BK188.out 0).trans rfl
          have hcz42_1 : w31.cell? ⟨gb188, 1, none⟩ = some (.int .i64 ((rd_T60 l0_0 a1).f1)) := (blk_cell BK188.out 1).trans rfl
          have hcz42_2 : w31.cell? ⟨gb188, 2, none⟩ = some (.int .i64 ((rd_T60 l0_0 a1).f2)) := (blk_cell BK188.out 2).trans rfl
          have hcz42_3 : w31.cell? ⟨gb188, 3, none⟩ = some (.int .i64 ((rd_T60 l0_0 a1).f3)) := (blk_cell BK188.out 3).trans rfl
          have hfz42_0 := blk_frozen BK188.out 0
          have hfz42_1 := blk_frozen BK188.out 1
          have hfz42_2 := blk_frozen BK188.out 2
          have hfz42_3 := blk_frozen BK188.out 3
          go_wp2
          go_meet
          case rel => exact ⟨_, (((Int.tmod ((rd_T60 l0_0 a1).f1) 256) != 0)), qF, H', ⟨by first | omega | exact Nat.le_refl _⟩, ⟨qK BK186⟩, ⟨qK BK188⟩, ⟨qB⟩⟩
      case rest =>
       clear HC21
       try clear c1
       try clear p1
       try clear q1
       try clear hx1
       try clear c2
       try clear p2
       try clear c3
       try clear c3b0
       try clear q3
       try clear c4
       try clear c4b0
       try clear c6
       try clear c7
       try clear c7b0
       try clear c8
       try clear c8b0
       try clear c8b1
       try clear c10
       try clear c14
       try clear p18
       try clear q18
       try clear hx18
       try clear q19
       try clear c25
       try clear q30
       try clear c32
       try clear c32b0
       try clear c32b1
       try clear c33
       try clear c35
       try clear c35b0
       try clear c36
       try clear c38
       try clear c38b0
       try clear c39
       try clear c41
       try clear hcz12_0
       try clear hcz12_1
       try clear hcz15_0
       try clear hcz15_1
       try clear hcz15_2
       try clear hcz15_3
       try clear hcz17_0
       try clear hcz17_1
       try clear hcz17_2
       try clear hcz17_3
       try clear hcz18_0
       try clear hcz18_1
       try clear hcz23_0
       try clear hcz23_1
       try clear hcz26_0
       try clear hcz26_1
       try clear hcz26_2
       try clear hcz26_3
       try clear hcz28_0
       try clear hcz28_1
       try clear hcz28_2
       try clear hcz28_3
       try clear hcz29_0
       try clear hcz29_1
       try clear hcz34_0
       try clear hcz34_1
       try clear hcz34_2
       try clear hcz34_3
       try clear hcz37_0
       try clear hcz37_1
       try clear hcz37_2
       try clear hcz37_3
       try clear hcz40_0
       try clear hcz40_1
       try clear hcz40_2
       try clear hcz40_3
       try clear hcz42_0
       try clear hcz42_1
       try clear hcz42_2
       try clear hcz42_3
       try clear hfz12_0
       try clear hfz12_1
       try clear hfz15_0
       try clear hfz15_1
       try clear hfz15_2
       try clear hfz15_3
       try clear hfz17_0
       try clear hfz17_1
       try clear hfz17_2
       try clear hfz17_3
       try clear hfz18_0
       try clear hfz18_1
       try clear hfz23_0
       try clear hfz23_1
       try clear hfz26_0
       try clear hfz26_1
       try clear hfz26_2
       try clear hfz26_3
       try clear hfz28_0
       try clear hfz28_1
       try clear hfz28_2
       try clear hfz28_3
       try clear hfz29_0
       try clear hfz29_1
       try clear hfz34_0
       try clear hfz34_1
       try clear hfz34_2
       try clear hfz34_3
       try clear hfz37_0
       try clear hfz37_1
       try clear hfz37_2
       try clear hfz37_3
       try clear hfz40_0
       try clear hfz40_1
       try clear hfz40_2
       try clear hfz40_3
       try clear hfz42_0
       try clear hfz42_1
       try clear hfz42_2
       try clear hfz42_3
       try clear hx187_0
       try clear hx187_1
       try clear hx187_2
       try clear hx187_3
       try clear p187
       try clear q187
       try clear q19
       try clear q30
       obtain ⟨kq, x23_20, rfl, HA, HJ20, BK186, BK188, HB⟩ := hcut
       cases kq with
       | zero => exact absurd HA.out (by simp [script_output.j0])
       | succ kj20 =>
        have H := HA.out
        clear HA
        simp only [script_output.j0] at H
        by_cases c43 : x23_20 = true
        ·subst c43
         have H1 : (some 3) = some r := by rw [if_pos rfl] at H; exact H
         clear H
         have H := H1
         clear H1
         obtain rfl := Option.some.inj H
         go_wp2
         go_ret
         exact ⟨qE, qB⟩
        ·replace c43 := Bool.eq_false_iff.mpr c43
         subst c43
         have H1 : (if ((rd_T60 l0_0 a1).f2) < 1 then (script_output.j1 kj20 true ((rd_T60 l0_0 a1).f0) ((rd_T60 l0_0 a1).f1) ((rd_T60 l0_0 a1).f2) ((rd_T60 l0_0 a1).f3)) else (if ((rd_T60 l0_0 a1).f2) > 4096 then (script_output.j1 kj20 true ((rd_T60 l0_0 a1).f0) ((rd_T60 l0_0 a1).f1) ((rd_T60 l0_0 a1).f2) ((rd_T60 l0_0 a1).f3)) else (script_output.j1 kj20 ((Go.bits .and .i64 ((rd_T60 l0_0 a1).f2) (wrap64 (((rd_T60 l0_0 a1).f2) - 1))) != 0) ((rd_T60 l0_0 a1).f0) ((rd_T60 l0_0 a1).f1) ((rd_T60 l0_0 a1).f2) ((rd_T60 l0_0 a1).f3)))) = some r := by rw [if_neg (show ¬ (false = true) by decide)] at H; exact H
         clear H
         have H := H1
         clear H1
         have HC44 := Aside0.mk H
         clear H
         go_upto_region 8 with (fail)
         go_cut [43] (fun v43 wc => ∃ (kq : Nat) (x43_43 : Bool), v43 = .bool x43_43 ∧ Aside0 (script_output.j1 kq x43_43 ((rd_T60 l0_0 a1).f0) ((rd_T60 l0_0 a1).f1) ((rd_T60 l0_0 a1).f2) ((rd_T60 l0_0 a1).f3) = some r) ∧ Aside0 (kq ≤ kj20) ∧ Aside0 (wc.heap[gb186]? = some (.cells #[(.slice (some ad187) l0_0.length c0_0), (.slice A0_1 l0_1.length c0_1)] 46 (0, 0))) ∧ Aside0 (wc.heap[gb188]? = some (.cells #[.string ((rd_T60 l0_0 a1).f0), .int .i64 ((rd_T60 l0_0 a1).f1), .int .i64 ((rd_T60 l0_0 a1).f2), .int .i64 ((rd_T60 l0_0 a1).f3)] 60 (0, 0))) ∧ Aside0 (Below w.heap.size w wc))
         case first =>
          have H := HC44.out
          clear HC44
          by_cases c45 : ((rd_T60 l0_0 a1).f2) < 1
          ·rw [if_pos c45] at H
           have c45b0 : decide (((rd_T60 l0_0 a1).f2) < 1) = true := decide_eq_true c45
           clear c45
           (first | rw [c45b0] | (simp only [i64_w, i32_w]; rw [c45b0]) | skip)
           have H' := Aside0.mk H
           clear H
           have hnb46 := NB188_186.out
           have hnc46 := NB186_188.out
           have hcz47_0 : wc.cell? ⟨gb188, 0, none⟩ = some (.string ((rd_T60 l0_0 a1).f0)) := (blk_cell BK188.out 0).trans rfl
           have hcz47_1 : wc.cell? ⟨gb188, 1, none⟩ = some (.int .i64 ((rd_T60 l0_0 a1).f1)) := (blk_cell BK188.out 1).trans rfl
           have hcz47_2 : wc.cell? ⟨gb188, 2, none⟩ = some (.int .i64 ((rd_T60 l0_0 a1).f2)) := (blk_cell BK188.out 2).trans rfl
           have hcz47_3 : wc.cell? ⟨gb188, 3, none⟩ = some (.int .i64 ((rd_T60 l0_0 a1).f3)) := (blk_cell BK188.out 3).trans rfl
           have hfz47_0 := blk_frozen BK188.out 0
           have hfz47_1 := blk_frozen BK188.out 1
           have hfz47_2 := blk_frozen BK188.out 2
           have hfz47_3 := blk_frozen BK188.out 3
           go_wp2
           go_meet
           case rel => exact ⟨_, (true), qF, H', ⟨by have := HJ20.out; first | omega | exact Nat.le_refl _⟩, ⟨qK BK186⟩, ⟨qK BK188⟩, ⟨qB⟩⟩
          ·rw [if_neg c45] at H
           have c45b0 : decide (((rd_T60 l0_0 a1).f2) < 1) = false := decide_eq_false c45
           clear c45
           (first | rw [c45b0] | (simp only [i64_w, i32_w]; rw [c45b0]) | skip)
           by_cases c48 : ((rd_T60 l0_0 a1).f2) > 4096
           ·rw [if_pos c48] at H
            have c48b0 : decide (4096 < ((rd_T60 l0_0 a1).f2)) = true := decide_eq_true c48
            clear c48
            have H' := Aside0.mk H
            clear H
            have hnb49 := NB188_186.out
            have hnc49 := NB186_188.out
            have hcz50_0 : wc.cell? ⟨gb188, 0, none⟩ = some (.string ((rd_T60 l0_0 a1).f0)) := (blk_cell BK188.out 0).trans rfl
            have hcz50_1 : wc.cell? ⟨gb188, 1, none⟩ = some (.int .i64 ((rd_T60 l0_0 a1).f1)) := (blk_cell BK188.out 1).trans rfl
            have hcz50_2 : wc.cell? ⟨gb188, 2, none⟩ = some (.int .i64 ((rd_T60 l0_0 a1).f2)) := (blk_cell BK188.out 2).trans rfl
            have hcz50_3 : wc.cell? ⟨gb188, 3, none⟩ = some (.int .i64 ((rd_T60 l0_0 a1).f3)) := (blk_cell BK188.out 3).trans rfl
            have hfz50_0 := blk_frozen BK188.out 0
            have hfz50_1 := blk_frozen BK188.out 1
            have hfz50_2 := blk_frozen BK188.out 2
            have hfz50_3 := blk_frozen BK188.out 3
            go_wp2
            go_meet
            case rel => exact ⟨_, (true), qF, H', ⟨by have := HJ20.out; first | omega | exact Nat.le_refl _⟩, ⟨qK BK186⟩, ⟨qK BK188⟩, ⟨qB⟩⟩
           ·rw [if_neg c48] at H
            have c48b0 : decide (4096 < ((rd_T60 l0_0 a1).f2)) = false := decide_eq_false c48
            clear c48
            have H' := Aside0.mk H
            clear H
            have hnb51 := NB188_186.out
            have hnc51 := NB186_188.out
            have hcz52_0 : wc.cell? ⟨gb188, 0, none⟩ = some (.string ((rd_T60 l0_0 a1).f0)) := (blk_cell BK188.out 0).trans rfl
            have hcz52_1 : wc.cell? ⟨gb188, 1, none⟩ = some (.int .i64 ((rd_T60 l0_0 a1).f1)) := (blk_cell BK188.out 1).trans rfl
            have hcz52_2 : wc.cell? ⟨gb188, 2, none⟩ = some (.int .i64 ((rd_T60 l0_0 a1).f2)) := (blk_cell BK188.out 2).trans rfl
            have hcz52_3 : wc.cell? ⟨gb188, 3, none⟩ = some (.int .i64 ((rd_T60 l0_0 a1).f3)) := (blk_cell BK188.out 3).trans rfl
            have hfz52_0 := blk_frozen BK188.out 0
            have hfz52_1 := blk_frozen BK188.out 1
            have hfz52_2 := blk_frozen BK188.out 2
            have hfz52_3 := blk_frozen BK188.out 3
            go_wp2
            go_meet
            case rel => exact ⟨_, (((Go.bits .and .i64 ((rd_T60 l0_0 a1).f2) (wrap64 (((rd_T60 l0_0 a1).f2) - 1))) != 0)), qF, H', ⟨by have := HJ20.out; first | omega | exact Nat.le_refl _⟩, ⟨qK BK186⟩, ⟨qK BK188⟩, ⟨qB⟩⟩
         case rest =>
          clear HC44
          try clear c1
          try clear p1
          try clear q1
          try clear hx1
          try clear c2
          try clear p2
          try clear c3
          try clear c3b0
          try clear q3
          try clear c4
          try clear c4b0
          try clear c5
          try clear c6
          try clear p6
          try clear c7
          try clear c7b0
          try clear c8
          try clear c8b0
          try clear c8b1
          try clear c10
          try clear c14
          try clear p18
          try clear q18
          try clear hx18
          try clear q19
          try clear c25
          try clear q30
          try clear c32
          try clear c32b0
          try clear c32b1
          try clear c33
          try clear c35
          try clear c35b0
          try clear c36
          try clear c38
          try clear c38b0
          try clear c39
          try clear c41
          try clear c43
          try clear c45
          try clear c45b0
          try clear c46
          try clear c47
          try clear c48
          try clear c48b0
          try clear c49
          try clear c51
          try clear hcz12_0
          try clear hcz12_1
          try clear hcz15_0
          try clear hcz15_1
          try clear hcz15_2
          try clear hcz15_3
          try clear hcz17_0
          try clear hcz17_1
          try clear hcz17_2
          try clear hcz17_3
          try clear hcz18_0
          try clear hcz18_1
          try clear hcz23_0
          try clear hcz23_1
          try clear hcz26_0
          try clear hcz26_1
          try clear hcz26_2
          try clear hcz26_3
          try clear hcz28_0
          try clear hcz28_1
          try clear hcz28_2
          try clear hcz28_3
          try clear hcz29_0
          try clear hcz29_1
          try clear hcz34_0
          try clear hcz34_1
          try clear hcz34_2
          try clear hcz34_3
          try clear hcz37_0
          try clear hcz37_1
          try clear hcz37_2
          try clear hcz37_3
          try clear hcz40_0
          try clear hcz40_1
          try clear hcz40_2
          try clear hcz40_3
          try clear hcz42_0
          try clear hcz42_1
          try clear hcz42_2
          try clear hcz42_3
          try clear hcz47_0
          try clear hcz47_1
          try clear hcz47_2
          try clear hcz47_3
          try clear hcz50_0
          try clear hcz50_1
          try clear hcz50_2
          try clear hcz50_3
          try clear hcz52_0
          try clear hcz52_1
          try clear hcz52_2
          try clear hcz52_3
          try clear hfz12_0
          try clear hfz12_1
          try clear hfz15_0
          try clear hfz15_1
          try clear hfz15_2
          try clear hfz15_3
          try clear hfz17_0
          try clear hfz17_1
          try clear hfz17_2
          try clear hfz17_3
          try clear hfz18_0
          try clear hfz18_1
          try clear hfz23_0
          try clear hfz23_1
          try clear hfz26_0
          try clear hfz26_1
          try clear hfz26_2
          try clear hfz26_3
          try clear hfz28_0
          try clear hfz28_1
          try clear hfz28_2
          try clear hfz28_3
          try clear hfz29_0
          try clear hfz29_1
          try clear hfz34_0
          try clear hfz34_1
          try clear hfz34_2
          try clear hfz34_3
          try clear hfz37_0
          try clear hfz37_1
          try clear hfz37_2
          try clear hfz37_3
          try clear hfz40_0
          try clear hfz40_1
          try clear hfz40_2
          try clear hfz40_3
          try clear hfz42_0
          try clear hfz42_1
          try clear hfz42_2
          try clear hfz42_3
          try clear hfz47_0
          try clear hfz47_1
          try clear hfz47_2
          try clear hfz47_3
          try clear hfz50_0
          try clear hfz50_1
          try clear hfz50_2
          try clear hfz50_3
          try clear hfz52_0
          try clear hfz52_1
          try clear hfz52_2
          try clear hfz52_3
          try clear hx187_0
          try clear hx187_1
          try clear hx187_2
          try clear hx187_3
          try clear p1
          try clear p18
          try clear p187
          try clear p2
          try clear q1
          try clear q18
          try clear q187
          try clear q19
          try clear q3
          try clear q30
          obtain ⟨kq, x43_43, rfl, HA, HJ43, BK186, BK188, HB⟩ := hcut
          cases kq with
          | zero => exact absurd HA.out (by simp [script_output.j1])
          | succ kj43 =>
           have H := HA.out
           clear HA
           simp only [script_output.j1] at H
           by_cases c53 : x43_43 = true
           ·subst c53
            have H1 : (some 3) = some r := by rw [if_pos rfl] at H; exact H
            clear H
            have H := H1
            clear H1
            obtain rfl := Option.some.inj H
            go_wp2
            go_ret
            exact ⟨qE, qB⟩
           ·replace c53 := Bool.eq_false_iff.mpr c53
            subst c53
            have H1 : (if ((rd_T60 l0_0 a1).f3) < 1 then (some 3) else (if ((rd_T60 l0_0 a1).f3) > 7 then (some 3) else (some 0))) = some r := by rw [if_neg (show ¬ (false = true) by decide)] at H; exact H
            clear H
            have H := H1
            clear H1
            by_cases c54 : ((rd_T60 l0_0 a1).f3) < 1
            ·rw [if_pos c54] at H
             have c54b0 : decide (((rd_T60 l0_0 a1).f3) < 1) = true := decide_eq_true c54
             clear c54
             obtain rfl := Option.some.inj H
             have hnb55 := NB188_186.out
             have hnc55 := NB186_188.out
             have hcz56_0 : wc.cell? ⟨gb188, 0, none⟩ = some (.string ((rd_T60 l0_0 a1).f0)) := (blk_cell BK188.out 0).trans rfl
             have hcz56_1 : wc.cell? ⟨gb188, 1, none⟩ = some (.int .i64 ((rd_T60 l0_0 a1).f1)) := (blk_cell BK188.out 1).trans rfl
             have hcz56_2 : wc.cell? ⟨gb188, 2, none⟩ = some (.int .i64 ((rd_T60 l0_0 a1).f2)) := (blk_cell BK188.out 2).trans rfl
             have hcz56_3 : wc.cell? ⟨gb188, 3, none⟩ = some (.int .i64 ((rd_T60 l0_0 a1).f3)) := (blk_cell BK188.out 3).trans rfl
             have hfz56_0 := blk_frozen BK188.out 0
             have hfz56_1 := blk_frozen BK188.out 1
             have hfz56_2 := blk_frozen BK188.out 2
             have hfz56_3 := blk_frozen BK188.out 3
             go_wp2
             go_ret
             exact ⟨qE, qB⟩
            ·rw [if_neg c54] at H
             have c54b0 : decide (((rd_T60 l0_0 a1).f3) < 1) = false := decide_eq_false c54
             clear c54
             by_cases c57 : ((rd_T60 l0_0 a1).f3) > 7
             ·rw [if_pos c57] at H
              have c57b0 : decide (7 < ((rd_T60 l0_0 a1).f3)) = true := decide_eq_true c57
              clear c57
              obtain rfl := Option.some.inj H
              have hnb58 := NB188_186.out
              have hnc58 := NB186_188.out
              have hcz59_0 : wc.cell? ⟨gb188, 0, none⟩ = some (.string ((rd_T60 l0_0 a1).f0)) := (blk_cell BK188.out 0).trans rfl
              have hcz59_1 : wc.cell? ⟨gb188, 1, none⟩ = some (.int .i64 ((rd_T60 l0_0 a1).f1)) := (blk_cell BK188.out 1).trans rfl
              have hcz59_2 : wc.cell? ⟨gb188, 2, none⟩ = some (.int .i64 ((rd_T60 l0_0 a1).f2)) := (blk_cell BK188.out 2).trans rfl
              have hcz59_3 : wc.cell? ⟨gb188, 3, none⟩ = some (.int .i64 ((rd_T60 l0_0 a1).f3)) := (blk_cell BK188.out 3).trans rfl
              have hfz59_0 := blk_frozen BK188.out 0
              have hfz59_1 := blk_frozen BK188.out 1
              have hfz59_2 := blk_frozen BK188.out 2
              have hfz59_3 := blk_frozen BK188.out 3
              go_wp2
              go_ret
              exact ⟨qE, qB⟩
             ·rw [if_neg c57] at H
              have c57b0 : decide (7 < ((rd_T60 l0_0 a1).f3)) = false := decide_eq_false c57
              clear c57
              obtain rfl := Option.some.inj H
              have hnb60 := NB188_186.out
              have hnc60 := NB186_188.out
              have hcz61_0 : wc.cell? ⟨gb188, 0, none⟩ = some (.string ((rd_T60 l0_0 a1).f0)) := (blk_cell BK188.out 0).trans rfl
              have hcz61_1 : wc.cell? ⟨gb188, 1, none⟩ = some (.int .i64 ((rd_T60 l0_0 a1).f1)) := (blk_cell BK188.out 1).trans rfl
              have hcz61_2 : wc.cell? ⟨gb188, 2, none⟩ = some (.int .i64 ((rd_T60 l0_0 a1).f2)) := (blk_cell BK188.out 2).trans rfl
              have hcz61_3 : wc.cell? ⟨gb188, 3, none⟩ = some (.int .i64 ((rd_T60 l0_0 a1).f3)) := (blk_cell BK188.out 3).trans rfl
              have hfz61_0 := blk_frozen BK188.out 0
              have hfz61_1 := blk_frozen BK188.out 1
              have hfz61_2 := blk_frozen BK188.out 2
              have hfz61_3 := blk_frozen BK188.out 3
              go_wp2
              go_ret
              exact ⟨qE, qB⟩
    ·rw [if_neg c8] at H
     exact absurd H (by simp)
   ·replace c6 := Bool.eq_false_iff.mpr c6
    subst c6
    have H1 : (some 12) = some r := by rw [if_neg (show ¬ (false = true) by decide)] at H; exact H
    clear H
    have H := H1
    clear H1
    obtain rfl := Option.some.inj H
    go_enter Try.func43, Try.ntmps43
    go_wp2_with (first | ((with_reducible refine gate_dst (N := 2) rfl ?_); refine qX (N := 2) (cs := #[.slice A0_0 l0_0.length c0_0, .slice A0_1 l0_1.length c0_1]) (t := 46) ?_; intro gb186 hg w62 hbox hb; have n0_ := Aside0.mk (below_step qB hb); have n1_ := Aside0.mk (hbox); have n2_ := Aside0.mk ((qG hg : w.heap.size ≤ gb186)); have n3_ := Aside0.mk ((qG hg : w.heap.size ≤ gb186)); clear HB; have HB := n0_; have BK186 := n1_; have GW186 := n2_; have GE186 := n3_; clear n0_ n1_ n2_ n3_; clear hb hbox hg; have hcz63_0 : w62.cell? ⟨gb186, 0, none⟩ = some (.slice A0_0 l0_0.length c0_0) := (blk_cell BK186.out 0).trans rfl; have hcz63_1 : w62.cell? ⟨gb186, 1, none⟩ = some (.slice A0_1 l0_1.length c0_1) := (blk_cell BK186.out 1).trans rfl; have hfz63_0 := blk_frozen BK186.out 0; have hfz63_1 := blk_frozen BK186.out 1; have p187 : 0 ≤ (a1 : Int) := of_decide_eq_true qO; have q187 : a1 < (l0_0.length : Int) := of_decide_eq_true qO; obtain ⟨ad187, e187, hx187_0, hx187_1, hx187_2, hx187_3⟩ := at_T60 HR0_0.out a1 p187 q187; cases e187; replace hx187_0 := (HB.out.cell (World.block_lt_of_cell? w _ hx187_0)).trans hx187_0; replace hx187_1 := (HB.out.cell (World.block_lt_of_cell? w _ hx187_1)).trans hx187_1; replace hx187_2 := (HB.out.cell (World.block_lt_of_cell? w _ hx187_2)).trans hx187_2; replace hx187_3 := (HB.out.cell (World.block_lt_of_cell? w _ hx187_3)).trans hx187_3; replace p187 := eq_true p187; replace q187 := eq_true q187) | ((with_reducible refine gate_dst (N := 5) rfl ?_); refine qX (N := 5) (cs := #[.string (⟨#[]⟩ : ByteArray), .int .i64 0, .int .i64 0, .int .i64 0]) (t := 60) ?_; intro gb188 hg w64 hbox hb; have n0_ := Aside0.mk (blk_below (g := gb186) (o := .cells #[.slice (some ad187) l0_0.length c0_0, .slice A0_1 l0_1.length c0_1] 46 (0, 0)) (qK BK186) hb); have n1_ := Aside0.mk (below_step qB hb); have n2_ := Aside0.mk (hbox); have n3_ := Aside0.mk ((qG hg : w.heap.size ≤ gb188)); have n4_ := Aside0.mk ((qG hg : w.heap.size ≤ gb188)); have n5_ := Aside0.mk ((by rw [hg]; exact Nat.ne_of_lt (blk_lt (g := gb186) (o := .cells #[.slice (some ad187) l0_0.length c0_0, .slice A0_1 l0_1.length c0_1] 46 (0, 0)) (qK BK186)) : gb186 ≠ gb188)); have n6_ := Aside0.mk ((by rw [hg]; exact Nat.ne_of_gt (blk_lt (g := gb186) (o := .cells #[.slice (some ad187) l0_0.length c0_0, .slice A0_1 l0_1.length c0_1] 46 (0, 0)) (qK BK186)) : gb188 ≠ gb186)); clear BK186; clear HB; have BK186 := n0_; have HB := n1_; have BK188 := n2_; have GW188 := n3_; have GE188 := n4_; have NB186_188 := n5_; have NB188_186 := n6_; clear n0_ n1_ n2_ n3_ n4_ n5_ n6_; clear hb hbox hg; have hnb65 := NB188_186.out; have hnc65 := NB186_188.out; have hcz66_0 : w64.cell? ⟨gb188, 0, none⟩ = some (.string (⟨#[]⟩ : ByteArray)) := (blk_cell BK188.out 0).trans rfl; have hcz66_1 : w64.cell? ⟨gb188, 1, none⟩ = some (.int .i64 0) := (blk_cell BK188.out 1).trans rfl; have hcz66_2 : w64.cell? ⟨gb188, 2, none⟩ = some (.int .i64 0) := (blk_cell BK188.out 2).trans rfl; have hcz66_3 : w64.cell? ⟨gb188, 3, none⟩ = some (.int .i64 0) := (blk_cell BK188.out 3).trans rfl; have hfz66_0 := blk_frozen BK188.out 0; have hfz66_1 := blk_frozen BK188.out 1; have hfz66_2 := blk_frozen BK188.out 2; have hfz66_3 := blk_frozen BK188.out 3) | ((with_reducible refine gate_callee (f := 46) rfl ?_); refine goesL_ (some 14) rfl rfl Try.func46 (by kernel_rfl) rfl #[.string ((rd_T60 l0_0 a1).f0)] rfl qA ?_; (with_reducible refine (script_IsName.calls k ((rd_T60 l0_0 a1).f0) false _ A5.out).mono ?_); rintro e w' ⟨rfl, ⟨nd, rfl⟩⟩; refine ⟨_, rfl, ?_⟩))
    go_ret
    exact ⟨qE, qB⟩
  ·rw [if_neg c4] at H
   exact absurd H (by simp)
 ·rw [if_neg c3] at H
  exact absurd H (by simp)

/-! ### stringslite_HasSuffix: function 52 -/
def stringslite_HasSuffix.f (a0 : ByteArray) (a1 : ByteArray) : Option (Bool) := if (a0.size : Int) ≥ (a1.size : Int) then (if 0 ≤ (wrap64 ((a0.size : Int) - (a1.size : Int))) then (if (wrap64 ((a0.size : Int) - (a1.size : Int))) ≤ (a0.size : Int) then (some ((a0.extract ((wrap64 ((a0.size : Int) - (a1.size : Int))) : Int).toNat a0.size).toList == a1.toList)) else (none)) else (none)) else (some false)
set_option maxHeartbeats 8000000 in
set_option maxRecDepth 100000 in
theorem stringslite_HasSuffix.calls (a0 : ByteArray) (a1 : ByteArray) (r : Bool) (w : World) (h : stringslite_HasSuffix.f a0 a1 = some r) :
  Calls Try.prog 52 #[.string a0, .string a1] w fun e w' => e = .returned (.bool r) ∧ Drawn0 w w' := by
 have H : (if (a0.size : Int) ≥ (a1.size : Int) then (if 0 ≤ (wrap64 ((a0.size : Int) - (a1.size : Int))) then (if (wrap64 ((a0.size : Int) - (a1.size : Int))) ≤ (a0.size : Int) then (some ((a0.extract ((wrap64 ((a0.size : Int) - (a1.size : Int))) : Int).toNat a0.size).toList == a1.toList)) else (none)) else (none)) else (some false)) = some r := h
 clear h
 by_cases c3 : (a0.size : Int) ≥ (a1.size : Int)
 ·rw [if_pos c3] at H
  have c3b0 : decide ((a1.size : Int) ≤ (a0.size : Int)) = true := decide_eq_true c3
  have c3b1 : decide (a1.size ≤ a0.size) = true := decide_eq_true (Int.ofNat_le.mp c3)
  clear c3
  obtain ⟨ji4, hji4⟩ : ∃ j_ : Int, (wrap64 ((a0.size : Int) - (a1.size : Int))) = j_ := ⟨_, rfl⟩
  replace H : (if 0 ≤ (ji4) then (if (ji4) ≤ (a0.size : Int) then (some ((a0.extract ((ji4) : Int).toNat a0.size).toList == a1.toList)) else (none)) else (none)) = some r := by first | (rw [hji4] at H; exact H) | (simp only [hji4] at H ⊢; exact H)
  have hji4w : (IntKind.i64.wrap ((a0.size : Int) - (a1.size : Int))) = ji4 := (i64_w _).trans hji4
  by_cases c5 : 0 ≤ (ji4)
  ·rw [if_pos c5] at H
   have c5b0 := eq_true c5
   have c5b1 : decide (0 ≤ (ji4)) = true := decide_eq_true c5
   clear c5
   by_cases c6 : (ji4) ≤ (a0.size : Int)
   ·rw [if_pos c6] at H
    have c6b0 := eq_true c6
    have c6b1 : decide ((ji4) ≤ (a0.size : Int)) = true := decide_eq_true c6
    clear c6
    obtain rfl := Option.some.inj H
    go_enter Try.func52, Try.ntmps52
    go_wp2
    go_ret
    exact ⟨by first | rfl | (simp; done) | (simp only [← hji4] <;> (first | rfl | simp)) | (simp [*]; done), by repeat (first | exact Drawn0.refl _ | apply Drawn0.step)⟩
   ·rw [if_neg c6] at H
    exact absurd H (by simp)
  ·rw [if_neg c5] at H
   exact absurd H (by simp)
 ·rw [if_neg c3] at H
  have c3b0 : decide ((a1.size : Int) ≤ (a0.size : Int)) = false := decide_eq_false c3
  have c3b1 : decide (a1.size ≤ a0.size) = false := decide_eq_false (fun h => c3 (Int.ofNat_le.mpr h))
  clear c3
  obtain rfl := Option.some.inj H
  go_enter Try.func52, Try.ntmps52
  go_wp2
  go_ret
  exact ⟨qF, by repeat (first | exact Drawn0.refl _ | apply Drawn0.step)⟩

/-! ### stringslite_TrimSuffix: function 51 -/
def stringslite_TrimSuffix.f (a0 : ByteArray) (a1 : ByteArray) : Option (ByteArray) := (stringslite_HasSuffix.f a0 a1).bind fun t195 => (if t195 = true then (if 0 ≤ (wrap64 ((a0.size : Int) - (a1.size : Int))) then (if (wrap64 ((a0.size : Int) - (a1.size : Int))) ≤ (a0.size : Int) then (some (a0.extract 0 ((wrap64 ((a0.size : Int) - (a1.size : Int))) : Int).toNat)) else (none)) else (none)) else (some a0))
set_option maxHeartbeats 8000000 in
set_option maxRecDepth 100000 in
theorem stringslite_TrimSuffix.calls (a0 : ByteArray) (a1 : ByteArray) (r : ByteArray) (w : World) (h : stringslite_TrimSuffix.f a0 a1 = some r) :
  Calls Try.prog 51 #[.string a0, .string a1] w fun e w' => e = .returned (.string r) ∧ Drawn0 w w' := by
 have H : ((stringslite_HasSuffix.f a0 a1).bind fun t195 => (if t195 = true then (if 0 ≤ (wrap64 ((a0.size : Int) - (a1.size : Int))) then (if (wrap64 ((a0.size : Int) - (a1.size : Int))) ≤ (a0.size : Int) then (some (a0.extract 0 ((wrap64 ((a0.size : Int) - (a1.size : Int))) : Int).toNat)) else (none)) else (none)) else (some a0))) = some r := h
 clear h
 replace H := Option.bind_eq_some_iff.mp H
 obtain ⟨t195, A30, H⟩ := H
 replace H : (if t195 = true then (if 0 ≤ (wrap64 ((a0.size : Int) - (a1.size : Int))) then (if (wrap64 ((a0.size : Int) - (a1.size : Int))) ≤ (a0.size : Int) then (some (a0.extract 0 ((wrap64 ((a0.size : Int) - (a1.size : Int))) : Int).toNat)) else (none)) else (none)) else (some a0)) = some r := H
 have A3 := Aside0.mk A30
 clear A30
 by_cases c4 : t195 = true
 ·subst c4
  have H1 : (if 0 ≤ (wrap64 ((a0.size : Int) - (a1.size : Int))) then (if (wrap64 ((a0.size : Int) - (a1.size : Int))) ≤ (a0.size : Int) then (some (a0.extract 0 ((wrap64 ((a0.size : Int) - (a1.size : Int))) : Int).toNat)) else (none)) else (none)) = some r := by rw [if_pos rfl] at H; exact H
  clear H
  have H := H1
  clear H1
  obtain ⟨ji5, hji5⟩ : ∃ j_ : Int, (wrap64 ((a0.size : Int) - (a1.size : Int))) = j_ := ⟨_, rfl⟩
  replace H : (if 0 ≤ (ji5) then (if (ji5) ≤ (a0.size : Int) then (some (a0.extract 0 ((ji5) : Int).toNat)) else (none)) else (none)) = some r := by first | (rw [hji5] at H; exact H) | (simp only [hji5] at H ⊢; exact H)
  (try rw [hji5] at A3)
  have hji5w : (IntKind.i64.wrap ((a0.size : Int) - (a1.size : Int))) = ji5 := (i64_w _).trans hji5
  by_cases c6 : 0 ≤ (ji5)
  ·rw [if_pos c6] at H
   have c6b0 := eq_true c6
   have c6b1 : decide (0 ≤ (ji5)) = true := decide_eq_true c6
   clear c6
   by_cases c7 : (ji5) ≤ (a0.size : Int)
   ·rw [if_pos c7] at H
    have c7b0 := eq_true c7
    have c7b1 : decide ((ji5) ≤ (a0.size : Int)) = true := decide_eq_true c7
    clear c7
    obtain rfl := Option.some.inj H
    go_enter Try.func51, Try.ntmps51
    go_wp2_with (first | ((with_reducible refine gate_callee (f := 52) rfl ?_); refine goesL_ (some 7) rfl rfl Try.func52 (by kernel_rfl) rfl #[.string a0, .string a1] rfl qA ?_; (with_reducible refine (stringslite_HasSuffix.calls a0 a1 true _ A3.out).mono ?_); rintro e w' ⟨rfl, ⟨nd, rfl⟩⟩; refine ⟨_, rfl, ?_⟩))
    go_ret
    exact ⟨by first | rfl | (simp; done) | (simp only [← hji5] <;> (first | rfl | simp)) | (simp [*]; done), by repeat (first | exact Drawn0.refl _ | apply Drawn0.step)⟩
   ·rw [if_neg c7] at H
    exact absurd H (by simp)
  ·rw [if_neg c6] at H
   exact absurd H (by simp)
 ·replace c4 := Bool.eq_false_iff.mpr c4
  subst c4
  have H1 : (some a0) = some r := by rw [if_neg (show ¬ (false = true) by decide)] at H; exact H
  clear H
  have H := H1
  clear H1
  obtain rfl := Option.some.inj H
  go_enter Try.func51, Try.ntmps51
  go_wp2_with (first | ((with_reducible refine gate_callee (f := 52) rfl ?_); refine goesL_ (some 7) rfl rfl Try.func52 (by kernel_rfl) rfl #[.string a0, .string a1] rfl qA ?_; (with_reducible refine (stringslite_HasSuffix.calls a0 a1 false _ A3.out).mono ?_); rintro e w' ⟨rfl, ⟨nd, rfl⟩⟩; refine ⟨_, rfl, ?_⟩))
  go_ret
  exact ⟨qF, by repeat (first | exact Drawn0.refl _ | apply Drawn0.step)⟩

/-! ### strings_TrimSuffix: function 49 -/
def strings_TrimSuffix.f (a0 : ByteArray) (a1 : ByteArray) : Option (ByteArray) := (stringslite_TrimSuffix.f a0 a1).bind fun t196 => (some t196)
set_option maxHeartbeats 8000000 in
set_option maxRecDepth 100000 in
theorem strings_TrimSuffix.calls (a0 : ByteArray) (a1 : ByteArray) (r : ByteArray) (w : World) (h : strings_TrimSuffix.f a0 a1 = some r) :
  Calls Try.prog 49 #[.string a0, .string a1] w fun e w' => e = .returned (.string r) ∧ Drawn0 w w' := by
 have H : ((stringslite_TrimSuffix.f a0 a1).bind fun t196 => (some t196)) = some r := h
 clear h
 replace H := Option.bind_eq_some_iff.mp H
 obtain ⟨t196, A30, H⟩ := H
 replace H : (some t196) = some r := H
 have A3 := Aside0.mk A30
 clear A30
 obtain rfl := Option.some.inj H
 go_enter Try.func49, Try.ntmps49
 go_wp2_with (first | ((with_reducible refine gate_callee (f := 51) rfl ?_); refine goesL_ (some 7) rfl rfl Try.func51 (by kernel_rfl) rfl #[.string a0, .string a1] rfl qA ?_; (with_reducible refine (stringslite_TrimSuffix.calls a0 a1 t196 _ A3.out).mono ?_); rintro e w' ⟨rfl, ⟨nd, rfl⟩⟩; refine ⟨_, rfl, ?_⟩))
 go_ret
 exact ⟨qF, by repeat (first | exact Drawn0.refl _ | apply Drawn0.step)⟩

/-! ### script_isPattern: function 44 -/
def script_isPattern.f (k : Nat) (a0 : ByteArray) : Option (Bool) := if a0.toList = ([42] : List UInt8) then (some true) else ((strings_TrimSuffix.f a0 (⟨#[42]⟩ : ByteArray)).bind fun t197 => ((script_IsName.f k t197).bind fun t198 => (some t198)))
theorem script_isPattern.mono : ∀ a0 k, LeO (script_isPattern.f k a0) (script_isPattern.f (k + 1) a0) := by
 intro a0 k
 unfold script_isPattern.f
 repeat' first
   | (with_reducible exact script_IsName.mono _ _)
   | (with_reducible exact LeO.refl _)
   | (with_reducible exact LeO.none _)
   | (with_reducible refine LeO.ite ?_ ?_)
   | (with_reducible refine LeO.bind ?_ (fun _ => ?_))
   | exact script_IsName.mono _ _
   | exact LeO.none _
   | refine LeO.ite ?_ ?_
   | refine LeO.bind ?_ (fun _ => ?_)
set_option maxHeartbeats 8000000 in
set_option maxRecDepth 100000 in
theorem script_isPattern.calls (k : Nat) (a0 : ByteArray) (r : Bool) (w : World) (h : script_isPattern.f k a0 = some r) :
  Calls Try.prog 44 #[.string a0] w fun e w' => e = .returned (.bool r) ∧ Drawn0 w w' := by
 have H : (if a0.toList = ([42] : List UInt8) then (some true) else ((strings_TrimSuffix.f a0 (⟨#[42]⟩ : ByteArray)).bind fun t197 => ((script_IsName.f k t197).bind fun t198 => (some t198)))) = some r := h
 clear h
 by_cases c2 : a0.toList = ([42] : List UInt8)
 ·rw [if_pos c2] at H
  have c2b0 : (a0.toList == ([42] : List UInt8)) = true := beq_iff_eq.mpr c2
  have c2b1 : (a0.toList != ([42] : List UInt8)) = false := bne_eq_false_iff_eq.mpr c2
  clear c2
  obtain rfl := Option.some.inj H
  go_enter Try.func44, Try.ntmps44
  go_wp2
  go_ret
  exact ⟨qF, by repeat (first | exact Drawn0.refl _ | apply Drawn0.step)⟩
 ·rw [if_neg c2] at H
  have c2b0 : (a0.toList == ([42] : List UInt8)) = false := beq_eq_false_iff_ne.mpr c2
  have c2b1 : (a0.toList != ([42] : List UInt8)) = true := bne_iff_ne.mpr c2
  replace H := Option.bind_eq_some_iff.mp H
  obtain ⟨t197, A30, H⟩ := H
  replace H : ((script_IsName.f k t197).bind fun t198 => (some t198)) = some r := H
  have A3 := Aside0.mk A30
  clear A30
  replace H := Option.bind_eq_some_iff.mp H
  obtain ⟨t198, A40, H⟩ := H
  replace H : (some t198) = some r := H
  have A4 := Aside0.mk A40
  clear A40
  obtain rfl := Option.some.inj H
  go_enter Try.func44, Try.ntmps44
  go_wp2_with (first | (go_at_call 49; (with_reducible refine (strings_TrimSuffix.calls a0 (⟨#[42]⟩ : ByteArray) t197 _ A3.out).mono ?_); rintro e w' ⟨rfl, ⟨nd, rfl⟩⟩) | (go_at_call 46; (with_reducible refine (script_IsName.calls k t197 t198 _ A4.out).mono ?_); rintro e w' ⟨rfl, ⟨nd, rfl⟩⟩))
  go_ret
  exact ⟨qF, by repeat (first | exact Drawn0.refl _ | apply Drawn0.step)⟩

end Go.Proofs.Ytnbeamaoblmbhaa.PPlace
