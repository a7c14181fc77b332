/- Written by a program of this session, for the law(s) Thread: contracts of the Go functions that the law reaches, each against a plain Lean function. No condition. -/
import Derived.Test.YtdedefemggkobaaBPThreadx0
import Derived.Test.YtdedefemggkobaaBPThreadx3
namespace Go.Proofs.Ytdedefemggkobaa.PThread
open Go.RowKit Go.Proofs.YtdedefemggkobaaW.PrintWords Go.Proofs.YtdedefemggkobaaW.PrintLast Go.Proofs.YtdedefemggkobaaW.PrintMore
attribute [local go_sem] max2_int min2_int max_two min_two max_three min_three max_four min_four
set_option linter.unusedVariables false
set_option linter.unusedSimpArgs false
set_option maxHeartbeats 4000000 in
set_option maxRecDepth 100000 in
theorem idx49 (A0 : Option Addr) (c0 : Nat) (l0 : List (S77)) (gf : Nat) (lb : Array Value) (p : S77 → Bool) (w : World) (hr0 : Kd.C k77 w A0 l0.length l0)
    (eg : ∀ args w, (callFunc gf args).run Try.prog w = .ok (.enter gf args) w)
    (hp : ∀ (W : World) (x : S77) (cs : List Value), Below w.heap.size w W → (k77).K W x cs → Calls Try.prog gf (#[.agg cs.toArray] ++ lb) W fun e w' => e = .returned (.bool (p x)) ∧ Below W.heap.size W w') :
    Calls Try.prog 49 #[.slice A0 l0.length c0, .func (.func gf) #[] lb] w fun e w' => e = .returned (.int .i64 (fidx p l0)) ∧ Below w.heap.size w w' := by
  have hbig := hr0.2.1; have HR := am hr0; have HP := am hp; clear hr0 hp; go_enter Try.func49, Try.ntmps49; go_wp2; go_loopg [5, 8] l0.length (fun gg _ s8 wr => ∃ kk : Nat, kk ≤ l0.length ∧ l0.length - kk ≤ gg ∧ s8 = .int .i64 kk ∧ Aside0 (Below w.heap.size w wr) ∧ Aside0 (∀ j y, j < kk → l0[j]? = some y → p y = false))
  case atStart => exact ⟨0, Nat.zero_le _, by omega, rfl, ⟨Below.refl _ w⟩, ⟨fun j y hj => absurd hj (Nat.not_lt_zero _)⟩⟩
  case round =>
    obtain ⟨kk, hkk, hg, rfl, BW, A⟩ := hrel; by_cases hlt : kk < l0.length
    · obtain ⟨ad, c, e, hcl, hK, hcell⟩ := Kd.C_get HR.out z77 (kk : Int) (by omega) (by omega); rw [Int.toNat_natCast] at hK hcell; have hy : l0[kk]? = some (l0.getD kk z77) := (by rw [List.getD_eq_getElem?_getD, List.getElem?_eq_getElem hlt]; rfl); have HY := am hy; clear hy; have hcall := HP.out wr _ c BW.out ((k77).K_below BW.out hK); have hz : c.length = 9 := hcl; obtain ⟨v0, v1, v2, v3, v4, v5, v6, v7, v8, rfl⟩ : ∃ v0 v1 v2 v3 v4 v5 v6 v7 v8, c = [v0, v1, v2, v3, v4, v5, v6, v7, v8] := by
        match c, hz with
        | [v0, v1, v2, v3, v4, v5, v6, v7, v8], _ => exact ⟨v0, v1, v2, v3, v4, v5, v6, v7, v8, rfl⟩
      subst e; have x0 : wr.cell? (ad.add (kk * 9)) = some v0 := pw_cell_below BW.out (hcell 0 v0 rfl); have x1 : wr.cell? ⟨(ad.add (kk * 9)).block, (ad.add (kk * 9)).off + 1, none⟩ = some v1 := pw_cell_below BW.out (by rw [← add_field _ _ 1 (by omega)]; exact hcell 1 _ rfl); have x2 : wr.cell? ⟨(ad.add (kk * 9)).block, (ad.add (kk * 9)).off + 2, none⟩ = some v2 := pw_cell_below BW.out (by rw [← add_field _ _ 2 (by omega)]; exact hcell 2 _ rfl); have x3 : wr.cell? ⟨(ad.add (kk * 9)).block, (ad.add (kk * 9)).off + 3, none⟩ = some v3 := pw_cell_below BW.out (by rw [← add_field _ _ 3 (by omega)]; exact hcell 3 _ rfl); have x4 : wr.cell? ⟨(ad.add (kk * 9)).block, (ad.add (kk * 9)).off + 4, none⟩ = some v4 := pw_cell_below BW.out (by rw [← add_field _ _ 4 (by omega)]; exact hcell 4 _ rfl); have x5 : wr.cell? ⟨(ad.add (kk * 9)).block, (ad.add (kk * 9)).off + 5, none⟩ = some v5 := pw_cell_below BW.out (by rw [← add_field _ _ 5 (by omega)]; exact hcell 5 _ rfl); have x6 : wr.cell? ⟨(ad.add (kk * 9)).block, (ad.add (kk * 9)).off + 6, none⟩ = some v6 := pw_cell_below BW.out (by rw [← add_field _ _ 6 (by omega)]; exact hcell 6 _ rfl); have x7 : wr.cell? ⟨(ad.add (kk * 9)).block, (ad.add (kk * 9)).off + 7, none⟩ = some v7 := pw_cell_below BW.out (by rw [← add_field _ _ 7 (by omega)]; exact hcell 7 _ rfl); have x8 : wr.cell? ⟨(ad.add (kk * 9)).block, (ad.add (kk * 9)).off + 8, none⟩ = some v8 := pw_cell_below BW.out (by rw [← add_field _ _ 8 (by omega)]; exact hcell 8 _ rfl); clear hcell hK hcl hz; generalize l0.getD kk z77 = y at hcall HY; have HC := am hcall; clear hcall; have hlti : (kk : Int) < (l0.length : Int) := (by omega); cases hq : p y with
      | true =>
        rw [hq] at HC; have HQ := am hq; clear hq; go_wp2_with fail; refine HC.out.mono ?_; rintro e w' ⟨rfl, hb'⟩; have HB' := am hb'; clear hb'; go_wp2; go_ret; exact ⟨by rw [fidx_hit p l0 kk y HY.out HQ.out A.out]; rfl, below_step BW.out HB'.out⟩
      | false =>
        rw [hq] at HC; have HQ := am hq; clear hq; go_wp2_with fail; refine HC.out.mono ?_; rintro e w' ⟨rfl, hb'⟩; have HB' := am hb'; clear hb'; go_wp2; go_roundg (l0.length - (kk + 1))
        case measure => omega
        case rel =>
          refine ⟨kk + 1, by omega, by omega, by go_num, ⟨below_step BW.out HB'.out⟩, ⟨fun j y' hj hy' => ?_⟩⟩; by_cases e : j = kk
          · subst e; have := HY.out.symm.trans hy'; injection this with this; subst this; exact HQ.out
          · exact A.out j y' (by omega) hy'
    · have hlti : ¬ (kk : Int) < (l0.length : Int) := (by omega); have : kk = l0.length := (by omega); subst this; go_wp2; go_ret; exact ⟨by rw [fidx_miss p l0 A.out]; rfl, BW.out⟩
set_option maxHeartbeats 2000000 in
set_option maxRecDepth 100000 in
theorem cont42 (A0 : Option Addr) (c0 : Nat) (l0 : List (S77)) (gf : Nat) (lb : Array Value) (p : S77 → Bool) (w : World) (hr0 : Kd.C k77 w A0 l0.length l0)
    (eg : ∀ args w, (callFunc gf args).run Try.prog w = .ok (.enter gf args) w)
    (hp : ∀ (W : World) (x : S77) (cs : List Value), Below w.heap.size w W → (k77).K W x cs → Calls Try.prog gf (#[.agg cs.toArray] ++ lb) W fun e w' => e = .returned (.bool (p x)) ∧ Below W.heap.size W w') :
    Calls Try.prog 42 #[.slice A0 l0.length c0, .func (.func gf) #[] lb] w fun e w' => e = .returned (.bool (decide (fidx p l0 ≥ 0))) ∧ Below w.heap.size w w' := by
  have HI := am (idx49 A0 c0 l0 gf lb p w hr0 eg hp); clear hr0 hp eg; go_enter Try.func42, Try.ntmps42; go_wp2_with fail; refine HI.out.mono ?_; rintro e w' ⟨rfl, hb'⟩; have HB' := am hb'; clear hb'; go_wp2; go_ret; exact ⟨rfl, HB'.out⟩
set_option maxHeartbeats 2000000 in
set_option maxRecDepth 100000 in
theorem clo43 (g : Nat) (cs : Array Value) (b : ByteArray) (x : S77) (W : World) (hb : W.heap[g]? = some (.cells cs 77 (0, 0))) (h0 : cs[0]? = some (.string b)) :
    Calls Try.prog 43 #[.agg #[.string x.f0, .string x.f1, .bool x.f2, .bool x.f3, .int .i64 x.f4, .int .i64 x.f5, .int .i64 x.f6, .int .i64 x.f7, .int .i64 x.f8], .pointer (some ⟨g, 0, none⟩)] W fun e w' => e = .returned (.bool (x.f0.toList == b.toList)) ∧ Below W.heap.size W w' := by
  have hc : W.cell? ⟨g, 0, none⟩ = some (.string b) := (blk_cell hb 0).trans h0; have hc' : (W.alloc (.cells #[.string x.f0, .string x.f1, .bool x.f2, .bool x.f3, .int .i64 x.f4, .int .i64 x.f5, .int .i64 x.f6, .int .i64 x.f7, .int .i64 x.f8] 77)).cell? ⟨g, 0, none⟩ = some (.string b) := pw_cell_below (below_alloc (Below.refl _ _) _) hc; clear hb h0 hc; go_enter Try.func43, Try.ntmps43; go_wp2; go_ret; exact ⟨rfl, (Below.refl _ _).alloc (Nat.le_refl _) _⟩
def cf42_43.f (l0 : List (S77)) (a1 : ByteArray) : Option Bool := some (decide (fidx (fun x : S77 => x.f0.toList == a1.toList) l0 ≥ 0))
theorem cf42_43.calls (A0 : Option Addr) (c0 : Nat) (l0 : List (S77)) (g : Nat) (cs : Array Value) (a1 : ByteArray) (r : Bool) (w : World) (hr0 : Kd.C k77 w A0 l0.length l0) (hc0 : l0.length ≤ c0) (hb : w.heap[g]? = some (.cells cs 77 (0, 0))) (h0 : cs[0]? = some (.string a1)) (h : cf42_43.f l0 a1 = some r) :
    Calls Try.prog 42 #[.slice A0 l0.length c0, .func (.func 43) #[] #[.pointer (some ⟨g, 0, none⟩)]] w fun e w' => e = .returned (.bool r) ∧ Below w.heap.size w w' := by
  obtain rfl := Option.some.inj h; refine cont42 A0 c0 l0 43 #[.pointer (some ⟨g, 0, none⟩)] (fun x : S77 => x.f0.toList == a1.toList) w hr0 (Go.Proofs.enters_of Try.func43 (by kernel_rfl) rfl) ?_; intro W x c hB hK; have hlt := blk_lt hb; have hb' : W.heap[g]? = some (.cells cs 77 (0, 0)) := (hB.block g hlt).trans hb; obtain rfl := k77_open hK; exact clo43 g cs a1 x W hb' h0
end Go.Proofs.Ytdedefemggkobaa.PThread
