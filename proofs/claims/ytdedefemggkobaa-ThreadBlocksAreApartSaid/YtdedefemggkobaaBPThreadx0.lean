/- Written by a program of this session, for the law(s) Thread: contracts of the Go functions that the law reaches, each against a plain Lean function. No condition. -/
import Derived.Test.YtdedefemggkobaaProg
import Derived.Below
import Derived.Deep.Draws
import Derived.Deep.AppendLies
import Derived.Maps.AppendAt
import Derived.OwnWalk
import Derived.Laws.BytesArg
import Derived.Laws.MakeOwn
import Derived.Laws.OwnMore
import Derived.Deep.OwnRows
import Derived.Tactics
import Derived.Lib.ConvBytes
import Derived.Laws.Slices
import Derived.WalkKit
import Derived.KernelRfl
import Derived.RowKit3
import Derived.Deep.LoopGhost
import Derived.Deep.QuietTactic
import Derived.BigQuiet
import Derived.WideLaws
import Derived.Deep.DeepCutAuto
import Derived.Deep.CutBlock
import Derived.Deep.RegionHeld3
import Derived.Laws.Rows
import Derived.Lib.AppendStr
import Derived.ArgAppend
import Derived.Laws.IdiomCopy
import Derived.OrdersHeld
import Derived.Laws.BitsLemmas
import Derived.RowKit
import Derived.WalkSpells
import Derived.Lib.SliceRun
import Derived.Shelf.Abstract
import Derived.Test.YtdedefemggkobaaBTWords
import Derived.Test.YtdedefemggkobaaBTLast
import Derived.Test.YtdedefemggkobaaBTTab
import Derived.Test.YtdedefemggkobaaBTFour
import Derived.Test.YtdedefemggkobaaBTQPut
import Derived.Test.YtdedefemggkobaaBTApart
import Derived.Test.YtdedefemggkobaaBTArr
import Derived.Test.YtdedefemggkobaaBTZeros
import Derived.Test.YtdedefemggkobaaBTFoot
import Derived.Test.YtdedefemggkobaaBTKept
import Derived.Test.YtdedefemggkobaaBTShare
import Derived.Test.YtdedefemggkobaaBTN
import Derived.Test.YtdedefemggkobaaBTFootNe
import Derived.Test.YtdedefemggkobaaBTAt
import Derived.Test.YtdedefemggkobaaBTEqStruct
import Derived.Test.YtdedefemggkobaaBTRepsOne
import Derived.Test.YtdedefemggkobaaBTInv
import Derived.Test.YtdedefemggkobaaBTInvWords
import Derived.Test.YtdedefemggkobaaBTGuard
import Derived.Test.YtdedefemggkobaaBTNEv
import Derived.Test.YtdedefemggkobaaBTMore
namespace Go.Proofs.Ytdedefemggkobaa.PThread
open Go.RowKit Go.Proofs.YtdedefemggkobaaW.PrintWords Go.Proofs.YtdedefemggkobaaW.PrintLast Go.Proofs.YtdedefemggkobaaW.PrintMore
attribute [local go_sem] max2_int min2_int max_two min_two max_three min_three max_four min_four   -- for this text's walks alone
set_option linter.unusedVariables false
set_option linter.unusedSimpArgs false
def errW : Option Int → Value
  | none => .nilIface
  | some c => .iface 0 (.int .i64 c)
theorem errW_none : errW none = .nilIface := rfl
theorem errW_some (c : Int) : errW (some c) = .iface 0 (.int .i64 c) := rfl
theorem info3 : (Try.prog.info? 3).map (fun i => (i.zero, i.size, i.bytes)) = some (some (.int .i64 0), 1, 8) := by kernel_rfl
theorem info4 : (Try.prog.info? 4).map (fun i => (i.zero, i.size, i.bytes)) = some (some (.bool false), 1, 1) := by kernel_rfl
theorem info5 : (Try.prog.info? 5).map (fun i => (i.zero, i.size, i.bytes)) = some (some (.int .u8 0), 1, 1) := by kernel_rfl
theorem info9 : (Try.prog.info? 9).map (fun i => (i.zero, i.size, i.bytes)) = some (some (.string ⟨#[]⟩), 1, 16) := by kernel_rfl
theorem info40 : (Try.prog.info? 40).map (fun i => (i.zero, i.size, i.bytes)) = some (some (.slice none 0 0), 1, 24) := by kernel_rfl
theorem info46 : (Try.prog.info? 46).map (fun i => (i.zero, i.size, i.bytes)) = some (some (.agg #[(.string ⟨#[]⟩), (.int .i64 0), (.int .i64 0), (.slice none 0 0), (.int .i64 0), (.bool false), (.slice none 0 0), (.slice none 0 0), (.slice none 0 0)]), 9, 144) := by kernel_rfl
theorem info77 : (Try.prog.info? 77).map (fun i => (i.zero, i.size, i.bytes)) = some (some (.agg #[(.string ⟨#[]⟩), (.string ⟨#[]⟩), (.bool false), (.bool false), (.int .i64 0), (.int .i64 0), (.int .i64 0), (.int .i64 0), (.int .i64 0)]), 9, 80) := by kernel_rfl
theorem info81 : (Try.prog.info? 81).map (fun i => (i.zero, i.size, i.bytes)) = some (some (.agg #[(.string ⟨#[]⟩), (.slice none 0 0)]), 2, 40) := by kernel_rfl
theorem info98 : (Try.prog.info? 98).map (fun i => (i.zero, i.size, i.bytes)) = some (some (.agg #[(.string ⟨#[]⟩), (.int .i64 0), (.int .i64 0)]), 3, 32) := by kernel_rfl
structure S90 where
  f0 : Int
  f1 : Int
  f2 : Int
  f3 : Int
def z90 : S90 := ⟨(0 : Int), (0 : Int), (0 : Int), (0 : Int)⟩
def k90 : Kd S90 := Kd.iso (Kd.pair (Kd.int .i64) (Kd.pair (Kd.int .i64) (Kd.pair (Kd.int .i64) (Kd.int .i64)))) (fun x : S90 => (x.f0, x.f1, x.f2, x.f3))
theorem k90_heap : Kd.Heap k90 := Kd.heap_iso _ (Kd.heap_pair (Kd.heap_int .i64) (Kd.heap_pair (Kd.heap_int .i64) (Kd.heap_pair (Kd.heap_int .i64) (Kd.heap_int .i64))))
theorem k90_open {w : World} {x : S90} {cs : List Value} (h : k90.K w x cs) : cs = [.int .i64 x.f0, .int .i64 x.f1, .int .i64 x.f2, .int .i64 x.f3] := by
  obtain ⟨_, _, rfl, rfl, ⟨_, _, rfl, rfl, ⟨_, _, rfl, rfl, rfl⟩⟩⟩ := h
  exact rfl
def D90 (xs : List S90) (i : Int) : S90 := xs.getD i.toNat z90
theorem at_T90 {w : World} {A : Option Addr} {n : Nat} {xs : List S90} (h : Kd.C k90 w A n xs) (i : Int) (h0 : 0 ≤ i) (h1 : i < n) : ∃ ad , A = some ad ∧ w.cell? (ad.add (i.toNat * 4)) = some (.int .i64 (D90 xs i).f0) ∧ w.cell? ⟨(ad.add (i.toNat * 4)).block, (ad.add (i.toNat * 4)).off + 1, none⟩ = some (.int .i64 (D90 xs i).f1) ∧ w.cell? ⟨(ad.add (i.toNat * 4)).block, (ad.add (i.toNat * 4)).off + 2, none⟩ = some (.int .i64 (D90 xs i).f2) ∧ w.cell? ⟨(ad.add (i.toNat * 4)).block, (ad.add (i.toNat * 4)).off + 3, none⟩ = some (.int .i64 (D90 xs i).f3) := by
  obtain ⟨ad, c, e, _, hK, hc0⟩ := Kd.C_get h z90 i h0 h1
  have hc : ∀ j u, c[j]? = some u → w.cell? (ad.add (i.toNat * 4 + j)) = some u := hc0
  obtain rfl := k90_open hK
  exact ⟨ad, e, hc 0 _ rfl, by rw [← add_field _ _ 1 (by omega)]; exact hc 1 _ rfl, by rw [← add_field _ _ 2 (by omega)]; exact hc 2 _ rfl, by rw [← add_field _ _ 3 (by omega)]; exact hc 3 _ rfl⟩
structure S92 where
  f0 : Int
  f1 : Int
  f2 : Int
def z92 : S92 := ⟨(0 : Int), (0 : Int), (0 : Int)⟩
def k92 : Kd S92 := Kd.iso (Kd.pair (Kd.int .i64) (Kd.pair (Kd.int .i64) (Kd.int .i64))) (fun x : S92 => (x.f0, x.f1, x.f2))
theorem k92_heap : Kd.Heap k92 := Kd.heap_iso _ (Kd.heap_pair (Kd.heap_int .i64) (Kd.heap_pair (Kd.heap_int .i64) (Kd.heap_int .i64)))
theorem k92_open {w : World} {x : S92} {cs : List Value} (h : k92.K w x cs) : cs = [.int .i64 x.f0, .int .i64 x.f1, .int .i64 x.f2] := by
  obtain ⟨_, _, rfl, rfl, ⟨_, _, rfl, rfl, rfl⟩⟩ := h
  exact rfl
def D92 (xs : List S92) (i : Int) : S92 := xs.getD i.toNat z92
theorem at_T92 {w : World} {A : Option Addr} {n : Nat} {xs : List S92} (h : Kd.C k92 w A n xs) (i : Int) (h0 : 0 ≤ i) (h1 : i < n) : ∃ ad , A = some ad ∧ w.cell? (ad.add (i.toNat * 3)) = some (.int .i64 (D92 xs i).f0) ∧ w.cell? ⟨(ad.add (i.toNat * 3)).block, (ad.add (i.toNat * 3)).off + 1, none⟩ = some (.int .i64 (D92 xs i).f1) ∧ w.cell? ⟨(ad.add (i.toNat * 3)).block, (ad.add (i.toNat * 3)).off + 2, none⟩ = some (.int .i64 (D92 xs i).f2) := by
  obtain ⟨ad, c, e, _, hK, hc0⟩ := Kd.C_get h z92 i h0 h1
  have hc : ∀ j u, c[j]? = some u → w.cell? (ad.add (i.toNat * 3 + j)) = some u := hc0
  obtain rfl := k92_open hK
  exact ⟨ad, e, hc 0 _ rfl, by rw [← add_field _ _ 1 (by omega)]; exact hc 1 _ rfl, by rw [← add_field _ _ 2 (by omega)]; exact hc 2 _ rfl⟩
structure S94 where
  f0 : Int
  f1 : Int
  f2 : Int
  f3 : Int
def z94 : S94 := ⟨(0 : Int), (0 : Int), (0 : Int), (0 : Int)⟩
def k94 : Kd S94 := Kd.iso (Kd.pair (Kd.int .i64) (Kd.pair (Kd.int .i64) (Kd.pair (Kd.int .i64) (Kd.int .i64)))) (fun x : S94 => (x.f0, x.f1, x.f2, x.f3))
theorem k94_heap : Kd.Heap k94 := Kd.heap_iso _ (Kd.heap_pair (Kd.heap_int .i64) (Kd.heap_pair (Kd.heap_int .i64) (Kd.heap_pair (Kd.heap_int .i64) (Kd.heap_int .i64))))
theorem k94_open {w : World} {x : S94} {cs : List Value} (h : k94.K w x cs) : cs = [.int .i64 x.f0, .int .i64 x.f1, .int .i64 x.f2, .int .i64 x.f3] := by
  obtain ⟨_, _, rfl, rfl, ⟨_, _, rfl, rfl, ⟨_, _, rfl, rfl, rfl⟩⟩⟩ := h
  exact rfl
def D94 (xs : List S94) (i : Int) : S94 := xs.getD i.toNat z94
theorem at_T94 {w : World} {A : Option Addr} {n : Nat} {xs : List S94} (h : Kd.C k94 w A n xs) (i : Int) (h0 : 0 ≤ i) (h1 : i < n) : ∃ ad , A = some ad ∧ w.cell? (ad.add (i.toNat * 4)) = some (.int .i64 (D94 xs i).f0) ∧ w.cell? ⟨(ad.add (i.toNat * 4)).block, (ad.add (i.toNat * 4)).off + 1, none⟩ = some (.int .i64 (D94 xs i).f1) ∧ w.cell? ⟨(ad.add (i.toNat * 4)).block, (ad.add (i.toNat * 4)).off + 2, none⟩ = some (.int .i64 (D94 xs i).f2) ∧ w.cell? ⟨(ad.add (i.toNat * 4)).block, (ad.add (i.toNat * 4)).off + 3, none⟩ = some (.int .i64 (D94 xs i).f3) := by
  obtain ⟨ad, c, e, _, hK, hc0⟩ := Kd.C_get h z94 i h0 h1
  have hc : ∀ j u, c[j]? = some u → w.cell? (ad.add (i.toNat * 4 + j)) = some u := hc0
  obtain rfl := k94_open hK
  exact ⟨ad, e, hc 0 _ rfl, by rw [← add_field _ _ 1 (by omega)]; exact hc 1 _ rfl, by rw [← add_field _ _ 2 (by omega)]; exact hc 2 _ rfl, by rw [← add_field _ _ 3 (by omega)]; exact hc 3 _ rfl⟩
structure S46 where
  f0 : ByteArray
  f1 : Int
  f2 : Int
  f3 : (List Int)
  f4 : Int
  f5 : Bool
  f6 : (List S90)
  f7 : (List S92)
  f8 : (List S94)
def z46 : S46 := ⟨(⟨#[]⟩ : ByteArray), (0 : Int), (0 : Int), ([] : List Int), (0 : Int), false, ([] : List S90), ([] : List S92), ([] : List S94)⟩
def k46 : Kd S46 := Kd.iso (Kd.pair Kd.string (Kd.pair (Kd.int .i64) (Kd.pair (Kd.int .i64) (Kd.pair (Kd.slice 5 (Kd.int .u8)) (Kd.pair (Kd.int .i64) (Kd.pair Kd.bool (Kd.pair (Kd.slice 90 k90) (Kd.pair (Kd.slice 92 k92) (Kd.slice 94 k94))))))))) (fun x : S46 => (x.f0, x.f1, x.f2, x.f3, x.f4, x.f5, x.f6, x.f7, x.f8))
theorem k46_heap : Kd.Heap k46 := Kd.heap_iso _ (Kd.heap_pair Kd.heap_string (Kd.heap_pair (Kd.heap_int .i64) (Kd.heap_pair (Kd.heap_int .i64) (Kd.heap_pair (Kd.heap_slice 5 (Kd.heap_int .u8)) (Kd.heap_pair (Kd.heap_int .i64) (Kd.heap_pair Kd.heap_bool (Kd.heap_pair (Kd.heap_slice 90 k90_heap) (Kd.heap_pair (Kd.heap_slice 92 k92_heap) (Kd.heap_slice 94 k94_heap)))))))))
theorem k46_open {w : World} {x : S46} {cs : List Value} (h : k46.K w x cs) : ∃ A3 c3 A6 c6 A7 c7 A8 c8, cs = [.string x.f0, .int .i64 x.f1, .int .i64 x.f2, .slice A3 x.f3.length c3, .int .i64 x.f4, .bool x.f5, .slice A6 x.f6.length c6, .slice A7 x.f7.length c7, .slice A8 x.f8.length c8] ∧ x.f3.length ≤ c3 ∧ (Kd.int .u8).C w A3 x.f3.length x.f3 ∧ x.f6.length ≤ c6 ∧ k90.C w A6 x.f6.length x.f6 ∧ x.f7.length ≤ c7 ∧ k92.C w A7 x.f7.length x.f7 ∧ x.f8.length ≤ c8 ∧ k94.C w A8 x.f8.length x.f8 := by
  obtain ⟨_, _, rfl, rfl, ⟨_, _, rfl, rfl, ⟨_, _, rfl, rfl, ⟨_, _, rfl, ⟨A3, c3, rfl, l3, g3⟩, ⟨_, _, rfl, rfl, ⟨_, _, rfl, rfl, ⟨_, _, rfl, ⟨A6, c6, rfl, l6, g6⟩, ⟨_, _, rfl, ⟨A7, c7, rfl, l7, g7⟩, ⟨A8, c8, rfl, l8, g8⟩⟩⟩⟩⟩⟩⟩⟩⟩ := h
  exact ⟨A3, c3, A6, c6, A7, c7, A8, c8, rfl, l3, g3, l6, g6, l7, g7, l8, g8⟩
theorem k46_mkM (w : World) (base : Nat) (ok : Nat → Prop) (x : S46) {v3 : Value} (g3 : (Kd.int .u8).R 5 w base ok v3 x.f3) {v6 : Value} (g6 : k90.R 90 w base ok v6 x.f6) {v7 : Value} (g7 : k92.R 92 w base ok v7 x.f7) {v8 : Value} (g8 : k94.R 94 w base ok v8 x.f8) : k46.M w base ok x [.string x.f0, .int .i64 x.f1, .int .i64 x.f2, v3, .int .i64 x.f4, .bool x.f5, v6, v7, v8] := ⟨[.string x.f0], [.int .i64 x.f1, .int .i64 x.f2, v3, .int .i64 x.f4, .bool x.f5, v6, v7, v8], rfl, rfl, ⟨[.int .i64 x.f1], [.int .i64 x.f2, v3, .int .i64 x.f4, .bool x.f5, v6, v7, v8], rfl, rfl, ⟨[.int .i64 x.f2], [v3, .int .i64 x.f4, .bool x.f5, v6, v7, v8], rfl, rfl, ⟨[v3], [.int .i64 x.f4, .bool x.f5, v6, v7, v8], rfl, ⟨v3, rfl, g3⟩, ⟨[.int .i64 x.f4], [.bool x.f5, v6, v7, v8], rfl, rfl, ⟨[.bool x.f5], [v6, v7, v8], rfl, rfl, ⟨[v6], [v7, v8], rfl, ⟨v6, rfl, g6⟩, ⟨[v7], [v8], rfl, ⟨v7, rfl, g7⟩, ⟨v8, rfl, g8⟩⟩⟩⟩⟩⟩⟩⟩⟩
def D46 (xs : List S46) (i : Int) : S46 := xs.getD i.toNat z46
theorem at_T46 {w : World} {A : Option Addr} {n : Nat} {xs : List S46} (h : Kd.C k46 w A n xs) (i : Int) (h0 : 0 ≤ i) (h1 : i < n) : ∃ ad A3 c3 A6 c6 A7 c7 A8 c8, A = some ad ∧ w.cell? (ad.add (i.toNat * 9)) = some (.string (D46 xs i).f0) ∧ w.cell? ⟨(ad.add (i.toNat * 9)).block, (ad.add (i.toNat * 9)).off + 1, none⟩ = some (.int .i64 (D46 xs i).f1) ∧ w.cell? ⟨(ad.add (i.toNat * 9)).block, (ad.add (i.toNat * 9)).off + 2, none⟩ = some (.int .i64 (D46 xs i).f2) ∧ w.cell? ⟨(ad.add (i.toNat * 9)).block, (ad.add (i.toNat * 9)).off + 3, none⟩ = some (.slice A3 (D46 xs i).f3.length c3) ∧ w.cell? ⟨(ad.add (i.toNat * 9)).block, (ad.add (i.toNat * 9)).off + 4, none⟩ = some (.int .i64 (D46 xs i).f4) ∧ w.cell? ⟨(ad.add (i.toNat * 9)).block, (ad.add (i.toNat * 9)).off + 5, none⟩ = some (.bool (D46 xs i).f5) ∧ w.cell? ⟨(ad.add (i.toNat * 9)).block, (ad.add (i.toNat * 9)).off + 6, none⟩ = some (.slice A6 (D46 xs i).f6.length c6) ∧ w.cell? ⟨(ad.add (i.toNat * 9)).block, (ad.add (i.toNat * 9)).off + 7, none⟩ = some (.slice A7 (D46 xs i).f7.length c7) ∧ w.cell? ⟨(ad.add (i.toNat * 9)).block, (ad.add (i.toNat * 9)).off + 8, none⟩ = some (.slice A8 (D46 xs i).f8.length c8) ∧ (D46 xs i).f3.length ≤ c3 ∧ (Kd.int .u8).C w A3 (D46 xs i).f3.length (D46 xs i).f3 ∧ (D46 xs i).f6.length ≤ c6 ∧ k90.C w A6 (D46 xs i).f6.length (D46 xs i).f6 ∧ (D46 xs i).f7.length ≤ c7 ∧ k92.C w A7 (D46 xs i).f7.length (D46 xs i).f7 ∧ (D46 xs i).f8.length ≤ c8 ∧ k94.C w A8 (D46 xs i).f8.length (D46 xs i).f8 := by
  obtain ⟨ad, c, e, _, hK, hc0⟩ := Kd.C_get h z46 i h0 h1
  have hc : ∀ j u, c[j]? = some u → w.cell? (ad.add (i.toNat * 9 + j)) = some u := hc0
  obtain ⟨A3, c3, A6, c6, A7, c7, A8, c8, rfl, l3, g3, l6, g6, l7, g7, l8, g8⟩ := k46_open hK
  exact ⟨ad, A3, c3, A6, c6, A7, c7, A8, c8, e, hc 0 _ rfl, by rw [← add_field _ _ 1 (by omega)]; exact hc 1 _ rfl, by rw [← add_field _ _ 2 (by omega)]; exact hc 2 _ rfl, by rw [← add_field _ _ 3 (by omega)]; exact hc 3 _ rfl, by rw [← add_field _ _ 4 (by omega)]; exact hc 4 _ rfl, by rw [← add_field _ _ 5 (by omega)]; exact hc 5 _ rfl, by rw [← add_field _ _ 6 (by omega)]; exact hc 6 _ rfl, by rw [← add_field _ _ 7 (by omega)]; exact hc 7 _ rfl, by rw [← add_field _ _ 8 (by omega)]; exact hc 8 _ rfl, l3, g3, l6, g6, l7, g7, l8, g8⟩
structure S77 where
  f0 : ByteArray
  f1 : ByteArray
  f2 : Bool
  f3 : Bool
  f4 : Int
  f5 : Int
  f6 : Int
  f7 : Int
  f8 : Int
def z77 : S77 := ⟨(⟨#[]⟩ : ByteArray), (⟨#[]⟩ : ByteArray), false, false, (0 : Int), (0 : Int), (0 : Int), (0 : Int), (0 : Int)⟩
def k77 : Kd S77 := Kd.iso (Kd.pair Kd.string (Kd.pair Kd.string (Kd.pair Kd.bool (Kd.pair Kd.bool (Kd.pair (Kd.int .i64) (Kd.pair (Kd.int .i64) (Kd.pair (Kd.int .i64) (Kd.pair (Kd.int .i64) (Kd.int .i64))))))))) (fun x : S77 => (x.f0, x.f1, x.f2, x.f3, x.f4, x.f5, x.f6, x.f7, x.f8))
theorem k77_heap : Kd.Heap k77 := Kd.heap_iso _ (Kd.heap_pair Kd.heap_string (Kd.heap_pair Kd.heap_string (Kd.heap_pair Kd.heap_bool (Kd.heap_pair Kd.heap_bool (Kd.heap_pair (Kd.heap_int .i64) (Kd.heap_pair (Kd.heap_int .i64) (Kd.heap_pair (Kd.heap_int .i64) (Kd.heap_pair (Kd.heap_int .i64) (Kd.heap_int .i64)))))))))
theorem k77_open {w : World} {x : S77} {cs : List Value} (h : k77.K w x cs) : cs = [.string x.f0, .string x.f1, .bool x.f2, .bool x.f3, .int .i64 x.f4, .int .i64 x.f5, .int .i64 x.f6, .int .i64 x.f7, .int .i64 x.f8] := by
  obtain ⟨_, _, rfl, rfl, ⟨_, _, rfl, rfl, ⟨_, _, rfl, rfl, ⟨_, _, rfl, rfl, ⟨_, _, rfl, rfl, ⟨_, _, rfl, rfl, ⟨_, _, rfl, rfl, ⟨_, _, rfl, rfl, rfl⟩⟩⟩⟩⟩⟩⟩⟩ := h
  exact rfl
def D77 (xs : List S77) (i : Int) : S77 := xs.getD i.toNat z77
theorem at_T77 {w : World} {A : Option Addr} {n : Nat} {xs : List S77} (h : Kd.C k77 w A n xs) (i : Int) (h0 : 0 ≤ i) (h1 : i < n) : ∃ ad , A = some ad ∧ w.cell? (ad.add (i.toNat * 9)) = some (.string (D77 xs i).f0) ∧ w.cell? ⟨(ad.add (i.toNat * 9)).block, (ad.add (i.toNat * 9)).off + 1, none⟩ = some (.string (D77 xs i).f1) ∧ w.cell? ⟨(ad.add (i.toNat * 9)).block, (ad.add (i.toNat * 9)).off + 2, none⟩ = some (.bool (D77 xs i).f2) ∧ w.cell? ⟨(ad.add (i.toNat * 9)).block, (ad.add (i.toNat * 9)).off + 3, none⟩ = some (.bool (D77 xs i).f3) ∧ w.cell? ⟨(ad.add (i.toNat * 9)).block, (ad.add (i.toNat * 9)).off + 4, none⟩ = some (.int .i64 (D77 xs i).f4) ∧ w.cell? ⟨(ad.add (i.toNat * 9)).block, (ad.add (i.toNat * 9)).off + 5, none⟩ = some (.int .i64 (D77 xs i).f5) ∧ w.cell? ⟨(ad.add (i.toNat * 9)).block, (ad.add (i.toNat * 9)).off + 6, none⟩ = some (.int .i64 (D77 xs i).f6) ∧ w.cell? ⟨(ad.add (i.toNat * 9)).block, (ad.add (i.toNat * 9)).off + 7, none⟩ = some (.int .i64 (D77 xs i).f7) ∧ w.cell? ⟨(ad.add (i.toNat * 9)).block, (ad.add (i.toNat * 9)).off + 8, none⟩ = some (.int .i64 (D77 xs i).f8) := by
  obtain ⟨ad, c, e, _, hK, hc0⟩ := Kd.C_get h z77 i h0 h1
  have hc : ∀ j u, c[j]? = some u → w.cell? (ad.add (i.toNat * 9 + j)) = some u := hc0
  obtain rfl := k77_open hK
  exact ⟨ad, e, hc 0 _ rfl, by rw [← add_field _ _ 1 (by omega)]; exact hc 1 _ rfl, by rw [← add_field _ _ 2 (by omega)]; exact hc 2 _ rfl, by rw [← add_field _ _ 3 (by omega)]; exact hc 3 _ rfl, by rw [← add_field _ _ 4 (by omega)]; exact hc 4 _ rfl, by rw [← add_field _ _ 5 (by omega)]; exact hc 5 _ rfl, by rw [← add_field _ _ 6 (by omega)]; exact hc 6 _ rfl, by rw [← add_field _ _ 7 (by omega)]; exact hc 7 _ rfl, by rw [← add_field _ _ 8 (by omega)]; exact hc 8 _ rfl⟩
def rd_L13 (xs : List (List Int)) (i : Int) : (List Int) := xs.getD i.toNat ([] : List Int)
theorem at_L13 {w : World} {A : Option Addr} {n : Nat} {xs : List (List Int)} (h : Kd.C (Kd.slice 3 (Kd.int .i64)) w A n xs) (i : Int) (h0 : 0 ≤ i) (h1 : i < n) : ∃ ad A0 c0, A = some ad ∧ w.cell? (ad.add i.toNat) = some (.slice A0 (rd_L13 xs i).length c0) ∧ (rd_L13 xs i).length ≤ c0 ∧ (Kd.int .i64).C w A0 (rd_L13 xs i).length (rd_L13 xs i) := by
  obtain ⟨ad, c, e, _, hK, hc0⟩ := Kd.C_get h ([] : List Int) i h0 h1
  have hc : ∀ j u, c[j]? = some u → w.cell? (ad.add (i.toNat * 1 + j)) = some u := hc0
  obtain ⟨A0, c0, rfl, l0, g0⟩ := hK
  exact ⟨ad, A0, c0, e, by have hq := hc 0 _ rfl; rwa [Nat.mul_one, Nat.add_zero] at hq, l0, g0⟩
structure S81 where
  f0 : ByteArray
  f1 : (List Int)
def z81 : S81 := ⟨(⟨#[]⟩ : ByteArray), ([] : List Int)⟩
def k81 : Kd S81 := Kd.iso (Kd.pair Kd.string (Kd.slice 3 (Kd.int .i64))) (fun x : S81 => (x.f0, x.f1))
theorem k81_heap : Kd.Heap k81 := Kd.heap_iso _ (Kd.heap_pair Kd.heap_string (Kd.heap_slice 3 (Kd.heap_int .i64)))
theorem k81_open {w : World} {x : S81} {cs : List Value} (h : k81.K w x cs) : ∃ A1 c1, cs = [.string x.f0, .slice A1 x.f1.length c1] ∧ x.f1.length ≤ c1 ∧ (Kd.int .i64).C w A1 x.f1.length x.f1 := by
  obtain ⟨_, _, rfl, rfl, ⟨A1, c1, rfl, l1, g1⟩⟩ := h
  exact ⟨A1, c1, rfl, l1, g1⟩
def D81 (xs : List S81) (i : Int) : S81 := xs.getD i.toNat z81
structure S98 where
  f0 : ByteArray
  f1 : Int
  f2 : Int
def z98 : S98 := ⟨(⟨#[]⟩ : ByteArray), (0 : Int), (0 : Int)⟩
def k98 : Kd S98 := Kd.iso (Kd.pair Kd.string (Kd.pair (Kd.int .i64) (Kd.int .i64))) (fun x : S98 => (x.f0, x.f1, x.f2))
theorem k98_heap : Kd.Heap k98 := Kd.heap_iso _ (Kd.heap_pair Kd.heap_string (Kd.heap_pair (Kd.heap_int .i64) (Kd.heap_int .i64)))
theorem k98_open {w : World} {x : S98} {cs : List Value} (h : k98.K w x cs) : cs = [.string x.f0, .int .i64 x.f1, .int .i64 x.f2] := by
  obtain ⟨_, _, rfl, rfl, ⟨_, _, rfl, rfl, rfl⟩⟩ := h
  exact rfl
def D98 (xs : List S98) (i : Int) : S98 := xs.getD i.toNat z98
theorem at_T98 {w : World} {A : Option Addr} {n : Nat} {xs : List S98} (h : Kd.C k98 w A n xs) (i : Int) (h0 : 0 ≤ i) (h1 : i < n) : ∃ ad , A = some ad ∧ w.cell? (ad.add (i.toNat * 3)) = some (.string (D98 xs i).f0) ∧ w.cell? ⟨(ad.add (i.toNat * 3)).block, (ad.add (i.toNat * 3)).off + 1, none⟩ = some (.int .i64 (D98 xs i).f1) ∧ w.cell? ⟨(ad.add (i.toNat * 3)).block, (ad.add (i.toNat * 3)).off + 2, none⟩ = some (.int .i64 (D98 xs i).f2) := by
  obtain ⟨ad, c, e, _, hK, hc0⟩ := Kd.C_get h z98 i h0 h1
  have hc : ∀ j u, c[j]? = some u → w.cell? (ad.add (i.toNat * 3 + j)) = some u := hc0
  obtain rfl := k98_open hK
  exact ⟨ad, e, hc 0 _ rfl, by rw [← add_field _ _ 1 (by omega)]; exact hc 1 _ rfl, by rw [← add_field _ _ 2 (by omega)]; exact hc 2 _ rfl⟩
structure S86 where
  f0 : Int
  f1 : ByteArray
  f2 : Int
  f3 : Int
  f4 : Int
  f5 : (List S98)
def z86 : S86 := ⟨(0 : Int), (⟨#[]⟩ : ByteArray), (0 : Int), (0 : Int), (0 : Int), ([] : List S98)⟩
def k86 : Kd S86 := Kd.iso (Kd.pair (Kd.int .i64) (Kd.pair Kd.string (Kd.pair (Kd.int .i64) (Kd.pair (Kd.int .i64) (Kd.pair (Kd.int .i64) (Kd.slice 98 k98)))))) (fun x : S86 => (x.f0, x.f1, x.f2, x.f3, x.f4, x.f5))
theorem k86_heap : Kd.Heap k86 := Kd.heap_iso _ (Kd.heap_pair (Kd.heap_int .i64) (Kd.heap_pair Kd.heap_string (Kd.heap_pair (Kd.heap_int .i64) (Kd.heap_pair (Kd.heap_int .i64) (Kd.heap_pair (Kd.heap_int .i64) (Kd.heap_slice 98 k98_heap))))))
theorem k86_open {w : World} {x : S86} {cs : List Value} (h : k86.K w x cs) : ∃ A5 c5, cs = [.int .i64 x.f0, .string x.f1, .int .i64 x.f2, .int .i64 x.f3, .int .i64 x.f4, .slice A5 x.f5.length c5] ∧ x.f5.length ≤ c5 ∧ k98.C w A5 x.f5.length x.f5 := by
  obtain ⟨_, _, rfl, rfl, ⟨_, _, rfl, rfl, ⟨_, _, rfl, rfl, ⟨_, _, rfl, rfl, ⟨_, _, rfl, rfl, ⟨A5, c5, rfl, l5, g5⟩⟩⟩⟩⟩⟩ := h
  exact ⟨A5, c5, rfl, l5, g5⟩
def D86 (xs : List S86) (i : Int) : S86 := xs.getD i.toNat z86
theorem at_T86 {w : World} {A : Option Addr} {n : Nat} {xs : List S86} (h : Kd.C k86 w A n xs) (i : Int) (h0 : 0 ≤ i) (h1 : i < n) : ∃ ad A5 c5, A = some ad ∧ w.cell? (ad.add (i.toNat * 6)) = some (.int .i64 (D86 xs i).f0) ∧ w.cell? ⟨(ad.add (i.toNat * 6)).block, (ad.add (i.toNat * 6)).off + 1, none⟩ = some (.string (D86 xs i).f1) ∧ w.cell? ⟨(ad.add (i.toNat * 6)).block, (ad.add (i.toNat * 6)).off + 2, none⟩ = some (.int .i64 (D86 xs i).f2) ∧ w.cell? ⟨(ad.add (i.toNat * 6)).block, (ad.add (i.toNat * 6)).off + 3, none⟩ = some (.int .i64 (D86 xs i).f3) ∧ w.cell? ⟨(ad.add (i.toNat * 6)).block, (ad.add (i.toNat * 6)).off + 4, none⟩ = some (.int .i64 (D86 xs i).f4) ∧ w.cell? ⟨(ad.add (i.toNat * 6)).block, (ad.add (i.toNat * 6)).off + 5, none⟩ = some (.slice A5 (D86 xs i).f5.length c5) ∧ (D86 xs i).f5.length ≤ c5 ∧ k98.C w A5 (D86 xs i).f5.length (D86 xs i).f5 := by
  obtain ⟨ad, c, e, _, hK, hc0⟩ := Kd.C_get h z86 i h0 h1
  have hc : ∀ j u, c[j]? = some u → w.cell? (ad.add (i.toNat * 6 + j)) = some u := hc0
  obtain ⟨A5, c5, rfl, l5, g5⟩ := k86_open hK
  exact ⟨ad, A5, c5, e, hc 0 _ rfl, by rw [← add_field _ _ 1 (by omega)]; exact hc 1 _ rfl, by rw [← add_field _ _ 2 (by omega)]; exact hc 2 _ rfl, by rw [← add_field _ _ 3 (by omega)]; exact hc 3 _ rfl, by rw [← add_field _ _ 4 (by omega)]; exact hc 4 _ rfl, by rw [← add_field _ _ 5 (by omega)]; exact hc 5 _ rfl, l5, g5⟩
structure S53 where
  f0 : ByteArray
  f1 : (List S46)
  f2 : (List S77)
  f3 : (List S81)
  f4 : (List ByteArray)
  f5 : (List S86)
def z53 : S53 := ⟨(⟨#[]⟩ : ByteArray), ([] : List S46), ([] : List S77), ([] : List S81), ([] : List ByteArray), ([] : List S86)⟩
def k53 : Kd S53 := Kd.iso (Kd.pair Kd.string (Kd.pair (Kd.slice 46 k46) (Kd.pair (Kd.slice 77 k77) (Kd.pair (Kd.slice 81 k81) (Kd.pair (Kd.slice 9 Kd.string) (Kd.slice 86 k86)))))) (fun x : S53 => (x.f0, x.f1, x.f2, x.f3, x.f4, x.f5))
theorem k53_open {w : World} {x : S53} {cs : List Value} (h : k53.K w x cs) : ∃ A1 c1 A2 c2 A3 c3 A4 c4 A5 c5, cs = [.string x.f0, .slice A1 x.f1.length c1, .slice A2 x.f2.length c2, .slice A3 x.f3.length c3, .slice A4 x.f4.length c4, .slice A5 x.f5.length c5] ∧ x.f1.length ≤ c1 ∧ k46.C w A1 x.f1.length x.f1 ∧ x.f2.length ≤ c2 ∧ k77.C w A2 x.f2.length x.f2 ∧ x.f3.length ≤ c3 ∧ k81.C w A3 x.f3.length x.f3 ∧ x.f4.length ≤ c4 ∧ Kd.string.C w A4 x.f4.length x.f4 ∧ x.f5.length ≤ c5 ∧ k86.C w A5 x.f5.length x.f5 := by
  obtain ⟨_, _, rfl, rfl, ⟨_, _, rfl, ⟨A1, c1, rfl, l1, g1⟩, ⟨_, _, rfl, ⟨A2, c2, rfl, l2, g2⟩, ⟨_, _, rfl, ⟨A3, c3, rfl, l3, g3⟩, ⟨_, _, rfl, ⟨A4, c4, rfl, l4, g4⟩, ⟨A5, c5, rfl, l5, g5⟩⟩⟩⟩⟩⟩ := h
  exact ⟨A1, c1, A2, c2, A3, c3, A4, c4, A5, c5, rfl, l1, g1, l2, g2, l3, g3, l4, g4, l5, g5⟩
theorem k53_mkM (w : World) (base : Nat) (ok : Nat → Prop) (x : S53) {v1 : Value} (g1 : k46.R 46 w base ok v1 x.f1) {v2 : Value} (g2 : k77.R 77 w base ok v2 x.f2) {v3 : Value} (g3 : k81.R 81 w base ok v3 x.f3) {v4 : Value} (g4 : Kd.string.R 9 w base ok v4 x.f4) {v5 : Value} (g5 : k86.R 86 w base ok v5 x.f5) : k53.M w base ok x [.string x.f0, v1, v2, v3, v4, v5] := ⟨[.string x.f0], [v1, v2, v3, v4, v5], rfl, rfl, ⟨[v1], [v2, v3, v4, v5], rfl, ⟨v1, rfl, g1⟩, ⟨[v2], [v3, v4, v5], rfl, ⟨v2, rfl, g2⟩, ⟨[v3], [v4, v5], rfl, ⟨v3, rfl, g3⟩, ⟨[v4], [v5], rfl, ⟨v4, rfl, g4⟩, ⟨v5, rfl, g5⟩⟩⟩⟩⟩⟩
def D53 (xs : List S53) (i : Int) : S53 := xs.getD i.toNat z53
theorem at_T53 {w : World} {A : Option Addr} {n : Nat} {xs : List S53} (h : Kd.C k53 w A n xs) (i : Int) (h0 : 0 ≤ i) (h1 : i < n) : ∃ ad A1 c1 A2 c2 A3 c3 A4 c4 A5 c5, A = some ad ∧ w.cell? (ad.add (i.toNat * 6)) = some (.string (D53 xs i).f0) ∧ w.cell? ⟨(ad.add (i.toNat * 6)).block, (ad.add (i.toNat * 6)).off + 1, none⟩ = some (.slice A1 (D53 xs i).f1.length c1) ∧ w.cell? ⟨(ad.add (i.toNat * 6)).block, (ad.add (i.toNat * 6)).off + 2, none⟩ = some (.slice A2 (D53 xs i).f2.length c2) ∧ w.cell? ⟨(ad.add (i.toNat * 6)).block, (ad.add (i.toNat * 6)).off + 3, none⟩ = some (.slice A3 (D53 xs i).f3.length c3) ∧ w.cell? ⟨(ad.add (i.toNat * 6)).block, (ad.add (i.toNat * 6)).off + 4, none⟩ = some (.slice A4 (D53 xs i).f4.length c4) ∧ w.cell? ⟨(ad.add (i.toNat * 6)).block, (ad.add (i.toNat * 6)).off + 5, none⟩ = some (.slice A5 (D53 xs i).f5.length c5) ∧ (D53 xs i).f1.length ≤ c1 ∧ k46.C w A1 (D53 xs i).f1.length (D53 xs i).f1 ∧ (D53 xs i).f2.length ≤ c2 ∧ k77.C w A2 (D53 xs i).f2.length (D53 xs i).f2 ∧ (D53 xs i).f3.length ≤ c3 ∧ k81.C w A3 (D53 xs i).f3.length (D53 xs i).f3 ∧ (D53 xs i).f4.length ≤ c4 ∧ Kd.string.C w A4 (D53 xs i).f4.length (D53 xs i).f4 ∧ (D53 xs i).f5.length ≤ c5 ∧ k86.C w A5 (D53 xs i).f5.length (D53 xs i).f5 := by
  obtain ⟨ad, c, e, _, hK, hc0⟩ := Kd.C_get h z53 i h0 h1
  have hc : ∀ j u, c[j]? = some u → w.cell? (ad.add (i.toNat * 6 + j)) = some u := hc0
  obtain ⟨A1, c1, A2, c2, A3, c3, A4, c4, A5, c5, rfl, l1, g1, l2, g2, l3, g3, l4, g4, l5, g5⟩ := k53_open hK
  exact ⟨ad, A1, c1, A2, c2, A3, c3, A4, c4, A5, c5, e, hc 0 _ rfl, by rw [← add_field _ _ 1 (by omega)]; exact hc 1 _ rfl, by rw [← add_field _ _ 2 (by omega)]; exact hc 2 _ rfl, by rw [← add_field _ _ 3 (by omega)]; exact hc 3 _ rfl, by rw [← add_field _ _ 4 (by omega)]; exact hc 4 _ rfl, by rw [← add_field _ _ 5 (by omega)]; exact hc 5 _ rfl, l1, g1, l2, g2, l3, g3, l4, g4, l5, g5⟩
def rd_L24 (xs : List (List Bool)) (i : Int) : (List Bool) := xs.getD i.toNat ([] : List Bool)
theorem at_L24 {w : World} {A : Option Addr} {n : Nat} {xs : List (List Bool)} (h : Kd.C (Kd.slice 4 Kd.bool) w A n xs) (i : Int) (h0 : 0 ≤ i) (h1 : i < n) : ∃ ad A0 c0, A = some ad ∧ w.cell? (ad.add i.toNat) = some (.slice A0 (rd_L24 xs i).length c0) ∧ (rd_L24 xs i).length ≤ c0 ∧ Kd.bool.C w A0 (rd_L24 xs i).length (rd_L24 xs i) := by
  obtain ⟨ad, c, e, _, hK, hc0⟩ := Kd.C_get h ([] : List Bool) i h0 h1
  have hc : ∀ j u, c[j]? = some u → w.cell? (ad.add (i.toNat * 1 + j)) = some u := hc0
  obtain ⟨A0, c0, rfl, l0, g0⟩ := hK
  exact ⟨ad, A0, c0, e, by have hq := hc 0 _ rfl; rwa [Nat.mul_one, Nat.add_zero] at hq, l0, g0⟩
theorem K_get {α : Type} {d : Kd α} {w : World} {S : Nat → Prop} {A : Option Addr} {n : Nat} {xs : List α} (h : ∀ W', Kept w W' S → d.C W' A n xs) (z : α) (i : Int) (h0 : 0 ≤ i) (h1 : i < n) :
    ∃ ad c, A = some ad ∧ c.length = d.sz ∧ (∀ W', Kept w W' S → d.K W' (xs.getD i.toNat z) c) ∧ (∀ W', Kept w W' S → ∀ j u, c[j]? = some u → W'.cell? (ad.add (i.toNat * d.sz + j)) = some u) := by
  obtain ⟨ad, c, rfl, hcl, hK, hcc⟩ := Kd.C_get (h w (Kept.refl _ _)) z i h0 h1
  have hin : 0 < d.sz → ad.block < w.heap.size ∧ ¬ S ad.block := by
    intro hs
    obtain ⟨W', hsz, h2, h3⟩ := Kd.emptied_at w ad.block
    have h4 := hcc 0 _ (List.getElem?_eq_getElem (by omega))
    refine ⟨?_, fun hS => ?_⟩
    · have := World.block_lt_of_cell? _ _ h4
      rwa [add_block] at this
    · obtain ⟨ad', c', he, hcl', _, hcc'⟩ := Kd.C_get (h W' ⟨by omega, fun k _ hk => h2 k (fun e => hk (e ▸ hS))⟩) z i h0 h1
      injection he with he
      subst he
      have h5 := hcc' 0 _ (List.getElem?_eq_getElem (by omega))
      rw [h3 _ (add_block _ _)] at h5
      cases h5
  have hall : ∀ W', Kept w W' S → ∀ j u, c[j]? = some u → W'.cell? (ad.add (i.toNat * d.sz + j)) = some u := fun W' hW j u hu => by
    have hj := (List.getElem?_eq_some_iff.1 hu).1
    have := hin (by omega)
    exact cell_kept (hcc j u hu) hW (by rw [add_block]; exact this.2)
  refine ⟨ad, c, rfl, hcl, fun W' hW => ?_, hall⟩
  obtain ⟨ad', c', he, hcl', hK', hcc'⟩ := Kd.C_get (h W' hW) z i h0 h1
  injection he with he
  subst he
  have : c = c' := by
    apply List.ext_getElem (by omega)
    intro j h2 h3
    have e1 := hall W' hW j _ (List.getElem?_eq_getElem h2)
    have e2 := hcc' j _ (List.getElem?_eq_getElem h3)
    rw [e1] at e2
    exact Option.some.inj e2
  rw [this]
  exact hK'
theorem k81_openK {W : World} {S : Nat → Prop} {x : S81} {cs : List Value} (h : ∀ W', Kept W W' S → k81.K W' x cs) : ∃ A1 c1, cs = [.string x.f0, .slice A1 x.f1.length c1] ∧ x.f1.length ≤ c1 ∧ (∀ W', Kept W W' S → Kd.C (Kd.int .i64) W' A1 x.f1.length x.f1) := by
  obtain ⟨A1, c1, rfl, l1, _⟩ := k81_open (h _ (Kept.refl _ _))
  exact ⟨A1, c1, rfl, l1, (fun W' hW => by obtain ⟨A1_, c1_, he, l1_, g1_⟩ := k81_open (h W' hW); injection (Option.some.inj (show some (Value.slice A1 x.f1.length c1) = some (Value.slice A1_ x.f1.length c1_) from congrArg (fun l => l[1]?) he)) with ha_ _ _; rw [ha_]; exact g1_)⟩
theorem at_T81K {W : World} {S : Nat → Prop} {w : World} {A : Option Addr} {n : Nat} {xs : List S81} (h : ∀ W', Kept w W' S → Kd.C k81 W' A n xs) (hk : Kept w W S) (i : Int) (h0 : 0 ≤ i) (h1 : i < n) : ∃ ad A1 c1, A = some ad ∧ W.cell? (ad.add (i.toNat * 2)) = some (.string (D81 xs i).f0) ∧ W.cell? ⟨(ad.add (i.toNat * 2)).block, (ad.add (i.toNat * 2)).off + 1, none⟩ = some (.slice A1 (D81 xs i).f1.length c1) ∧ (D81 xs i).f1.length ≤ c1 ∧ (∀ W', Kept w W' S → Kd.C (Kd.int .i64) W' A1 (D81 xs i).f1.length (D81 xs i).f1) := by
  obtain ⟨ad, c, e, _, hK, hc0⟩ := K_get h z81 i h0 h1
  have hc : ∀ j u, c[j]? = some u → W.cell? (ad.add (i.toNat * 2 + j)) = some u := hc0 W hk
  obtain ⟨A1, c1, rfl, l1, g1⟩ := k81_openK hK
  exact ⟨ad, A1, c1, e, hc 0 _ rfl, by rw [← add_field _ _ 1 (by omega)]; exact hc 1 _ rfl, l1, g1⟩
def G90 (y : S90) : Prop := (Lit.int .i64 y.f0).wf = true ∧ (Lit.int .i64 y.f1).wf = true ∧ (Lit.int .i64 y.f2).wf = true ∧ (Lit.int .i64 y.f3).wf = true
def G92 (y : S92) : Prop := (Lit.int .i64 y.f0).wf = true ∧ (Lit.int .i64 y.f1).wf = true ∧ (Lit.int .i64 y.f2).wf = true
def G94 (y : S94) : Prop := (Lit.int .i64 y.f0).wf = true ∧ (Lit.int .i64 y.f1).wf = true ∧ (Lit.int .i64 y.f2).wf = true ∧ (Lit.int .i64 y.f3).wf = true
def G46 (y : S46) : Prop := y.f0.size ≤ 9223372036854775807 ∧ (Lit.int .i64 y.f1).wf = true ∧ (Lit.int .i64 y.f2).wf = true ∧ (y.f3.length ≤ 9223372036854775807 ∧ ∀ y0 ∈ y.f3, (Lit.int .u8 y0).wf = true) ∧ (Lit.int .i64 y.f4).wf = true ∧ True ∧ (y.f6.length ≤ 9223372036854775807 ∧ ∀ y0 ∈ y.f6, G90 y0) ∧ (y.f7.length ≤ 9223372036854775807 ∧ ∀ y0 ∈ y.f7, G92 y0) ∧ (y.f8.length ≤ 9223372036854775807 ∧ ∀ y0 ∈ y.f8, G94 y0)
def G77 (y : S77) : Prop := y.f0.size ≤ 9223372036854775807 ∧ y.f1.size ≤ 9223372036854775807 ∧ True ∧ True ∧ (Lit.int .i64 y.f4).wf = true ∧ (Lit.int .i64 y.f5).wf = true ∧ (Lit.int .i64 y.f6).wf = true ∧ (Lit.int .i64 y.f7).wf = true ∧ (Lit.int .i64 y.f8).wf = true
def G81 (y : S81) : Prop := y.f0.size ≤ 9223372036854775807 ∧ (y.f1.length ≤ 9223372036854775807 ∧ ∀ y0 ∈ y.f1, (Lit.int .i64 y0).wf = true)
def G98 (y : S98) : Prop := y.f0.size ≤ 9223372036854775807 ∧ (Lit.int .i64 y.f1).wf = true ∧ (Lit.int .i64 y.f2).wf = true
def G86 (y : S86) : Prop := (Lit.int .i64 y.f0).wf = true ∧ y.f1.size ≤ 9223372036854775807 ∧ (Lit.int .i64 y.f2).wf = true ∧ (Lit.int .i64 y.f3).wf = true ∧ (Lit.int .i64 y.f4).wf = true ∧ (y.f5.length ≤ 9223372036854775807 ∧ ∀ y0 ∈ y.f5, G98 y0)
def G53 (y : S53) : Prop := y.f0.size ≤ 9223372036854775807 ∧ (y.f1.length ≤ 9223372036854775807 ∧ ∀ y0 ∈ y.f1, G46 y0) ∧ (y.f2.length ≤ 9223372036854775807 ∧ ∀ y0 ∈ y.f2, G77 y0) ∧ (y.f3.length ≤ 9223372036854775807 ∧ ∀ y0 ∈ y.f3, G81 y0) ∧ (y.f4.length ≤ 9223372036854775807 ∧ ∀ y0 ∈ y.f4, y0.size ≤ 9223372036854775807) ∧ (y.f5.length ≤ 9223372036854775807 ∧ ∀ y0 ∈ y.f5, G86 y0)
theorem qB {w W : World} (h : Below w.heap.size w W := by repeat (first | (with_reducible first | exact HB.out | apply below_alloc | apply pw_below_drewN | apply below_drew1 | refine below_set ?_ (Aside0.out (by with_reducible assumption))) | exact HB.out)) : Below w.heap.size w W := h
theorem qK {A B : Prop} (h : Aside0 A) (k : A → B := by intro h0; (with_reducible repeat (first | refine blk_drewN ?_ _ | refine blk_drew ?_ | refine blk_alloc ?_ _)); exact h0) : B := k h.out
theorem qR {A B : Prop} (h : Aside0 A) (k : A → B := by intro h0; (with_reducible repeat (first | apply Kd.R_alloc | apply Kd.R_drewN | apply Kd.R_drew)); exact h0) : B := k h.out
theorem qS {A B : Prop} (h : Aside0 A) (k : A → B := by intro h0; (with_reducible repeat (first | apply Kd.S_alloc | apply Kd.S_drewN | apply Kd.S_drew)); exact h0) : B := k h.out
theorem qV {A B : Prop} (h : Aside0 A) (k : A → B := by intro h0; (with_reducible repeat (first | apply Kd.V_alloc | apply Kd.V_drewN | apply Kd.V_drew)); exact h0) : B := k h.out
theorem qN {A B : Prop} (h : Aside0 A) (k : A → B := by intro h0; (with_reducible repeat (first | apply Kd.N_alloc | apply Kd.N_drewN | apply Kd.N_drew)); exact h0) : B := k h.out
theorem qG {w W : World} {g : Nat} (hg : g = W.heap.size) (h : Below w.heap.size w W := by repeat (first | (with_reducible first | exact HB.out | apply below_alloc | apply pw_below_drewN | apply below_drew1 | refine below_set ?_ (Aside0.out (by with_reducible assumption))) | exact HB.out)) : w.heap.size ≤ g := by rw [hg]; exact below_size h
theorem qD {A : Prop} (h : A := by first | exact ⟨rfl, _, World.drewN_drewN _ _ _⟩ | exact ⟨rfl, _, Eq.trans (World.drewN_drewN _ _ _) (congrArg (World.drewN _) (Nat.add_assoc _ _ _))⟩) : A := h
theorem qX {P : Program} {ops : Array Oper} {rest : List Oper} {o : Oper} {a : Act} {Q : Exit → Act → World → Prop} {W : World} {N : Tmp} {cs : Array Value} {t : TypeId}
    (h : ∀ g, g = W.heap.size → ∀ w1, w1.heap[g]? = some (.cells cs t (0, 0)) → Below W.heap.size W w1 → wpList P ops Q rest (a.put o.dst (.pointer (some ⟨g, 0, none⟩))) w1)
    (hgd : o.guard = none := by rfl) (hd : o.dst = some N := by rfl) (hrun : (execOp a.eval o).run P W = .ok (.value (.pointer (some ⟨W.heap.size, 0, none⟩))) (W.alloc (.cells cs t (0, 0))) := by first | (go_simp; done) | (go_simp; rfl)) : wpList P ops Q (o :: rest) a W := box_event hgd hd hrun h
theorem qE {A : Prop} (h : A := by first | rfl | (simp [errW_none, errW_some] <;> rfl) | (simp [*, errW_none, errW_some] <;> rfl)) : A := h
theorem qF {A : Prop} (h : A := by first | rfl | (simp; done) | (simp [*]; done)) : A := h
theorem qA {A : Prop} (h : A := by (try simp only [List.map_toArray, List.map_cons, List.map_nil]); first | done | rfl | (simp only [List.length_drop, List.length_take]; rfl)) : A := h
theorem qO {A : Prop} (h : A := by first | (with_reducible assumption) | assumption) : A := h
theorem qL {A : Prop} (h : A := by first | exact Kd.R_nil _ _ _ _ _ | exact Kd.N_nil _ _ _ _ _ | exact Kd.V_nil _ _ _ _ _ | exact Kd.Q_nil _ _ _ _ _ | exact Kd.S_nil _ _ _ _ _) : A := h
theorem drewN_set (w : World) (n : Nat) (p : Addr) (v : Value) : (w.drewN n).setCell p v = (w.setCell p v).drewN n := by
  unfold World.setCell
  rfl
theorem drewN_cell (w : World) (n : Nat) (a : Addr) : (w.drewN n).cell? a = w.cell? a := rfl
theorem blkC1 {w : World} {g t : Nat} {a0 : Value} (h : w.heap[g]? = some (.cells #[a0] t (0, 0))) : w.cell? ⟨g, 0, none⟩ = some a0 ∧ w.frozen? ⟨g, 0, none⟩ = false := ⟨(blk_cell h 0).trans rfl, blk_frozen h 0⟩
theorem blkC2 {w : World} {g t : Nat} {a0 a1 : Value} (h : w.heap[g]? = some (.cells #[a0, a1] t (0, 0))) : w.cell? ⟨g, 0, none⟩ = some a0 ∧ w.cell? ⟨g, 1, none⟩ = some a1 ∧ w.frozen? ⟨g, 0, none⟩ = false ∧ w.frozen? ⟨g, 1, none⟩ = false := ⟨(blk_cell h 0).trans rfl, (blk_cell h 1).trans rfl, blk_frozen h 0, blk_frozen h 1⟩
theorem blkC3 {w : World} {g t : Nat} {a0 a1 a2 : Value} (h : w.heap[g]? = some (.cells #[a0, a1, a2] t (0, 0))) : w.cell? ⟨g, 0, none⟩ = some a0 ∧ w.cell? ⟨g, 1, none⟩ = some a1 ∧ w.cell? ⟨g, 2, none⟩ = some a2 ∧ w.frozen? ⟨g, 0, none⟩ = false ∧ w.frozen? ⟨g, 1, none⟩ = false ∧ w.frozen? ⟨g, 2, none⟩ = false := ⟨(blk_cell h 0).trans rfl, (blk_cell h 1).trans rfl, (blk_cell h 2).trans rfl, blk_frozen h 0, blk_frozen h 1, blk_frozen h 2⟩
theorem blkC4 {w : World} {g t : Nat} {a0 a1 a2 a3 : Value} (h : w.heap[g]? = some (.cells #[a0, a1, a2, a3] t (0, 0))) : w.cell? ⟨g, 0, none⟩ = some a0 ∧ w.cell? ⟨g, 1, none⟩ = some a1 ∧ w.cell? ⟨g, 2, none⟩ = some a2 ∧ w.cell? ⟨g, 3, none⟩ = some a3 ∧ w.frozen? ⟨g, 0, none⟩ = false ∧ w.frozen? ⟨g, 1, none⟩ = false ∧ w.frozen? ⟨g, 2, none⟩ = false ∧ w.frozen? ⟨g, 3, none⟩ = false := ⟨(blk_cell h 0).trans rfl, (blk_cell h 1).trans rfl, (blk_cell h 2).trans rfl, (blk_cell h 3).trans rfl, blk_frozen h 0, blk_frozen h 1, blk_frozen h 2, blk_frozen h 3⟩
theorem blkC5 {w : World} {g t : Nat} {a0 a1 a2 a3 a4 : Value} (h : w.heap[g]? = some (.cells #[a0, a1, a2, a3, a4] t (0, 0))) : w.cell? ⟨g, 0, none⟩ = some a0 ∧ w.cell? ⟨g, 1, none⟩ = some a1 ∧ w.cell? ⟨g, 2, none⟩ = some a2 ∧ w.cell? ⟨g, 3, none⟩ = some a3 ∧ w.cell? ⟨g, 4, none⟩ = some a4 ∧ w.frozen? ⟨g, 0, none⟩ = false ∧ w.frozen? ⟨g, 1, none⟩ = false ∧ w.frozen? ⟨g, 2, none⟩ = false ∧ w.frozen? ⟨g, 3, none⟩ = false ∧ w.frozen? ⟨g, 4, none⟩ = false := ⟨(blk_cell h 0).trans rfl, (blk_cell h 1).trans rfl, (blk_cell h 2).trans rfl, (blk_cell h 3).trans rfl, (blk_cell h 4).trans rfl, blk_frozen h 0, blk_frozen h 1, blk_frozen h 2, blk_frozen h 3, blk_frozen h 4⟩
theorem blkC6 {w : World} {g t : Nat} {a0 a1 a2 a3 a4 a5 : Value} (h : w.heap[g]? = some (.cells #[a0, a1, a2, a3, a4, a5] t (0, 0))) : w.cell? ⟨g, 0, none⟩ = some a0 ∧ w.cell? ⟨g, 1, none⟩ = some a1 ∧ w.cell? ⟨g, 2, none⟩ = some a2 ∧ w.cell? ⟨g, 3, none⟩ = some a3 ∧ w.cell? ⟨g, 4, none⟩ = some a4 ∧ w.cell? ⟨g, 5, none⟩ = some a5 ∧ w.frozen? ⟨g, 0, none⟩ = false ∧ w.frozen? ⟨g, 1, none⟩ = false ∧ w.frozen? ⟨g, 2, none⟩ = false ∧ w.frozen? ⟨g, 3, none⟩ = false ∧ w.frozen? ⟨g, 4, none⟩ = false ∧ w.frozen? ⟨g, 5, none⟩ = false := ⟨(blk_cell h 0).trans rfl, (blk_cell h 1).trans rfl, (blk_cell h 2).trans rfl, (blk_cell h 3).trans rfl, (blk_cell h 4).trans rfl, (blk_cell h 5).trans rfl, blk_frozen h 0, blk_frozen h 1, blk_frozen h 2, blk_frozen h 3, blk_frozen h 4, blk_frozen h 5⟩
theorem blkC9 {w : World} {g t : Nat} {a0 a1 a2 a3 a4 a5 a6 a7 a8 : Value} (h : w.heap[g]? = some (.cells #[a0, a1, a2, a3, a4, a5, a6, a7, a8] t (0, 0))) : w.cell? ⟨g, 0, none⟩ = some a0 ∧ w.cell? ⟨g, 1, none⟩ = some a1 ∧ w.cell? ⟨g, 2, none⟩ = some a2 ∧ w.cell? ⟨g, 3, none⟩ = some a3 ∧ w.cell? ⟨g, 4, none⟩ = some a4 ∧ w.cell? ⟨g, 5, none⟩ = some a5 ∧ w.cell? ⟨g, 6, none⟩ = some a6 ∧ w.cell? ⟨g, 7, none⟩ = some a7 ∧ w.cell? ⟨g, 8, none⟩ = some a8 ∧ w.frozen? ⟨g, 0, none⟩ = false ∧ w.frozen? ⟨g, 1, none⟩ = false ∧ w.frozen? ⟨g, 2, none⟩ = false ∧ w.frozen? ⟨g, 3, none⟩ = false ∧ w.frozen? ⟨g, 4, none⟩ = false ∧ w.frozen? ⟨g, 5, none⟩ = false ∧ w.frozen? ⟨g, 6, none⟩ = false ∧ w.frozen? ⟨g, 7, none⟩ = false ∧ w.frozen? ⟨g, 8, none⟩ = false := ⟨(blk_cell h 0).trans rfl, (blk_cell h 1).trans rfl, (blk_cell h 2).trans rfl, (blk_cell h 3).trans rfl, (blk_cell h 4).trans rfl, (blk_cell h 5).trans rfl, (blk_cell h 6).trans rfl, (blk_cell h 7).trans rfl, (blk_cell h 8).trans rfl, blk_frozen h 0, blk_frozen h 1, blk_frozen h 2, blk_frozen h 3, blk_frozen h 4, blk_frozen h 5, blk_frozen h 6, blk_frozen h 7, blk_frozen h 8⟩
theorem up2 {A0 A1 G : Prop} (a0 : A0) (a1 : A1) (k : A0 → A1 → G) : G := k a0 a1
theorem up3 {A0 A1 A2 G : Prop} (a0 : A0) (a1 : A1) (a2 : A2) (k : A0 → A1 → A2 → G) : G := k a0 a1 a2
theorem up4 {A0 A1 A2 A3 G : Prop} (a0 : A0) (a1 : A1) (a2 : A2) (a3 : A3) (k : A0 → A1 → A2 → A3 → G) : G := k a0 a1 a2 a3
theorem up5 {A0 A1 A2 A3 A4 G : Prop} (a0 : A0) (a1 : A1) (a2 : A2) (a3 : A3) (a4 : A4) (k : A0 → A1 → A2 → A3 → A4 → G) : G := k a0 a1 a2 a3 a4
theorem up6 {A0 A1 A2 A3 A4 A5 G : Prop} (a0 : A0) (a1 : A1) (a2 : A2) (a3 : A3) (a4 : A4) (a5 : A5) (k : A0 → A1 → A2 → A3 → A4 → A5 → G) : G := k a0 a1 a2 a3 a4 a5
theorem up7 {A0 A1 A2 A3 A4 A5 A6 G : Prop} (a0 : A0) (a1 : A1) (a2 : A2) (a3 : A3) (a4 : A4) (a5 : A5) (a6 : A6) (k : A0 → A1 → A2 → A3 → A4 → A5 → A6 → G) : G := k a0 a1 a2 a3 a4 a5 a6
theorem up8 {A0 A1 A2 A3 A4 A5 A6 A7 G : Prop} (a0 : A0) (a1 : A1) (a2 : A2) (a3 : A3) (a4 : A4) (a5 : A5) (a6 : A6) (a7 : A7) (k : A0 → A1 → A2 → A3 → A4 → A5 → A6 → A7 → G) : G := k a0 a1 a2 a3 a4 a5 a6 a7
theorem up9 {A0 A1 A2 A3 A4 A5 A6 A7 A8 G : Prop} (a0 : A0) (a1 : A1) (a2 : A2) (a3 : A3) (a4 : A4) (a5 : A5) (a6 : A6) (a7 : A7) (a8 : A8) (k : A0 → A1 → A2 → A3 → A4 → A5 → A6 → A7 → A8 → G) : G := k a0 a1 a2 a3 a4 a5 a6 a7 a8
theorem up10 {A0 A1 A2 A3 A4 A5 A6 A7 A8 A9 G : Prop} (a0 : A0) (a1 : A1) (a2 : A2) (a3 : A3) (a4 : A4) (a5 : A5) (a6 : A6) (a7 : A7) (a8 : A8) (a9 : A9) (k : A0 → A1 → A2 → A3 → A4 → A5 → A6 → A7 → A8 → A9 → G) : G := k a0 a1 a2 a3 a4 a5 a6 a7 a8 a9
theorem up11 {A0 A1 A2 A3 A4 A5 A6 A7 A8 A9 A10 G : Prop} (a0 : A0) (a1 : A1) (a2 : A2) (a3 : A3) (a4 : A4) (a5 : A5) (a6 : A6) (a7 : A7) (a8 : A8) (a9 : A9) (a10 : A10) (k : A0 → A1 → A2 → A3 → A4 → A5 → A6 → A7 → A8 → A9 → A10 → G) : G := k a0 a1 a2 a3 a4 a5 a6 a7 a8 a9 a10
theorem up12 {A0 A1 A2 A3 A4 A5 A6 A7 A8 A9 A10 A11 G : Prop} (a0 : A0) (a1 : A1) (a2 : A2) (a3 : A3) (a4 : A4) (a5 : A5) (a6 : A6) (a7 : A7) (a8 : A8) (a9 : A9) (a10 : A10) (a11 : A11) (k : A0 → A1 → A2 → A3 → A4 → A5 → A6 → A7 → A8 → A9 → A10 → A11 → G) : G := k a0 a1 a2 a3 a4 a5 a6 a7 a8 a9 a10 a11
theorem up13 {A0 A1 A2 A3 A4 A5 A6 A7 A8 A9 A10 A11 A12 G : Prop} (a0 : A0) (a1 : A1) (a2 : A2) (a3 : A3) (a4 : A4) (a5 : A5) (a6 : A6) (a7 : A7) (a8 : A8) (a9 : A9) (a10 : A10) (a11 : A11) (a12 : A12) (k : A0 → A1 → A2 → A3 → A4 → A5 → A6 → A7 → A8 → A9 → A10 → A11 → A12 → G) : G := k a0 a1 a2 a3 a4 a5 a6 a7 a8 a9 a10 a11 a12
theorem up14 {A0 A1 A2 A3 A4 A5 A6 A7 A8 A9 A10 A11 A12 A13 G : Prop} (a0 : A0) (a1 : A1) (a2 : A2) (a3 : A3) (a4 : A4) (a5 : A5) (a6 : A6) (a7 : A7) (a8 : A8) (a9 : A9) (a10 : A10) (a11 : A11) (a12 : A12) (a13 : A13) (k : A0 → A1 → A2 → A3 → A4 → A5 → A6 → A7 → A8 → A9 → A10 → A11 → A12 → A13 → G) : G := k a0 a1 a2 a3 a4 a5 a6 a7 a8 a9 a10 a11 a12 a13
theorem up16 {A0 A1 A2 A3 A4 A5 A6 A7 A8 A9 A10 A11 A12 A13 A14 A15 G : Prop} (a0 : A0) (a1 : A1) (a2 : A2) (a3 : A3) (a4 : A4) (a5 : A5) (a6 : A6) (a7 : A7) (a8 : A8) (a9 : A9) (a10 : A10) (a11 : A11) (a12 : A12) (a13 : A13) (a14 : A14) (a15 : A15) (k : A0 → A1 → A2 → A3 → A4 → A5 → A6 → A7 → A8 → A9 → A10 → A11 → A12 → A13 → A14 → A15 → G) : G := k a0 a1 a2 a3 a4 a5 a6 a7 a8 a9 a10 a11 a12 a13 a14 a15
theorem up17 {A0 A1 A2 A3 A4 A5 A6 A7 A8 A9 A10 A11 A12 A13 A14 A15 A16 G : Prop} (a0 : A0) (a1 : A1) (a2 : A2) (a3 : A3) (a4 : A4) (a5 : A5) (a6 : A6) (a7 : A7) (a8 : A8) (a9 : A9) (a10 : A10) (a11 : A11) (a12 : A12) (a13 : A13) (a14 : A14) (a15 : A15) (a16 : A16) (k : A0 → A1 → A2 → A3 → A4 → A5 → A6 → A7 → A8 → A9 → A10 → A11 → A12 → A13 → A14 → A15 → A16 → G) : G := k a0 a1 a2 a3 a4 a5 a6 a7 a8 a9 a10 a11 a12 a13 a14 a15 a16
theorem up18 {A0 A1 A2 A3 A4 A5 A6 A7 A8 A9 A10 A11 A12 A13 A14 A15 A16 A17 G : Prop} (a0 : A0) (a1 : A1) (a2 : A2) (a3 : A3) (a4 : A4) (a5 : A5) (a6 : A6) (a7 : A7) (a8 : A8) (a9 : A9) (a10 : A10) (a11 : A11) (a12 : A12) (a13 : A13) (a14 : A14) (a15 : A15) (a16 : A16) (a17 : A17) (k : A0 → A1 → A2 → A3 → A4 → A5 → A6 → A7 → A8 → A9 → A10 → A11 → A12 → A13 → A14 → A15 → A16 → A17 → G) : G := k a0 a1 a2 a3 a4 a5 a6 a7 a8 a9 a10 a11 a12 a13 a14 a15 a16 a17
theorem up21 {A0 A1 A2 A3 A4 A5 A6 A7 A8 A9 A10 A11 A12 A13 A14 A15 A16 A17 A18 A19 A20 G : Prop} (a0 : A0) (a1 : A1) (a2 : A2) (a3 : A3) (a4 : A4) (a5 : A5) (a6 : A6) (a7 : A7) (a8 : A8) (a9 : A9) (a10 : A10) (a11 : A11) (a12 : A12) (a13 : A13) (a14 : A14) (a15 : A15) (a16 : A16) (a17 : A17) (a18 : A18) (a19 : A19) (a20 : A20) (k : A0 → A1 → A2 → A3 → A4 → A5 → A6 → A7 → A8 → A9 → A10 → A11 → A12 → A13 → A14 → A15 → A16 → A17 → A18 → A19 → A20 → G) : G := k a0 a1 a2 a3 a4 a5 a6 a7 a8 a9 a10 a11 a12 a13 a14 a15 a16 a17 a18 a19 a20
theorem up24 {A0 A1 A2 A3 A4 A5 A6 A7 A8 A9 A10 A11 A12 A13 A14 A15 A16 A17 A18 A19 A20 A21 A22 A23 G : Prop} (a0 : A0) (a1 : A1) (a2 : A2) (a3 : A3) (a4 : A4) (a5 : A5) (a6 : A6) (a7 : A7) (a8 : A8) (a9 : A9) (a10 : A10) (a11 : A11) (a12 : A12) (a13 : A13) (a14 : A14) (a15 : A15) (a16 : A16) (a17 : A17) (a18 : A18) (a19 : A19) (a20 : A20) (a21 : A21) (a22 : A22) (a23 : A23) (k : A0 → A1 → A2 → A3 → A4 → A5 → A6 → A7 → A8 → A9 → A10 → A11 → A12 → A13 → A14 → A15 → A16 → A17 → A18 → A19 → A20 → A21 → A22 → A23 → G) : G := k a0 a1 a2 a3 a4 a5 a6 a7 a8 a9 a10 a11 a12 a13 a14 a15 a16 a17 a18 a19 a20 a21 a22 a23
theorem am {p : Prop} (h : p) : Aside0 p := ⟨h⟩
theorem blk_putL {w : World} {g : Nat} {t : TypeId} {l l' : List Value} (h : w.heap[g]? = some (.cells l.toArray t (0, 0))) (i : Nat) (u : Value) (e : l.set i u = l') : (w.setCell ⟨g, i, none⟩ u).heap[g]? = some (.cells l'.toArray t (0, 0)) := blk_put h i u (by rw [List.setIfInBounds_toArray, e])
theorem qP {A B : Prop} (h : Aside0 A) (k : A → B := by intro h0; (repeat (with_reducible first | exact h0 | refine blk_drewN ?_ _ | refine blk_drew ?_ | refine blk_alloc ?_ _ | apply blk_putL | refine blk_far ?_ (Aside0.out (by assumption)) _)); all_goals rfl) : B := k h.out
theorem lt_far {w : World} {g : Nat} (h : g < w.heap.size) (p : Addr) (v : Value) : g < (w.setCell p v).heap.size := by rw [World.size_setCell]; exact h
theorem lt_alloc {w : World} {g : Nat} (h : g < w.heap.size) (o : Obj) : g < (w.alloc o).heap.size := by simp; omega
theorem lt_drewN {w : World} {g : Nat} (h : g < w.heap.size) (n : Nat) : g < (w.drewN n).heap.size := h
theorem lt_drew {w : World} {g : Nat} (h : g < w.heap.size) : g < w.drew.heap.size := h
theorem bL {W0 W : World} {g g' : Nat} {o : Obj} (h : Aside0 (W0.heap[g]? = some o)) (hg : g' = W.heap.size) (k : g < W0.heap.size → g < W.heap.size := by intro h0; repeat (with_reducible first | exact h0 | apply lt_far | apply lt_alloc | apply lt_drewN | apply lt_drew)) : Aside0 (g ≠ g') := ⟨by rw [hg]; exact Nat.ne_of_lt (k (blk_lt h.out))⟩
theorem bG {W0 W : World} {g g' : Nat} {o : Obj} (h : Aside0 (W0.heap[g]? = some o)) (hg : g' = W.heap.size) (k : g < W0.heap.size → g < W.heap.size := by intro h0; repeat (with_reducible first | exact h0 | apply lt_far | apply lt_alloc | apply lt_drewN | apply lt_drew)) : Aside0 (g' ≠ g) := ⟨by rw [hg]; exact Nat.ne_of_gt (k (blk_lt h.out))⟩
theorem bB {W0 W w1 : World} {g : Nat} {o : Obj} (h : Aside0 (W0.heap[g]? = some o)) (hb : Below W.heap.size W w1) (k : W0.heap[g]? = some o → W.heap[g]? = some o := by intro h0; (with_reducible repeat (first | refine blk_drewN ?_ _ | refine blk_drew ?_ | refine blk_alloc ?_ _)); exact h0) : Aside0 (w1.heap[g]? = some o) := ⟨blk_below (k h.out) hb⟩
theorem bP {W0 W w1 : World} {g : Nat} {o0 : Obj} (o : Obj) (h : Aside0 (W0.heap[g]? = some o0)) (hb : Below W.heap.size W w1) (k : W0.heap[g]? = some o0 → W.heap[g]? = some o := by intro h0; (repeat (with_reducible first | exact h0 | refine blk_drewN ?_ _ | refine blk_drew ?_ | refine blk_alloc ?_ _ | apply blk_putL | refine blk_far ?_ (Aside0.out (by assumption)) _)); all_goals rfl) : Aside0 (w1.heap[g]? = some o) := ⟨blk_below (k h.out) hb⟩
theorem bW {w W : World} {g : Nat} (hg : g = W.heap.size) (h : Below w.heap.size w W := by repeat (first | (with_reducible first | exact HB.out | apply below_alloc | apply pw_below_drewN | apply below_drew1 | refine below_set ?_ (Aside0.out (by with_reducible assumption))) | exact HB.out)) : Aside0 (w.heap.size ≤ g) := ⟨by rw [hg]; exact below_size h⟩
theorem bH {w W w2 : World} (hb : Below W.heap.size W w2) (h : Below w.heap.size w W := by repeat (first | (with_reducible first | exact HB.out | apply below_alloc | apply pw_below_drewN | apply below_drew1 | refine below_set ?_ (Aside0.out (by with_reducible assumption))) | exact HB.out)) : Aside0 (Below w.heap.size w w2) := ⟨below_step h hb⟩
theorem eB {w W : World} {n g : Nat} {o : Obj} (hq : w.drewN n = W) (h : Aside0 (w.heap[g]? = some o)) : Aside0 (W.heap[g]? = some o) := ⟨blk_at hq h.out⟩
theorem eH {w0 w W : World} {n : Nat} (hq : w.drewN n = W) (h : Below w0.heap.size w0 w := by exact HB.out) : Aside0 (Below w0.heap.size w0 W) := ⟨below_at hq h⟩
theorem qH {w W : World} {a : Addr} {v : Value} (h : Aside0 (Below w.heap.size w W)) (hx : w.cell? a = some v) : W.cell? a = some v := (h.out.cell (World.block_lt_of_cell? w _ hx)).trans hx
theorem qNe {w W : World} {a : Addr} {v : Value} {b g : Nat} (hx : W.cell? a = some v) (h : Aside0 (w.heap.size ≤ g)) (e : a.block = b := by first | exact add_block _ _ | rfl) (l : a.block < W.heap.size → b < w.heap.size := by intro h; first | rwa [add_block] at h | exact h) : b ≠ g := Nat.ne_of_lt (Nat.lt_of_lt_of_le (l (World.block_lt_of_cell? _ _ hx)) h.out)
theorem qFar {W : World} {a : Addr} (p : Addr) {b : Nat} (h : b ≠ p.block) (u : Value) (e : a.block = b := by first | exact add_block _ _ | rfl) : (W.setCell p u).cell? a = W.cell? a := cell_far (by rw [e]; exact h) u
theorem qC {α : Type} {d : Kd α} {w W W2 : World} {A : Option Addr} {n : Nat} {xs : List α} (h : Aside0 (Kd.C d w A n xs)) (hb : Aside0 (Below w.heap.size w W)) (k : Kd.C d W A n xs → Kd.C d W2 A n xs := by intro h0; repeat (first | (with_reducible first | exact h0 | refine Kd.C_alloc ?_ _ | refine Kd.C_drewN ?_ _ | refine Kd.C_drew ?_) | exact h0)) : Kd.C d W2 A n xs := k (Kd.C_below h.out hb.out)
theorem qCn {α : Type} {d : Kd α} {w W2 : World} {A : Option Addr} {n : Nat} {xs : List α} (h : Aside0 (Kd.C d w A n xs)) (k : Kd.C d w A n xs → Kd.C d W2 A n xs := by intro h0; repeat (first | (with_reducible first | exact h0 | refine Kd.C_alloc ?_ _ | refine Kd.C_drewN ?_ _ | refine Kd.C_drew ?_) | exact h0)) : Kd.C d W2 A n xs := k h.out
theorem qr {A : Prop} (h : A := by first | (go_simp; done) | (go_simp; rfl)) : A := h
def bq (n m : Nat) : Array Bool := ((List.range n).map (fun i => m.testBit i)).toArray
section
variable {P : Program} {ops : Array Oper} {Q : Exit → Act → World → Prop} {md : Region.Mode} {S : World → Prop} {ds : List Nat} {oi : Oper} {v : Value} {fuel : Nat} {l : Array Bool} {a a' : Act} {w : World}
theorem pY {T : Bool × List (List Nat × List Nat)} (i : Nat) (N : Tmp) (l' : Array Bool) (HT : Aside0 (rtab md ops = T)) (h : wpAnyLast P md ops Q S ds fuel l' a' w) (hi : ops[i]? = some oi := by rfl) (hN : oi.dst = some N := by rfl) (hc : anyT T l.toList l'.toList i = true := by kernel_rfl)
    (hQ : ∀ c a w, Q (.panic c) (a.put oi.dst v) w → Q (.panic c) a w := by exact fun _ _ _ h => h) (hw : Region.wanted oi (yielded ops a.tmps) = true := by rfl) (hy : ∀ w', (execOp a.eval oi).run P w' = .ok (.value v) w' := by intro w'; go_simp; with_reducible rfl)
    (ha : a.put (some N) v = a' := by simp only [Act.put, List.setIfInBounds_toArray, List.set_cons_zero, List.set_cons_succ, i64_w, i32_w]; rfl) : wpAnyLast P md ops Q S ds (fuel + 1) l a w := pure_ l' hi hN (any_of HT.out hc) hQ (Or.inl ⟨hw, hy⟩) ha h
theorem pU {T : Bool × List (List Nat × List Nat)} (i : Nat) (N : Tmp) (l' : Array Bool) (HT : Aside0 (rtab md ops = T)) (h : wpAnyLast P md ops Q S ds fuel l' a' w) (hi : ops[i]? = some oi := by rfl) (hN : oi.dst = some N := by rfl) (hc : anyT T l.toList l'.toList i = true := by kernel_rfl)
    (hQ : ∀ c a w, Q (.panic c) (a.put oi.dst undef) w → Q (.panic c) a w := by exact fun _ _ _ h => h) (hw : Region.wanted oi (yielded ops a.tmps) = false := by rfl)
    (ha : a.put (some N) undef = a' := by simp only [Act.put, List.setIfInBounds_toArray, List.set_cons_zero, List.set_cons_succ, i64_w, i32_w]; rfl) : wpAnyLast P md ops Q S ds (fuel + 1) l a w := pure_ l' hi hN (any_of HT.out hc) hQ (Or.inr ⟨hw, rfl⟩) ha h
theorem tY {T : Bool × List (List Nat × List Nat)} {B : List Nat} (i : Nat) (N : Tmp) (l' : Array Bool) (HT : Aside0 (rtab md ops = T)) (HW : Aside0 (waitsOk T.2 B = true)) (hS : S w) (h : wpAnyLast P md ops Q S ds fuel l' a' w) (hi : ops[i]? = some oi := by rfl) (hN : oi.dst = some N := by rfl) (hc : takeW T B ds l.toList l'.toList i = true := by kernel_rfl)
    (hQ : ∀ c a w, Q (.panic c) (a.put oi.dst v) w → Q (.panic c) a w := by exact fun _ _ _ h => h) (hw : Region.wanted oi (yielded ops a.tmps) = true := by rfl) (hy : ∀ w', S w' → (execOp a.eval oi).run P w' = .ok (.value v) w' := by intro w' hs; (try dsimp only at hs); go_simp; with_reducible rfl)
    (ha : a.put (some N) v = a' := by simp only [Act.put, List.setIfInBounds_toArray, List.set_cons_zero, List.set_cons_succ, i64_w, i32_w]; rfl) : wpAnyLast P md ops Q S ds (fuel + 1) l a w := take_ l' hi hN (take_ofW HT.out HW.out hc) hQ (Or.inl ⟨hw, hy⟩) hS ha h
end
theorem qFw {w0 W : World} {a : Addr} {v : Value} {b g : Nat} (ne : b ≠ g) (h : w0.cell? a = some v) (e : a.block = b := by first | rfl | exact add_block _ _ | (show (Addr.add _ _).block = _; exact add_block _ _)) (k : (∀ (W1 : World) (j : Nat) (u : Value), (W1.setCell ⟨g, j, none⟩ u).cell? a = W1.cell? a) → W.cell? a = w0.cell? a := by intro h; simp only [h]) : W.cell? a = some v := (k (fun _ _ _ => cell_far (by rw [e]; exact ne) _)).trans h
theorem gate_draws {P : Program} {id : Nat} {ops : Array Oper} {Q : Exit → Act → World → Prop} {a : Act} {w : World} (h : (Code.region id ops true).wp P Q a w) : (Code.region id ops true).wp P Q a w := h
inductive FarC (g : Nat) (w : World) : World → Prop
 | refl : FarC g w w
 | set {W : World} (j : Nat) (u : Value) : FarC g w W → FarC g w (W.setCell ⟨g, j, none⟩ u)
theorem qRf {α : Type} {d : Kd α} {e g base : Nat} {w W : World} {ok : Nat → Prop} {v : Value} {xs : List α} (h : d.R e w base (fun k => ok k ∧ k ≠ g) v xs) (c : FarC g w W := by repeat (first | exact FarC.refl | refine FarC.set _ _ ?_)) : d.R e W base (fun _ => True) v xs := Kd.R_mono (ok := fun k => ok k ∧ k ≠ g) (by induction c with | refl => exact h | set j u _ ih => exact Kd.R_far (p := ⟨g, j, none⟩) ih (fun _ hk => hk.2) u) (fun _ _ => trivial)
theorem qSf {α : Type} {d : Kd α} {e g base : Nat} {w W : World} {ok : Nat → Prop} {v : Value} {xs : List α} (h : Kd.S d e w base (fun k => ok k ∧ k ≠ g) v xs) (c : FarC g w W := by repeat (first | exact FarC.refl | refine FarC.set _ _ ?_)) : Kd.S d e W base (fun _ => True) v xs := Kd.S_mono (ok := fun k => ok k ∧ k ≠ g) (by induction c with | refl => exact h | set j u _ ih => exact Kd.S_far (p := ⟨g, j, none⟩) ih (fun _ hk => hk.2) u) (fun _ _ => trivial)
end Go.Proofs.Ytdedefemggkobaa.PThread
