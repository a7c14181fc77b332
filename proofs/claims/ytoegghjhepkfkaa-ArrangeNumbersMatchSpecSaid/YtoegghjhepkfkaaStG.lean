/- Go's stable sort on a row of ints that a call has made, holding 0, 1, ..: what the row holds behind it. No condition. -/
import Derived.Test.YtoegghjhepkfkaaStF
import Derived.Test.YtoegghjhepkfkaaWWords
import Derived.Sort.OwnSortedInts
namespace Go.Proofs.Ytoegghjhepkfkaa.Srt
open Go.Shelf Go.RowKit Go.Lib Go.Sort Go.Proofs Go.Proofs.YtoegghjhepkfkaaW.PrintWords

/-! ### rows of ints: as owned cells, and as read -/
theorem reps_ints : ∀ (xs : List Int) (cs : List Value), Reps (fun (x : Int) c => c = [Value.int .i64 x]) 1 xs cs → cs = xs.map (Value.int .i64)
  | xs, cs, h => by
    apply List.ext_getElem?
    intro j
    have h1 := h.1
    rw [Nat.mul_one] at h1
    by_cases hj : j < xs.length
    · have := h.2 j xs[j] (List.getElem?_eq_getElem hj)
      rw [Nat.mul_one] at this
      rw [List.getElem?_map, List.getElem?_eq_getElem hj]
      have e : cs[j]? = ((cs.drop j).take 1)[0]? := by simp
      rw [e, this]; rfl
    · rw [List.getElem?_eq_none (by omega), List.getElem?_eq_none (by simp; omega)]
theorem ints_reps (xs : List Int) : Reps (fun (x : Int) c => c = [Value.int .i64 x]) 1 xs (xs.map (Value.int .i64)) :=
  ⟨by simp, fun j x hx => by
    rw [Nat.mul_one]
    obtain ⟨hj, rfl⟩ := List.getElem?_eq_some_iff.1 hx
    apply List.ext_getElem?
    intro i
    rcases i with _ | i
    · simp [hj]
    · rw [List.getElem?_take_eq_none (by omega)]; rfl⟩
theorem own_of_R {e base : Nat} {W : World} {ok : Nat → Prop} {v : Value} {xs : List Int} (h : Kd.R (Kd.int .i64) e W base ok v xs) : W.ownsRow base e 1 v xs.length (xs.map (Value.int .i64)) := by
  obtain ⟨_, inner, ho, hr⟩ := h
  have := reps_ints xs inner hr
  rw [← this]; exact ho
theorem R_of_own {e base : Nat} {W : World} {v : Value} {xs : List Int} (h : W.ownsRow base e 1 v xs.length (xs.map (Value.int .i64))) : Kd.R (Kd.int .i64) e W base (fun _ => True) v xs :=
  ⟨fun _ _ => trivial, _, h, ints_reps xs⟩

theorem putRow_map {α β : Type} [Inhabited α] [Inhabited β] (f : α → β) (enc : β → Value) (w : World) (blk off : Nat) (d : Array α) : putRow (fun x => enc (f x)) w blk off d = putRow enc w blk off (d.map f) := by
  unfold putRow
  refine mapBlock_congr w blk _ _ fun c _ _ _ => ?_
  apply Array.ext_getElem?
  intro k
  simp only [putCells, Array.getElem?_mapIdx, Array.size_map]
  cases c[k]? with
  | none => rfl
  | some y =>
    simp only [Option.map_some]
    by_cases h : off ≤ k ∧ k < off + d.size
    · rw [if_pos h, if_pos h, getElem!_pos d _ (by omega), getElem!_pos (d.map f) _ (by simp; omega)]; simp
    · rw [if_neg h, if_neg h]

/-! ### the sort of a row of no element -/
set_option maxHeartbeats 2000000 in
theorem insertionNone (p : Option Addr) (cap : Nat) (fv : Value) (w : World) : Calls Try.prog 39 #[.slice p 0 cap, .int .i64 (0 : Nat), .int .i64 (0 : Nat), fv] w fun e w' => e = .returned (.tuple #[]) ∧ w' = w := by
  go_enter Try.func39, Try.ntmps39
  go_wp2
  refine wp_loop_rounds 1 ?_
  rw [rounds_succ]
  go_wp2
  go_end0
  exact ⟨rfl, rfl⟩
set_option maxHeartbeats 2000000 in
theorem stableNone (p : Option Addr) (cap : Nat) (fv : Value) (w : World) : Calls Try.prog 34 #[.slice p 0 cap, .int .i64 (0 : Nat), fv] w fun e w' => e = .returned (.tuple #[]) ∧ w' = w := by
  have c := fun w => insertionNone p cap fv w
  go_enter Try.func34, Try.ntmps34
  go_wp2
  refine wp_loop_rounds 1 ?_
  rw [rounds_succ]
  go_wp2_with (go_at_call 39; refine (c _).mono ?_; rintro e w1 ⟨rfl, rfl⟩)
  refine wp_loop_rounds 1 ?_
  rw [rounds_succ]
  go_wp2
  go_end0
  exact ⟨rfl, rfl⟩
set_option maxHeartbeats 2000000 in
theorem sortNone (p : Option Addr) (cap : Nat) (fv : Value) (w : World) : Calls Try.prog 23 #[.slice p 0 cap, fv] w fun e w' => e = .returned (.tuple #[]) ∧ w' = w := by
  have c := stableNone p cap fv w
  go_enter Try.func23, Try.ntmps23
  go_wp2_with (go_at_call 34; refine c.mono ?_; rintro e w1 ⟨rfl, rfl⟩)
  go_end0
  exact ⟨rfl, rfl⟩

/-! ### the sort of a row that holds 0, 1, .. -/
theorem heap_putRow_other {α : Type} [Inhabited α] (enc : α → Value) (w : World) (blk off : Nat) (d : Array α) (k : Nat) (h : k ≠ blk) : (putRow enc w blk off d).heap[k]? = w.heap[k]? := by
  simp [putRow, mapBlock, Array.getElem?_modify, Ne.symm h]

/-- the order by a key; equal keys by what they are -/
def byKey (key : Nat → Int) (n : Nat) : List Int := ((List.range n).mergeSort fun x y => !decide (key y < key x ∨ key y = key x ∧ y < x)).map fun x : Nat => (x : Int)

theorem sortRange {g : Nat} {cb : Array Value} (n : Nat) (hn : n < 1000000) (key : Nat → Int) (cf : Nat → Nat → Int) (hcf : ∀ x y, cf x y < 0 ↔ key x < key y) (v0 : Value) (W0 : World) (base : Nat)
    (hR : Kd.R (Kd.int .i64) 3 W0 base (fun _ => True) v0 ((List.range n).map fun x : Nat => (x : Int))) (eg : ∀ args w, (callFunc g args).run Try.prog w = .ok (.enter g args) w)
    (hcmp : ∀ W : World, W0.grownBy W v0.ownBlock → ∀ x y, x < n → y < n → Calls Try.prog g (#[.int .i64 x, .int .i64 y] ++ cb) W fun e w' => e = .returned (.int .i64 (cf x y)) ∧ ∃ q, w' = W.drewN q) :
    Calls Try.prog 23 #[v0, .func (.func g) #[] cb] W0 fun e w' => e = .returned (.tuple #[]) ∧ Kd.R (Kd.int .i64) 3 w' base (fun _ => True) v0 (byKey key n) ∧ W0.grownBy w' v0.ownBlock := by
  have hown := own_of_R hR
  simp only [List.length_map, List.length_range] at hown
  rcases hown.2 with ⟨rfl, rfl⟩ | ⟨g0, cap, cur, rfl, hbase, hg0, h1, h2, h3, h4⟩
  · refine (sortNone none 0 _ W0).mono ?_
    rintro e w' ⟨rfl, rfl⟩
    exact ⟨rfl, by simpa [byKey] using hR, World.grownBy.refl _ _⟩
  · have hlt : g0 < W0.heap.size := (Array.getElem?_eq_some_iff.1 hg0).1
    let α := Fin (n - 1 + 1)
    let enc : α → Value := fun x => Value.int .i64 ((x.val : Nat) : Int)
    let d0 : Array α := Array.ofFn (n := n) fun i => ⟨i.val, by have := i.isLt; omega⟩
    have hd0 : d0.size = n := by simp [d0]
    have hget : ∀ k, k < n → (d0[k]!).val = k := fun k hk => by
      rw [getElem!_pos d0 k (by omega)]; simp [d0]
    have hH0 : Holds (Value.int .i64) W0 g0 0 ((List.range n).map fun x : Nat => (x : Int)).toArray := holds_of_blockI hg0 (by simpa using h4)
    have hH : Holds enc W0 g0 0 d0 := fun j hj => by
      have := hH0 j (by simp; omega)
      rw [getElem!_pos _ j (by simp; omega)] at this
      simp only [List.getElem_toArray, List.getElem_map, List.getElem_range] at this
      refine ⟨?_, this.2⟩
      rw [this.1]
      show _ = some (Value.int .i64 (((d0[j]!).val : Nat) : Int))
      rw [hget j (by omega)]
    have E : Env g cb enc (fun x y => cf x.val y.val) W0 g0 0 d0 := by
      refine ⟨fun _ => rfl, eg, hH, by omega, fun h0 dk hdk m x y => ?_⟩
      have hx : x.val < n := by have := x.isLt; omega
      have hy : y.val < n := by have := y.isLt; omega
      refine hcmp ((putRow enc W0 g0 0 dk).drewN m) ⟨rfl, rfl, rfl, ?_, fun k hk hne => ?_⟩ x.val y.val hx hy
      · show W0.heap.size ≤ (putRow enc W0 g0 0 dk).heap.size
        rw [Go.Sort.size_putRow]; exact Nat.le_refl _
      · exact heap_putRow_other enc W0 g0 0 dk k (fun e => hne (by rw [e]; rfl))
    have c := sortStable E (fun x => key x.val) (fun x => x.val) (fun x y => decide_eq_decide.2 (hcf x.val y.val)) (fun k hk => hget k (by omega)) (by omega) cap
    rw [hd0] at c
    refine c.mono ?_
    rintro e w' ⟨rfl, q, d', rfl, hs, hp⟩
    have hsz : d'.size = n := hp.1.trans hd0
    have huniq := sorted_unique_holds (full_swo (fun x : α => key x.val) (fun x => x.val)) (fun x y a b => by
      simp only [full, decide_eq_false_iff_not] at a b
      apply Fin.ext; omega) d0 d' (by rw [hd0]; exact hp) (by rw [hd0]; exact hs)
    have hlist : (d'.map fun x => ((x.val : Nat) : Int)).toList = byKey key n := by
      have e : d0.toList.map (fun x : α => x.val) = List.range n := by
        apply List.ext_getElem (by simp [hd0])
        intro k h1 h2
        simp [d0]
      have m := List.map_mergeSort (r := fun x y : α => !full (fun x : α => key x.val) (fun x => x.val) y x) (s := fun x y : Nat => !decide (key y < key x ∨ key y = key x ∧ y < x)) (f := fun x : α => x.val) (l := d0.toList) (fun x _ y _ => rfl)
      rw [e] at m
      rw [Array.toList_map, huniq]
      unfold byKey
      rw [← m, List.map_map]
      rfl
    have hw : (putRow enc W0 g0 0 d').drewN q = grow (putRow (Value.int .i64) (Sort.ahead W0 q) g0 0 (byKey key n).toArray) #[] := by
      rw [grow_empty, ← hlist, Array.toArray_toList]
      show Sort.ahead (putRow enc W0 g0 0 d') q = _
      rw [← putRow_ahead]
      exact putRow_map (fun x : α => ((x.val : Nat) : Int)) (Value.int .i64) _ g0 0 d'
    have hlen : (byKey key n).length = ((List.range n).map fun x : Nat => (x : Int)).length := by simp [byKey]
    refine ⟨rfl, ?_, ?_⟩
    · have := ownsRow_sortedI (n := q) (os := #[]) (ts := byKey key n) (base := base) hlen hbase hg0 (by simpa using h1) h2 h3
      rw [← hw] at this
      simp only [List.length_map, List.length_range] at this
      refine R_of_own ?_
      rw [show (byKey key n).length = n by simp [byKey]]
      exact this
    · rw [hw]; exact grownBy_sortedI _
end Go.Proofs.Ytoegghjhepkfkaa.Srt
