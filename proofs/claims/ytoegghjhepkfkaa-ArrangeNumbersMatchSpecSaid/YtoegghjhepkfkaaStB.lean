/- Walks of Go's stable sort at ints, with whatever comparison: the insertion sort of a block. No condition. -/
import Derived.Test.YtoegghjhepkfkaaStA
namespace Go.Proofs.Ytoegghjhepkfkaa.Srt
open Go.Shelf Go.RowKit Go.Lib Go.Sort Go.Proofs
variable {α : Type} [Inhabited α]
set_option maxHeartbeats 4000000 in
set_option maxRecDepth 1000000 in
theorem insertion {g : Nat} {cb : Array Value} {enc : α → Value} {cf : α → α → Int} {w : World} {blk off : Nat} {d0 : Array α} (E : Env g cb enc cf w blk off d0) (cap a b q0 : Nat) (d : Array α)
    (hd : d.size = d0.size) (hab : a ≤ b) (hb : b ≤ d0.size) :
    Calls Try.prog 39 #[.slice (some ⟨blk, off, none⟩) d0.size cap, .int .i64 a, .int .i64 b, .func (.func g) #[] cb] ((putRow enc w blk off d).drewN q0) fun e w' =>
      e = .returned (.tuple #[]) ∧ ∃ n, w' = (putRow enc w blk off (Sort.insertionSort (ltOf cf) d a b)).drewN n := by
  have hcl0 := E.one.cells
  simp only [Value.cells] at hcl0
  have hst := E.one.store Try.prog
  have hsz := E.size
  -- 'cmp', whatever the row holds, however many draws on
  have hcAt : 0 < d0.size → ∀ (X : Array α) (x y : α), X.size = d0.size → ∀ m n, Calls Try.prog g (#[enc x, enc y] ++ cb) (((putRow enc w blk off X).drewN m).drewN n) fun e w' => e = .returned (.int .i64 (cf x y)) ∧ ∃ q, w' = (((putRow enc w blk off X).drewN m).drewN n).drewN q := fun h0 X x y hX m n => by
    have := E.cmp h0 X hX (m + n) x y
    rw [← World.drewN_drewN] at this
    exact this
  have HC : Aside _ := hcAt
  have HH : Hid (Holds enc w blk off d0) := E.holds
  have eg := E.eg
  clear hcAt E
  go_enter Try.func39, Try.ntmps39
  go_wp2
  go_loopg [8] (b - a) (fun g1 vi wr => ∃ (i n : Nat) (dk : Array α), vi = .int .i64 i ∧ a < i ∧ i ≤ b + 1 ∧ b + 1 - i ≤ g1 + 1 ∧ dk.size = d0.size ∧ wr = (putRow enc w blk off dk).drewN n ∧ Hid (insOuter (ltOf cf) a b i dk = insOuter (ltOf cf) a b (a + 1) d))
  case atStart => exact ⟨a + 1, q0, d, by go_num, by omega, by omega, by omega, hd, rfl, rfl⟩
  case round =>
    obtain ⟨i, n, dk, rfl, hai, hib, hg1, hsk, rfl, HO⟩ := hrel
    by_cases hlt : i < b
    · have hltz : (i : Int) < (b : Int) := by omega
      go_wp2
      -- the inner loop
      go_loopg [9] i (fun g2 vj wr2 => ∃ (j m : Nat) (dj : Array α), vj = .int .i64 j ∧ a ≤ j ∧ j ≤ i ∧ j ≤ g2 ∧ dj.size = d0.size ∧ wr2 = (putRow enc w blk off dj).drewN m ∧ Hid (insInner (ltOf cf) a j dj = insInner (ltOf cf) a i dk))
      case atStart => exact ⟨i, n, dk, rfl, by omega, Nat.le_refl _, Nat.le_refl _, hsk, rfl, rfl⟩
      case round =>
        obtain ⟨j, m, dj, rfl, haj, hji, hg2, hsj, rfl, HI⟩ := hrel
        -- out of the inner loop: dj is what the inner loop makes of dk: the outer round's end
        have out : (j ≤ a ∨ ltOf cf dj[j]! dj[j - 1]! = false) → Hid (insOuter (ltOf cf) a b (i + 1) dj = insOuter (ltOf cf) a b (a + 1) d) := fun hs => by
          show _ = _
          rw [← HO.out, insOuter_go _ _ _ _ _ hlt, ← HI.out, insInner_stop _ _ _ _ hs]
        have OUT : Aside _ := out
        clear out
        by_cases hja : a < j
        · 
          have hjaz : (a : Int) < (j : Int) := by omega
          have hHj := holds_putRow enc w blk off d0 dj HH.out hsj
          obtain ⟨xj, hxj⟩ : ∃ x, dj[j]! = x := ⟨_, rfl⟩
          obtain ⟨xp, hxp⟩ : ∃ x, dj[j - 1]! = x := ⟨_, rfl⟩
          obtain ⟨cj, fj⟩ := hHj j (by omega)
          obtain ⟨cp, fp⟩ := hHj (j - 1) (by omega)
          rw [hxj] at cj
          rw [hxp] at cp
          -- ✋ THE INDEX 'j-1' IS A DIFFERENCE: j is written 'jp + 1': then the walk reckons it to a plain number
          obtain ⟨jp, rfl⟩ : ∃ jp, j = jp + 1 := ⟨j - 1, by omega⟩
          simp only [Nat.add_sub_cancel] at cp fp hxp
          have hwp : IntKind.i64.wrap (jp : Int) = (jp : Int) := by rw [IntKind.wrap_i64]; omega
          have jz : (jp : Int) + 1 < (d0.size : Int) := by omega
          have jz1 : (jp : Int) < (d0.size : Int) := by omega
          have hjaz' : (a : Int) < (jp : Int) + 1 := by omega
          have p0 : (0 : Int) ≤ (jp : Int) + 1 := by omega
          have e0 : ((jp : Int) + 1).toNat = jp + 1 := by omega
          have hc := HC.out (by omega) dj xj xp hsj m
          clear hHj
          -- ✋ THE REGION BEGINS AT A WORLD THAT IS A VARIABLE (WalkB2.lean's second find): else simp merges its draws into the world's own, and the callee's contract no longer finds its base
          have cj' : ((putRow enc w blk off dj).drewN m).cell? ⟨blk, off + (jp + 1), none⟩ = some (enc xj) := cj
          have cp' : ((putRow enc w blk off dj).drewN m).cell? ⟨blk, off + jp, none⟩ = some (enc xp) := cp
          have fj' : ((putRow enc w blk off dj).drewN m).frozen? ⟨blk, off + (jp + 1), none⟩ = false := fj
          have fp' : ((putRow enc w blk off dj).drewN m).frozen? ⟨blk, off + jp, none⟩ = false := fp
          clear cj cp fj fp
          generalize hwq : (putRow enc w blk off dj).drewN m = wq at cj' cp' fj' fp' hc ⊢
          by_cases hlv : cf xj xp < 0
          · -- 'cmp(data[j], data[j-1]) < 0': the exchange, j--
            go_wp2_with fail
            go_quiet (first | (go_at_fn g; refine Calls.quiet_of (hc _)))
            go_wp2_with fail
            have hw2 : wq.drewN nq = (putRow enc w blk off dj).drewN (m + nq) := by rw [← hwq, World.drewN_drewN]
            have cj2 : (wq.drewN nq).cell? ⟨blk, off + (jp + 1), none⟩ = some (enc xj) := cj'
            have cp2 : (wq.drewN nq).cell? ⟨blk, off + jp, none⟩ = some (enc xp) := cp'
            have fj2 : (wq.drewN nq).frozen? ⟨blk, off + (jp + 1), none⟩ = false := fj'
            have fp2 : (wq.drewN nq).frozen? ⟨blk, off + jp, none⟩ = false := fp'
            clear cj' cp' fj' fp' hc
            generalize wq.drewN nq = wq2 at hw2 cj2 cp2 fj2 fp2 ⊢
            -- ✋ THE PLACE 'jp + 1' UNDER A NAME OF ITS OWN: the new walk of a region stood at the load at 'off + (jp + 1)'
            obtain ⟨j1, hj1⟩ : ∃ j1, j1 = jp + 1 := ⟨_, rfl⟩
            rw [← hj1] at cj2 fj2 e0
            have J1 : Hid (j1 = jp + 1) := hj1
            -- ✋ THE WORLD's EQUATION ASIDE: left in the open it is a rule to the walk's simp: 'wq2' is rewritten and the cells' facts find it no more
            have HW2 : Hid (wq2 = (putRow enc w blk off dj).drewN (m + nq)) := hw2
            clear hj1 hw2
            go_region
            all_goals go_wp2
            go_roundg jp
            case measure => omega
            case rel =>
              refine ⟨jp, m + nq + 1, swp dj (jp + 1) jp, by first | rfl | go_num | (congr 1; omega), by omega, by omega, Nat.le_refl _, by rw [size_swp]; exact hsj, ?_, (show Hid _ from ?_)⟩
              · rw [J1.out, HW2.out, ← hxp, ← hxj]
                exact swap_worldC enc w blk off dj (m + nq) (jp + 1) jp (by omega) (by omega)
              · show _ = _
                have := insInner_go (ltOf cf) a (jp + 1) dj hja (by simp only [Nat.add_sub_cancel]; rw [hxj, hxp]; exact decide_eq_true hlv)
                simp only [Nat.add_sub_cancel] at this
                rw [← HI.out, this]
          · -- not less: out of the inner loop
            go_wp2_with fail
            go_quiet (first | (go_at_fn g; refine Calls.quiet_of (hc _)))
            go_wp2
            go_roundg (b - (i + 1))
            case measure => omega
            case rel => exact ⟨i + 1, _, dj, by go_num, by omega, by omega, by omega, hsj, by rw [← hwq, World.drewN_drewN], OUT.out (Or.inr (by simp only [Nat.add_sub_cancel]; rw [hxj, hxp]; exact decide_eq_false (by omega)))⟩
        · -- j = a: out of the inner loop (the guard is false: 'cmp' is not called)
          have hjaz : decide ((j : Int) > (a : Int)) = false := decide_eq_false (by omega)
          have hjaz' : ¬ (a : Int) < (j : Int) := by omega
          generalize hwq : (putRow enc w blk off dj).drewN m = wq
          go_wp2_with fail
          go_region
          all_goals go_wp2
          go_roundg (b - (i + 1))
          case measure => omega
          case rel => exact ⟨i + 1, _, dj, by go_num, by omega, by omega, by omega, hsj, (show _ = (putRow enc w blk off dj).drewN (m + 1) from by first | rfl | (rw [← hwq]; rfl)), OUT.out (Or.inl (by omega))⟩
    · -- the outer loop is at its end
      have hltz : ¬ (i : Int) < (b : Int) := by omega
      go_wp2
      go_end0
      exact ⟨rfl, n, by unfold Sort.insertionSort; rw [← HO.out, insOuter_stop _ _ _ _ _ hlt]⟩

end Go.Proofs.Ytoegghjhepkfkaa.Srt
