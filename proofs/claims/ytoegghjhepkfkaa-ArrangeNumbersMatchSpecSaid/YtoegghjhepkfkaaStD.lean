/- Walks of Go's stable sort at ints, with whatever comparison: the merge where the right row is a single element. No condition. -/
import Derived.Test.YtoegghjhepkfkaaStC
namespace Go.Proofs.Ytoegghjhepkfkaa.Srt
open Go.Shelf Go.RowKit Go.Lib Go.Sort Go.Proofs
variable {α : Type} [Inhabited α]

set_option maxHeartbeats 4000000 in
set_option maxRecDepth 1000000 in
theorem symLast {g : Nat} {cb : Array Value} {enc : α → Value} {cf : α → α → Int} {w : World} {blk off : Nat} {d0 : Array α} (E : Env g cb enc cf w blk off d0) {lt : α → α → Bool} (hS : SWO lt) (cap a m q0 : Nat) (d : Array α)
    (hd : d.size = d0.size) (ham : a + 1 < m) (hb : m < d0.size) (M : Mg lt (ltOf cf) a m (m + 1) d) :
    Calls Try.prog 40 #[.slice (some ⟨blk, off, none⟩) d0.size cap, .int .i64 a, .int .i64 m, .int .i64 (m + 1 : Nat), .func (.func g) #[] cb] ((putRow enc w blk off d).drewN q0) fun e w' =>
      e = .returned (.tuple #[]) ∧ ∃ n d', w' = (putRow enc w blk off d').drewN n ∧ Mgd lt a (m + 1) d d' := by
  have hcl0 := E.one.cells
  simp only [Value.cells] at hcl0
  have hst := E.one.store Try.prog
  have hsz := E.size
  have EE : Aside (Env g cb enc cf w blk off d0) := E
  have MM : Aside (Mg lt (ltOf cf) a m (m + 1) d) := M
  have SS : Aside (SWO lt) := hS
  have eg := E.eg
  clear E M hS
  obtain ⟨b, hbm⟩ : ∃ b, b = m + 1 := ⟨_, rfl⟩
  rw [← hbm]
  have em : ((m : Int) - (a : Int) == 1) = false := beq_false_of_ne (by omega)
  have eb : (b : Int) - (m : Int) = 1 := by omega
  have HM : Hid (b = m + 1) := hbm
  clear hbm
  go_enter Try.func40, Try.ntmps40
  go_wp2
  go_loopg [14, 15] (m - a) (fun gg vi vj wr => ∃ (i j n : Nat), vi = .int .i64 i ∧ vj = .int .i64 j ∧ a ≤ i ∧ i ≤ j ∧ j ≤ m ∧ j - i ≤ gg ∧ wr = (putRow enc w blk off d).drewN n ∧ Hid (i = a ∨ ltOf cf d[m]! d[i - 1]! = false) ∧ Hid (j = m ∨ ltOf cf d[m]! d[j]! = true))
  case atStart => exact ⟨a, m, q0, rfl, rfl, Nat.le_refl _, by omega, Nat.le_refl _, Nat.le_refl _, rfl, Or.inl rfl, Or.inl rfl⟩
  case round =>
    obtain ⟨i, j, n, rfl, rfl, hmi, hij, hjb, hg, rfl, HI, HJ⟩ := hrel
    by_cases hlt : i < j
    · have hltz : (i : Int) < (j : Int) := by omega
      obtain ⟨h, hh⟩ : ∃ h, h = (i + j) / 2 := ⟨_, rfl⟩
      have eh : ((i : Int) + (j : Int)) / 2 = (h : Int) := by omega
      have ih1 : i ≤ h := by omega
      have ih2 : h < j := by omega
      clear hh
      have hHj := holds_putRow enc w blk off d0 d EE.out.holds hd
      obtain ⟨xa, hxa⟩ : ∃ x, d[m]! = x := ⟨_, rfl⟩
      obtain ⟨xh, hxh⟩ : ∃ x, d[h]! = x := ⟨_, rfl⟩
      obtain ⟨ca, fa⟩ := hHj m (by omega)
      obtain ⟨ch, fh⟩ := hHj h (by omega)
      rw [hxa] at ca
      rw [hxh] at ch
      have hc := EE.out.cmp2 (by omega) d hd xa xh n
      have ca' : ((putRow enc w blk off d).drewN n).cell? ⟨blk, off + m, none⟩ = some (enc xa) := ca
      have ch' : ((putRow enc w blk off d).drewN n).cell? ⟨blk, off + h, none⟩ = some (enc xh) := ch
      have az : (m : Int) < (d0.size : Int) := by omega
      have hz : (h : Int) < (d0.size : Int) := by omega
      clear ca ch fa fh hHj
      generalize hwq : (putRow enc w blk off d).drewN n = wq at ca' ch' hc ⊢
      have HW : Hid ((putRow enc w blk off d).drewN n = wq) := hwq
      clear hwq
      by_cases hlv : cf xa xh < 0
      · go_wp2_with fail
        go_quiet (first | (go_at_fn g; refine Calls.quiet_of (hc _)))
        go_wp2
        go_roundg (h - i)
        case measure => omega
        case rel => exact ⟨i, h, n + nq, rfl, rfl, hmi, ih1, by omega, Nat.le_refl _, by rw [← HW.out, World.drewN_drewN], HI, Or.inr (by rw [hxh, hxa]; exact decide_eq_true hlv)⟩
      · go_wp2_with fail
        go_quiet (first | (go_at_fn g; refine Calls.quiet_of (hc _)))
        go_wp2
        all_goals try (exfalso; rename_i h9; simp only [Bool.not_eq_false', decide_eq_true_eq] at h9; omega)
        go_roundg (j - (h + 1))
        case measure => omega
        case rel => exact ⟨h + 1, j, n + nq, by go_num, rfl, by omega, by omega, hjb, Nat.le_refl _, by rw [← HW.out, World.drewN_drewN], Or.inr (by rw [Nat.add_sub_cancel, hxh, hxa]; exact decide_eq_false (by omega)), HJ⟩
    · have hltz : ¬ (i : Int) < (j : Int) := by omega
      obtain rfl : i = j := by omega
      have FIN : Hid (Mgd lt a b d (bdn m (m - i) d)) := by
        have e := HM.out
        subst e
        exact Mg.last SS.out MM.out hmi hjb (by omega) HI.out HJ.out
      clear HI HJ
      go_wp2
      go_loopg [17] (m - i) (fun gg vk wr => ∃ (k t n' : Nat), vk = .int .i64 k ∧ Hid (k = m - t) ∧ i ≤ k ∧ k ≤ m ∧ k - i ≤ gg ∧ wr = (putRow enc w blk off (bdn m t d)).drewN n' ∧ Hid (t = m - k))
      case atStart => exact ⟨m, 0, n, rfl, by show m = m - 0; omega, hjb, Nat.le_refl _, Nat.le_refl _, rfl, by show 0 = m - m; omega⟩
      case round =>
        obtain ⟨k, t, n', rfl, hkt, hik, hkm, hg2, rfl, htk⟩ := hrel
        by_cases hlt : i < k
        · obtain ⟨kp, rfl⟩ : ∃ kp, k = kp + 1 := ⟨k - 1, by omega⟩
          have hltz : (i : Int) < (kp : Int) + 1 := by omega
          have hsj : (bdn m t d).size = d0.size := by rw [bdn_size]; exact hd
          have hHj := holds_putRow enc w blk off d0 (bdn m t d) EE.out.holds hsj
          obtain ⟨bk, hbk⟩ : ∃ bk, bk = kp + 1 := ⟨_, rfl⟩
          obtain ⟨xa, hxa⟩ : ∃ x, (bdn m t d)[kp]! = x := ⟨_, rfl⟩
          obtain ⟨xb, hxb⟩ : ∃ x, (bdn m t d)[bk]! = x := ⟨_, rfl⟩
          obtain ⟨ca, fa⟩ := hHj kp (by omega)
          obtain ⟨cb, fb⟩ := hHj bk (by omega)
          rw [hxa] at ca
          rw [hxb] at cb
          have ca' : ((putRow enc w blk off (bdn m t d)).drewN n').cell? ⟨blk, off + kp, none⟩ = some (enc xa) := ca
          have cb' : ((putRow enc w blk off (bdn m t d)).drewN n').cell? ⟨blk, off + bk, none⟩ = some (enc xb) := cb
          have fa' : ((putRow enc w blk off (bdn m t d)).drewN n').frozen? ⟨blk, off + kp, none⟩ = false := fa
          have fb' : ((putRow enc w blk off (bdn m t d)).drewN n').frozen? ⟨blk, off + bk, none⟩ = false := fb
          clear ca cb fa fb hHj
          have e1 : (kp : Int) + 1 = (bk : Int) := by omega
          have e2 : (bk : Int) - 1 = (kp : Int) := by omega
          have az : (kp : Int) < (d0.size : Int) := by omega
          have bz : (bk : Int) < (d0.size : Int) := by omega
          have BI : Hid (bk = kp + 1) := hbk
          rw [show (((kp + 1 : Nat) : Int)) = (bk : Int) by omega]
          have hltz2 : (i : Int) < (bk : Int) := by omega
          clear hltz
          obtain ⟨wq, hwq⟩ : ∃ wq, wq = (putRow enc w blk off (bdn m t d)).drewN n' := ⟨_, rfl⟩
          rw [← hwq] at ca' cb' fa' fb' ⊢
          have HW : Hid (wq = (putRow enc w blk off (bdn m t d)).drewN n') := hwq
          clear hwq hbk
          go_wp2_with fail
          go_region
          go_wp2
          go_roundg (kp - i)
          case measure => omega
          case rel =>
            have e3 := hkt.out
            have e4 := htk.out
            refine ⟨kp, t + 1, n' + 1, rfl, (by show kp = m - (t + 1); omega), by omega, by omega, Nat.le_refl _, ?_, (by show t + 1 = m - kp; omega)⟩
            rw [HW.out, ← hxa, ← hxb, BI.out]
            have := swap_worldC enc w blk off (bdn m t d) n' (kp + 1) kp (by omega) (by omega)
            rw [this]
            show _ = (putRow enc w blk off (swp (bdn m t d) (m - t) (m - t - 1))).drewN (n' + 1)
            rw [← e3]; rfl
        · have hltz : ¬ (i : Int) < (k : Int) := by omega
          obtain rfl : i = k := by omega
          have e4 := htk.out
          subst e4
          go_wp2
          (try simp only [Exit.inBlock, Exit.then]); refine bodyPost_ret (results_none rfl _ _ _) rfl ?_
          exact ⟨rfl, n', _, rfl, FIN.out⟩
end Go.Proofs.Ytoegghjhepkfkaa.Srt
