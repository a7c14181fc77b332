/- Walks of Go's stable sort at ints, with whatever comparison: the merge where one of the two rows is a single element. No condition. -/
import Derived.Test.YtoegghjhepkfkaaStB
namespace Go.Proofs.Ytoegghjhepkfkaa.Srt
open Go.Shelf Go.RowKit Go.Lib Go.Sort Go.Proofs
variable {α : Type} [Inhabited α]

theorem Env.cmp2 {g : Nat} {cb : Array Value} {enc : α → Value} {cf : α → α → Int} {w : World} {blk off : Nat} {d0 : Array α} (E : Env g cb enc cf w blk off d0) (h0 : 0 < d0.size) (X : Array α) (hX : X.size = d0.size) (x y : α) (m n : Nat) :
    Calls Try.prog g (#[enc x, enc y] ++ cb) (((putRow enc w blk off X).drewN m).drewN n) fun e w' => e = .returned (.int .i64 (cf x y)) ∧ ∃ q, w' = (((putRow enc w blk off X).drewN m).drewN n).drewN q := by
  have := E.cmp h0 X hX (m + n) x y
  rw [← World.drewN_drewN] at this
  exact this

set_option maxHeartbeats 4000000 in
set_option maxRecDepth 1000000 in
theorem symOne {g : Nat} {cb : Array Value} {enc : α → Value} {cf : α → α → Int} {w : World} {blk off : Nat} {d0 : Array α} (E : Env g cb enc cf w blk off d0) {lt : α → α → Bool} (hS : SWO lt) (cap a b q0 : Nat) (d : Array α)
    (hd : d.size = d0.size) (hab : a + 1 < b) (hb : b ≤ d0.size) (M : Mg lt (ltOf cf) a (a + 1) b d) :
    Calls Try.prog 40 #[.slice (some ⟨blk, off, none⟩) d0.size cap, .int .i64 a, .int .i64 (a + 1 : Nat), .int .i64 b, .func (.func g) #[] cb] ((putRow enc w blk off d).drewN q0) fun e w' =>
      e = .returned (.tuple #[]) ∧ ∃ n d', w' = (putRow enc w blk off d').drewN n ∧ Mgd lt a b d d' := by
  have hcl0 := E.one.cells
  simp only [Value.cells] at hcl0
  have hst := E.one.store Try.prog
  have hsz := E.size
  have EE : Aside (Env g cb enc cf w blk off d0) := E
  have MM : Aside (Mg lt (ltOf cf) a (a + 1) b d) := M
  have SS : Aside (SWO lt) := hS
  have eg := E.eg
  clear E M hS
  obtain ⟨m, hm⟩ : ∃ m, m = a + 1 := ⟨_, rfl⟩
  rw [← hm]
  have em : (m : Int) - (a : Int) = 1 := by omega
  have HM : Hid (m = a + 1) := hm
  clear hm
  go_enter Try.func40, Try.ntmps40
  go_wp2
  go_loopg [10, 11] (b - m) (fun gg vi vj wr => ∃ (i j n : Nat), vi = .int .i64 i ∧ vj = .int .i64 j ∧ m ≤ i ∧ i ≤ j ∧ j ≤ b ∧ j - i ≤ gg ∧ wr = (putRow enc w blk off d).drewN n ∧ Hid (i = m ∨ ltOf cf d[i - 1]! d[a]! = true) ∧ Hid (j = b ∨ ltOf cf d[j]! d[a]! = false))
  case atStart => exact ⟨m, b, q0, rfl, rfl, Nat.le_refl _, by have := HM.out; omega, Nat.le_refl _, Nat.le_refl _, rfl, Or.inl rfl, Or.inl rfl⟩
  case round =>
    obtain ⟨i, j, n, rfl, rfl, hmi, hij, hjb, hg, rfl, HI, HJ⟩ := hrel
    by_cases hlt : i < j
    · have hltz : (i : Int) < (j : Int) := by omega
      obtain ⟨h, hh⟩ : ∃ h, h = (i + j) / 2 := ⟨_, rfl⟩
      have eh : ((i : Int) + (j : Int)) / 2 = (h : Int) := by omega
      have ih1 : i ≤ h := by omega
      have ih2 : h < j := by omega
      clear hh
      have am : a < m := by have := HM.out; omega
      have hHj := holds_putRow enc w blk off d0 d EE.out.holds hd
      obtain ⟨xa, hxa⟩ : ∃ x, d[a]! = x := ⟨_, rfl⟩
      obtain ⟨xh, hxh⟩ : ∃ x, d[h]! = x := ⟨_, rfl⟩
      obtain ⟨ca, fa⟩ := hHj a (by omega)
      obtain ⟨ch, fh⟩ := hHj h (by omega)
      rw [hxa] at ca
      rw [hxh] at ch
      have hc := EE.out.cmp2 (by omega) d hd xh xa n
      have ca' : ((putRow enc w blk off d).drewN n).cell? ⟨blk, off + a, none⟩ = some (enc xa) := ca
      have ch' : ((putRow enc w blk off d).drewN n).cell? ⟨blk, off + h, none⟩ = some (enc xh) := ch
      have az : (a : Int) < (d0.size : Int) := by omega
      have hz : (h : Int) < (d0.size : Int) := by omega
      clear ca ch fa fh hHj
      generalize hwq : (putRow enc w blk off d).drewN n = wq at ca' ch' hc ⊢
      have HW : Hid ((putRow enc w blk off d).drewN n = wq) := hwq
      clear hwq
      by_cases hlv : cf xh xa < 0
      · go_wp2_with fail
        go_quiet (first | (go_at_fn g; refine Calls.quiet_of (hc _)))
        go_wp2
        go_roundg (j - (h + 1))
        case measure => omega
        case rel => exact ⟨h + 1, j, n + nq, by go_num, rfl, by omega, by omega, hjb, Nat.le_refl _, by rw [← HW.out, World.drewN_drewN], Or.inr (by rw [Nat.add_sub_cancel, hxh, hxa]; exact decide_eq_true hlv), HJ⟩
      · go_wp2_with fail
        go_quiet (first | (go_at_fn g; refine Calls.quiet_of (hc _)))
        go_wp2
        go_roundg (h - i)
        case measure => omega
        case rel => exact ⟨i, h, n + nq, rfl, rfl, hmi, ih1, by omega, Nat.le_refl _, by rw [← HW.out, World.drewN_drewN], HI, Or.inr (by rw [hxh, hxa]; exact decide_eq_false (by omega))⟩
    · have hltz : ¬ (i : Int) < (j : Int) := by omega
      obtain rfl : i = j := by omega
      have am : a < m := by have := HM.out; omega
      have FIN : Hid (Mgd lt a b d (bup a (i - 1 - a) d)) := by
        have e := HM.out
        subst e
        exact Mg.one SS.out MM.out hmi hjb (by omega) HI.out HJ.out
      clear HI HJ
      obtain ⟨p, hp⟩ : ∃ p, p = i - 1 := ⟨_, rfl⟩
      have ep : (i : Int) - 1 = (p : Int) := by omega
      have pb : p < b := by omega
      have pa : a ≤ p := by omega
      have FIN2 : Hid (Mgd lt a b d (bup a (p - a) d)) := by rw [hp]; exact FIN.out
      clear FIN hp
      go_wp2
      go_loopg [13] (p - a) (fun gg vk wr => ∃ (k n' : Nat), vk = .int .i64 (a + k : Nat) ∧ a + k ≤ p ∧ p - (a + k) ≤ gg ∧ wr = (putRow enc w blk off (bup a k d)).drewN n')
      case atStart => exact ⟨0, n, by simp, by omega, by omega, rfl⟩
      case round =>
        obtain ⟨k, n', rfl, hkp, hg2, rfl⟩ := hrel
        obtain ⟨ak, hak⟩ : ∃ ak, ak = a + k := ⟨_, rfl⟩
        rw [← hak] at hkp hg2 ⊢
        by_cases hlt : ak < p
        · have hltz : (ak : Int) < (p : Int) := by omega
          have hsj : (bup a k d).size = d0.size := by rw [bup_size]; exact hd
          have hHj := holds_putRow enc w blk off d0 (bup a k d) EE.out.holds hsj
          obtain ⟨bk, hbk⟩ : ∃ bk, bk = ak + 1 := ⟨_, rfl⟩
          obtain ⟨xa, hxa⟩ : ∃ x, (bup a k d)[ak]! = x := ⟨_, rfl⟩
          obtain ⟨xb, hxb⟩ : ∃ x, (bup a k d)[bk]! = x := ⟨_, rfl⟩
          obtain ⟨ca, fa⟩ := hHj ak (by omega)
          obtain ⟨cb, fb⟩ := hHj bk (by omega)
          rw [hxa] at ca
          rw [hxb] at cb
          have ca' : ((putRow enc w blk off (bup a k d)).drewN n').cell? ⟨blk, off + ak, none⟩ = some (enc xa) := ca
          have cb' : ((putRow enc w blk off (bup a k d)).drewN n').cell? ⟨blk, off + bk, none⟩ = some (enc xb) := cb
          have fa' : ((putRow enc w blk off (bup a k d)).drewN n').frozen? ⟨blk, off + ak, none⟩ = false := fa
          have fb' : ((putRow enc w blk off (bup a k d)).drewN n').frozen? ⟨blk, off + bk, none⟩ = false := fb
          clear ca cb fa fb hHj
          have eb : (ak : Int) + 1 = (bk : Int) := by omega
          have az : (ak : Int) < (d0.size : Int) := by omega
          have bz : (bk : Int) < (d0.size : Int) := by omega
          have AI : Hid (ak = a + k) := hak
          have BI : Hid (bk = a + k + 1) := by rw [← hak]; exact hbk
          have BP : Hid (bk ≤ p) := by show bk ≤ p; omega
          obtain ⟨wq, hwq⟩ : ∃ wq, wq = (putRow enc w blk off (bup a k d)).drewN n' := ⟨_, rfl⟩
          rw [← hwq] at ca' cb' fa' fb' ⊢
          have HW : Hid (wq = (putRow enc w blk off (bup a k d)).drewN n') := hwq
          clear hwq hak hbk
          go_wp2_with fail
          go_region
          go_wp2
          go_roundg (p - bk)
          case measure => omega
          case rel =>
            refine ⟨k + 1, n' + 1, ?_, by have := BI.out; have := BP.out; omega, by have := BI.out; omega, ?_⟩
            · rw [BI.out]; rfl
            · rw [HW.out, ← hxa, ← hxb, AI.out, BI.out]
              have := AI.out; have := BI.out
              exact swap_worldC enc w blk off (bup a k d) n' (a + k) (a + k + 1) (by omega) (by omega)
        · have hltz : ¬ (ak : Int) < (p : Int) := by omega
          have : k = p - a := by omega
          subst this
          go_wp2
          (try simp only [Exit.inBlock, Exit.then]); refine bodyPost_ret (results_none rfl _ _ _) rfl ?_
          exact ⟨rfl, n', _, rfl, FIN2.out⟩
end Go.Proofs.Ytoegghjhepkfkaa.Srt
