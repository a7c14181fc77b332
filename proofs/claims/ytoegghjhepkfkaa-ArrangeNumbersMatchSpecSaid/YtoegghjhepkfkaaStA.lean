/- Walks of Go's stable sort at ints, with whatever comparison: the exchange of two rows, and the rotation. No condition. -/
import Derived.Test.YtoegghjhepkfkaaProg
import Derived.Test.YtoegghjhepkfkaaSrt
import Derived.Shelf.SlSortCmp.Insertion
namespace Go.Proofs.Ytoegghjhepkfkaa.Srt
open Go.Shelf Go.RowKit Go.Lib Go.Sort Go.Proofs
variable {α : Type} [Inhabited α]

/-- what a sort over a row is given: the row in the world w holds d0; a comparison by a function value that only reads -/
structure Env (g : Nat) (cb : Array Value) (enc : α → Value) (cf : α → α → Int) (w : World) (blk off : Nat) (d0 : Array α) : Prop where
  one : OneCell enc
  eg : ∀ args w, (callFunc g args).run Try.prog w = .ok (.enter g args) w
  holds : Holds enc w blk off d0
  size : d0.size < 4611686018427387904
  cmp : 0 < d0.size → ∀ dk : Array α, dk.size = d0.size → ∀ (m : Nat) (x y : α), Calls Try.prog g (#[enc x, enc y] ++ cb) ((putRow enc w blk off dk).drewN m) fun e w' => e = .returned (.int .i64 (cf x y)) ∧ ∃ q, w' = ((putRow enc w blk off dk).drewN m).drewN q

set_option maxHeartbeats 4000000 in
set_option maxRecDepth 1000000 in
theorem swapRange {g : Nat} {cb : Array Value} {enc : α → Value} {cf : α → α → Int} {w : World} {blk off : Nat} {d0 : Array α} (E : Env g cb enc cf w blk off d0) (cap a b n m : Nat) (dk : Array α) (fv : Value)
    (hs : dk.size = d0.size) (hab : a + n ≤ b) (hb : b + n ≤ d0.size) :
    Calls Try.prog 56 #[.slice (some ⟨blk, off, none⟩) d0.size cap, .int .i64 a, .int .i64 b, .int .i64 n, fv] ((putRow enc w blk off dk).drewN m) fun e w' =>
      e = .returned (.tuple #[]) ∧ ∃ m', w' = (putRow enc w blk off (swR a b n dk)).drewN m' := by
  have hcl0 := E.one.cells
  simp only [Value.cells] at hcl0
  have hst := E.one.store Try.prog
  have hsz := E.size
  have HH : Hid (Holds enc w blk off d0) := E.holds
  clear E
  go_enter Try.func56, Try.ntmps56
  go_wp2
  go_loopg [10] n (fun gg vi wr => ∃ (i m' : Nat), vi = .int .i64 i ∧ i ≤ n ∧ n - i ≤ gg ∧ wr = (putRow enc w blk off (swR a b i dk)).drewN m')
  case atStart => exact ⟨0, m, by go_num, by omega, by omega, rfl⟩
  case round =>
    obtain ⟨i, m', rfl, hin, hg, rfl⟩ := hrel
    by_cases hlt : i < n
    · have hltz : (i : Int) < (n : Int) := by omega
      have hsj : (swR a b i dk).size = d0.size := by rw [swR_size]; exact hs
      have hHj := holds_putRow enc w blk off d0 (swR a b i dk) HH.out hsj
      obtain ⟨ai, hai⟩ : ∃ ai, ai = a + i := ⟨_, rfl⟩
      obtain ⟨bi, hbi⟩ : ∃ bi, bi = b + i := ⟨_, rfl⟩
      obtain ⟨xa, hxa⟩ : ∃ x, (swR a b i dk)[ai]! = x := ⟨_, rfl⟩
      obtain ⟨xb, hxb⟩ : ∃ x, (swR a b i dk)[bi]! = x := ⟨_, rfl⟩
      obtain ⟨ca, fa⟩ := hHj ai (by omega)
      obtain ⟨cb, fb⟩ := hHj bi (by omega)
      rw [hxa] at ca
      rw [hxb] at cb
      have ca' : ((putRow enc w blk off (swR a b i dk)).drewN m').cell? ⟨blk, off + ai, none⟩ = some (enc xa) := ca
      have cb' : ((putRow enc w blk off (swR a b i dk)).drewN m').cell? ⟨blk, off + bi, none⟩ = some (enc xb) := cb
      have fa' : ((putRow enc w blk off (swR a b i dk)).drewN m').frozen? ⟨blk, off + ai, none⟩ = false := fa
      have fb' : ((putRow enc w blk off (swR a b i dk)).drewN m').frozen? ⟨blk, off + bi, none⟩ = false := fb
      clear ca cb fa fb hHj
      have wa : IntKind.i64.wrap ((a : Int) + (i : Int)) = (ai : Int) := by rw [IntKind.wrap_i64]; omega
      have wb : IntKind.i64.wrap ((b : Int) + (i : Int)) = (bi : Int) := by rw [IntKind.wrap_i64]; omega
      have ea : (a : Int) + (i : Int) = (ai : Int) := by omega
      have eb : (b : Int) + (i : Int) = (bi : Int) := by omega
      have az : (ai : Int) < (d0.size : Int) := by omega
      have bz : (bi : Int) < (d0.size : Int) := by omega
      have AI : Hid (ai = a + i) := hai
      have BI : Hid (bi = b + i) := hbi
      obtain ⟨wq, hwq⟩ : ∃ wq, wq = (putRow enc w blk off (swR a b i dk)).drewN m' := ⟨_, rfl⟩
      rw [← hwq] at ca' cb' fa' fb' ⊢
      have HW : Hid (wq = (putRow enc w blk off (swR a b i dk)).drewN m') := hwq
      clear hwq hai hbi
      go_wp2_with fail
      go_region
      all_goals go_wp2
      go_roundg (n - (i + 1))
      case measure => omega
      case rel =>
        refine ⟨i + 1, m' + 1, by go_num, by omega, Nat.le_refl _, ?_⟩
        rw [HW.out, ← hxa, ← hxb, AI.out, BI.out]
        exact swap_worldC enc w blk off (swR a b i dk) m' (a + i) (b + i) (by omega) (by omega)
    · have hltz : ¬ (i : Int) < (n : Int) := by omega
      have : i = n := by omega
      subst this
      go_wp2
      go_end0
      exact ⟨rfl, m', rfl⟩

set_option maxHeartbeats 4000000 in
set_option maxRecDepth 1000000 in
theorem rotate {g : Nat} {cb : Array Value} {enc : α → Value} {cf : α → α → Int} {w : World} {blk off : Nat} {d0 : Array α} (E : Env g cb enc cf w blk off d0) (cap a m b q : Nat) (dk : Array α) (fv : Value)
    (hs : dk.size = d0.size) (ham : a < m) (hmb : m < b) (hb : b ≤ d0.size) :
    Calls Try.prog 44 #[.slice (some ⟨blk, off, none⟩) d0.size cap, .int .i64 a, .int .i64 m, .int .i64 b, fv] ((putRow enc w blk off dk).drewN q) fun e w' =>
      e = .returned (.tuple #[]) ∧ ∃ q' d', w' = (putRow enc w blk off d').drewN q' ∧ Rot dk a m b d' ∧ PermIn a b dk d' := by
  have hsz := E.size
  have EE : Aside (Env g cb enc cf w blk off d0) := E
  clear E
  have ia : (m : Int) - (a : Int) = ((m - a : Nat) : Int) := by omega
  have ib : (b : Int) - (m : Int) = ((b - m : Nat) : Int) := by omega
  go_enter Try.func44, Try.ntmps44
  go_wp2
  go_loopg [10, 11] (m - a + (b - m)) (fun gg vi vj wr => ∃ (i j q' : Nat) (dj : Array α), vi = .int .i64 i ∧ vj = .int .i64 j ∧ 0 < i ∧ 0 < j ∧ i ≤ m - a ∧ j ≤ b - m ∧ i + j ≤ gg ∧ dj.size = d0.size ∧ wr = (putRow enc w blk off dj).drewN q' ∧
    Hid (∀ d', Rot dj (m - i) m (m + j) d' → Rot dk a m b d') ∧ Hid (PermIn a b dk dj))
  case atStart => exact ⟨m - a, b - m, q, dk, rfl, rfl, by omega, by omega, Nat.le_refl _, Nat.le_refl _, Nat.le_refl _, hs, rfl, fun d' h => by rwa [show m - (m - a) = a by omega, show m + (b - m) = b by omega] at h, permIn_refl _ _ _⟩
  case round =>
    obtain ⟨i, j, q', dj, rfl, rfl, hi0, hj0, hi, hj, hg, hsj, rfl, HR, HP⟩ := hrel
    clear ia ib
    obtain ⟨mi, hmi⟩ : ∃ mi, mi = m - i := ⟨_, rfl⟩
    have e1 : (m : Int) - (i : Int) = (mi : Int) := by omega
    have MI : Hid (mi = m - i) := hmi
    clear hmi
    by_cases hne : i = j
    · subst hne
      have c := swapRange EE.out cap mi m i q' dj fv hsj (by have := MI.out; omega) (by omega)
      go_wp2_with (go_at_call 56; refine c.mono ?_; rintro e w1 ⟨rfl, q1, rfl⟩)
      go_end0
      refine ⟨rfl, q1, _, rfl, ?_, ?_⟩
      · refine HR.out _ ?_
        rw [MI.out]
        exact Rot.last dj m i (by omega) (by omega)
      · exact permIn_trans _ _ _ _ _ HP.out (swR_perm a b mi m dj i (by have := MI.out; omega) (by omega) (by have := MI.out; omega) (by omega) (by omega))
    · have hnez : ¬ (i : Int) = (j : Int) := by omega
      by_cases hlt : j < i
      · have hltz : (j : Int) < (i : Int) := by omega
        have c := swapRange EE.out cap mi m j q' dj fv hsj (by have := MI.out; omega) (by omega)
        have e2 : (i : Int) - (j : Int) = ((i - j : Nat) : Int) := by omega
        go_wp2_with (go_at_call 56; refine c.mono ?_; rintro e w1 ⟨rfl, q1, rfl⟩)
        go_roundg (i - j + j)
        case measure => omega
        case rel =>
          refine ⟨i - j, j, q1, _, rfl, rfl, by omega, hj0, by omega, hj, Nat.le_refl _, by rw [swR_size]; exact hsj, rfl, ?_, ?_⟩
          · intro d' h
            refine HR.out _ ?_
            rw [MI.out] at h
            exact Rot.left dj d' m i j hlt (by omega) (by omega) h
          · exact permIn_trans _ _ _ _ _ HP.out (swR_perm a b mi m dj j (by have := MI.out; omega) (by omega) (by have := MI.out; omega) (by omega) (by omega))
      · have hltz : ¬ (j : Int) < (i : Int) := by omega
        obtain ⟨mj, hmj⟩ : ∃ mj, mj = m + j - i := ⟨_, rfl⟩
        have MJ : Hid (mj = m + j - i) := hmj
        have e3 : (m : Int) + (j : Int) - (i : Int) = (mj : Int) := by omega
        clear hmj
        have c := swapRange EE.out cap mi mj i q' dj fv hsj (by have := MI.out; have := MJ.out; omega) (by have := MJ.out; omega)
        have e2 : (j : Int) - (i : Int) = ((j - i : Nat) : Int) := by omega
        go_wp2_with (go_at_call 56; refine c.mono ?_; rintro e w1 ⟨rfl, q1, rfl⟩)
        go_roundg (i + (j - i))
        case measure => omega
        case rel =>
          refine ⟨i, j - i, q1, _, rfl, rfl, hi0, by omega, hi, by omega, Nat.le_refl _, by rw [swR_size]; exact hsj, rfl, ?_, ?_⟩
          · intro d' h
            refine HR.out _ ?_
            rw [MI.out, MJ.out] at h
            exact Rot.right dj d' m i j (by omega) (by omega) (by omega) h
          · exact permIn_trans _ _ _ _ _ HP.out (swR_perm a b mi mj dj i (by have := MI.out; omega) (by have := MJ.out; omega) (by have := MI.out; omega) (by have := MJ.out; omega) (by omega))
end Go.Proofs.Ytoegghjhepkfkaa.Srt
