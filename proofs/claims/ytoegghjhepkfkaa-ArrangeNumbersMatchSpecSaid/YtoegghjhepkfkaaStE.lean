/- Walks of Go's stable sort at ints, with whatever comparison: the merge of two ascending rows of whatever lengths. No condition. -/
import Derived.Test.YtoegghjhepkfkaaStD
import Derived.Deep.DeepCutAuto
namespace Go.Proofs.Ytoegghjhepkfkaa.Srt
open Go.Shelf Go.RowKit Go.Lib Go.Sort Go.Proofs
variable {α : Type} [Inhabited α]

/-- what the merge says at rows of together at most N elements -/
def SymAt (g : Nat) (cb : Array Value) (enc : α → Value) (cf : α → α → Int) (w : World) (blk off : Nat) (d0 : Array α) (lt : α → α → Bool) (N : Nat) : Prop :=
  ∀ (cap a m b q0 : Nat) (d : Array α), d.size = d0.size → a < m → m < b → b ≤ d0.size → b - a ≤ N → Mg lt (ltOf cf) a m b d →
    Calls Try.prog 40 #[.slice (some ⟨blk, off, none⟩) d0.size cap, .int .i64 a, .int .i64 m, .int .i64 b, .func (.func g) #[] cb] ((putRow enc w blk off d).drewN q0) fun e w' =>
      e = .returned (.tuple #[]) ∧ ∃ n d', w' = (putRow enc w blk off d').drewN n ∧ Mgd lt a b d d'

set_option maxHeartbeats 8000000 in
set_option maxRecDepth 1000000 in
theorem symGreat {g : Nat} {cb : Array Value} {enc : α → Value} {cf : α → α → Int} {w : World} {blk off : Nat} {d0 : Array α} (E : Env g cb enc cf w blk off d0) {lt : α → α → Bool} (hS : SWO lt) (cap a m b q0 : Nat) (d : Array α)
    (hd : d.size = d0.size) (ham : a + 1 < m) (hmb : m + 1 < b) (hb : b ≤ d0.size) (M : Mg lt (ltOf cf) a m b d) (ih : SymAt g cb enc cf w blk off d0 lt (b - a - 1)) :
    Calls Try.prog 40 #[.slice (some ⟨blk, off, none⟩) d0.size cap, .int .i64 a, .int .i64 m, .int .i64 b, .func (.func g) #[] cb] ((putRow enc w blk off d).drewN q0) fun e w' =>
      e = .returned (.tuple #[]) ∧ ∃ n d', w' = (putRow enc w blk off d').drewN n ∧ Mgd lt a b d d' := by
  have hcl0 := E.one.cells
  simp only [Value.cells] at hcl0
  have hst := E.one.store Try.prog
  have hsz := E.size
  have EE : Aside (Env g cb enc cf w blk off d0) := E
  have MM : Aside (Mg lt (ltOf cf) a m b d) := M
  have SS : Aside (SWO lt) := hS
  have IH : Aside (SymAt g cb enc cf w blk off d0 lt (b - a - 1)) := ih
  have eg := E.eg
  clear E M hS ih
  have em : ((m : Int) - (a : Int) == 1) = false := beq_false_of_ne (by omega)
  have eb : ((b : Int) - (m : Int) == 1) = false := beq_false_of_ne (by omega)
  obtain ⟨mid, hmid⟩ : ∃ mid, mid = (a + b) / 2 := ⟨_, rfl⟩
  have emid : ((a : Int) + (b : Int)) / 2 = (mid : Int) := by omega
  have MID : Hid (mid = (a + b) / 2) := hmid
  have mid1 : a < mid := by omega
  have mid2 : mid < b := by omega
  have mid3 : a + b ≤ 2 * mid + 1 := by omega
  have mid4 : 2 * mid ≤ a + b := by omega
  clear hmid
  obtain ⟨n, hn⟩ : ∃ n, n = mid + m := ⟨_, rfl⟩
  have en : (mid : Int) + (m : Int) = (n : Int) := by omega
  obtain ⟨p, hp⟩ : ∃ p, n = p + 1 := ⟨n - 1, by omega⟩
  have epp : (n : Int) - 1 = (p : Int) := by omega
  have hn1 : n ≤ mid + m := by omega
  have hn2 : mid + m ≤ n := by omega
  have hp1 : n ≤ p + 1 := by omega
  have hp2 : p + 1 ≤ n := by omega
  clear hn hp
  go_enter Try.func40, Try.ntmps40
  go_upto_if 140 with fail
  go_cut [20, 21] (fun v20 v21 wc => ∃ lo hi : Nat, v20 = .int .i64 lo ∧ v21 = .int .i64 hi ∧ lo ≤ hi ∧ hi ≤ m ∧ hi ≤ mid ∧ a ≤ lo ∧ n ≤ lo + b ∧ Hid (lo = a ∨ n = lo + b) ∧ Hid (hi = m ∨ hi = mid) ∧ wc = (putRow enc w blk off d).drewN q0)
  case first => as_aux_lemma =>
    by_cases hmm : mid < m
    · have hz : (mid : Int) < (m : Int) := by omega
      have e1 : (n : Int) - (b : Int) = ((n - b : Nat) : Int) := by omega
      go_wp2_with fail
      go_meet
      case rel => exact ⟨n - b, mid, rfl, rfl, by omega, by omega, Nat.le_refl _, by omega, by omega, Or.inr (by omega), Or.inr rfl, rfl⟩
    · have hz : ¬ (mid : Int) < (m : Int) := by omega
      go_wp2_with fail
      go_meet
      case rel => exact ⟨a, m, rfl, rfl, by omega, Nat.le_refl _, by omega, Nat.le_refl _, by omega, Or.inl rfl, Or.inl rfl, rfl⟩
  case rest => as_aux_lemma =>
  obtain ⟨lo, hi, rfl, rfl, hlh, him, himid, hal, hnl, LO, HI, rfl⟩ := hcut
  go_wp2_with fail
  go_loopg [20, 21] (hi - lo) (fun gg vi vj wr => ∃ (i j q : Nat), vi = .int .i64 i ∧ vj = .int .i64 j ∧ lo ≤ i ∧ i ≤ j ∧ j ≤ hi ∧ j - i ≤ gg ∧ wr = (putRow enc w blk off d).drewN q ∧ Hid (i = lo ∨ ltOf cf d[n - i]! d[i - 1]! = false) ∧ Hid (j = hi ∨ ltOf cf d[p - j]! d[j]! = true))
  case atStart => exact ⟨lo, hi, q0, rfl, rfl, Nat.le_refl _, hlh, Nat.le_refl _, Nat.le_refl _, rfl, Or.inl rfl, Or.inl rfl⟩
  case round => as_aux_lemma =>
    obtain ⟨i, j, q, rfl, rfl, hi0, hij, hjh, hg, rfl, HI0, HJ0⟩ := hrel
    by_cases hlt : i < j
    · have hltz : (i : Int) < (j : Int) := by omega
      obtain ⟨c, hc⟩ : ∃ c, c = (i + j) / 2 := ⟨_, rfl⟩
      have ec : ((i : Int) + (j : Int)) / 2 = (c : Int) := by omega
      have ic1 : i ≤ c := by omega
      have ic2 : c < j := by omega
      clear hc
      obtain ⟨pc, hpc⟩ : ∃ pc, p = pc + c := ⟨p - c, by omega⟩
      have epc : (p : Int) - (c : Int) = (pc : Int) := by omega
      have hpc2 : pc < b := by omega
      have hpc3 : p ≤ pc + c := by omega
      have hpc4 : pc + c ≤ p := by omega
      clear hpc
      have hHj := holds_putRow enc w blk off d0 d EE.out.holds hd
      obtain ⟨xa, hxa⟩ : ∃ x, d[pc]! = x := ⟨_, rfl⟩
      obtain ⟨xh, hxh⟩ : ∃ x, d[c]! = x := ⟨_, rfl⟩
      obtain ⟨ca, fa⟩ := hHj pc (by omega)
      obtain ⟨ch, fh⟩ := hHj c (by omega)
      rw [hxa] at ca
      rw [hxh] at ch
      have hc := EE.out.cmp2 (by omega) d hd xa xh q
      have ca' : ((putRow enc w blk off d).drewN q).cell? ⟨blk, off + pc, none⟩ = some (enc xa) := ca
      have ch' : ((putRow enc w blk off d).drewN q).cell? ⟨blk, off + c, none⟩ = some (enc xh) := ch
      have az : (pc : Int) < (d0.size : Int) := by omega
      have hz : (c : Int) < (d0.size : Int) := by omega
      clear ca ch fa fh hHj
      generalize hwq : (putRow enc w blk off d).drewN q = wq at ca' ch' hc ⊢
      have HW : Hid ((putRow enc w blk off d).drewN q = wq) := hwq
      clear hwq
      by_cases hlv : cf xa xh < 0
      · go_wp2_with fail
        go_quiet (first | (go_at_fn g; refine Calls.quiet_of (hc _)))
        go_wp2
        go_roundg (c - i)
        case measure => omega
        case rel => exact ⟨i, c, q + nq, rfl, rfl, hi0, ic1, by omega, Nat.le_refl _, by rw [← HW.out, World.drewN_drewN], HI0, Or.inr (by rw [show p - c = pc by omega, hxh, hxa]; exact decide_eq_true hlv)⟩
      · go_wp2_with fail
        go_quiet (first | (go_at_fn g; refine Calls.quiet_of (hc _)))
        go_wp2
        all_goals try (exfalso; rename_i h9; simp only [Bool.not_eq_false', decide_eq_true_eq] at h9; omega)
        go_roundg (j - (c + 1))
        case measure => omega
        case rel => exact ⟨c + 1, j, q + nq, by go_num, rfl, by omega, by omega, hjh, Nat.le_refl _, by rw [← HW.out, World.drewN_drewN], Or.inr (by rw [show n - (c + 1) = pc by omega, Nat.add_sub_cancel, hxh, hxa]; exact decide_eq_false (by omega)), HJ0⟩
    · have hltz : ¬ (i : Int) < (j : Int) := by omega
      obtain rfl : i = j := by omega
      obtain ⟨e, he⟩ : ∃ e, n = e + i := ⟨n - i, by omega⟩
      have ee : (n : Int) - (i : Int) = (e : Int) := by omega
      have he1 : n ≤ e + i := by omega
      have he2 : e + i ≤ n := by omega
      clear he
      have SP : Aside (Split lt a m b i e d) := by
        refine Mg.split SS.out MM.out (by omega) (by omega) (by omega) (by omega) ?_ ?_
        · rcases HI0.out with h | h
          · rcases LO.out with h2 | h2
            · exact Or.inl (by omega)
            · exact Or.inr (Or.inl (by omega))
          · exact Or.inr (Or.inr (by rw [show e = n - i by omega]; exact h))
        · rcases HJ0.out with h | h
          · rcases HI.out with h2 | h2
            · exact Or.inl (by omega)
            · exact Or.inr (Or.inl (by omega))
          · exact Or.inr (Or.inr (by rw [show e - 1 = p - i by omega]; exact h))
      have hm2 : Hid (mid = i + (e - m)) := by show mid = _; omega
      have ie1 : a ≤ i := by omega
      have ie2 : i ≤ m := by omega
      have ie3 : m ≤ e := by omega
      have ie4 : e ≤ b := by omega
      have ie5 : mid + m ≤ e + i := by omega
      have ie6 : e + i ≤ mid + m := by omega
      clear HI0 HJ0 LO HI hal hnl hlh him himid hg hn1 hn2 hp1 hp2 he1 he2 en epp
      go_upto_region 39 with fail
      go_cut [185] (fun v wx => v = .bool (decide (i < m) && decide (m < e)) ∧ wx = (putRow enc w blk off d).drewN q)
      case first => as_aux_lemma =>
        by_cases h1 : i < m
        · have hz : (i : Int) < (m : Int) := by omega
          go_wp2_with fail
          go_meet
          case rel => exact ⟨by simp [h1], rfl⟩
        · have hz : ¬ (i : Int) < (m : Int) := by omega
          have hz2 : decide ((i : Int) < (m : Int)) = false := decide_eq_false hz
          go_wp2_with fail
          go_meet
          case rel => exact ⟨by simp [h1], rfl⟩
      case rest => as_aux_lemma =>
      obtain ⟨rfl, rfl⟩ := hcut
      go_upto_if 185 with fail
      go_cut [] (fun wx => ∃ q1 d1, wx = (putRow enc w blk off d1).drewN q1 ∧ Hid (Rot d i m e d1) ∧ Hid (PermIn a b d d1))
      case first => as_aux_lemma =>
        cases hrot : (decide (i < m) && decide (m < e))
        · go_wp2_with fail
          go_meet
          case rel =>
            refine ⟨q, d, rfl, Rot.none d i m e ?_, permIn_refl _ _ _⟩
            simp only [Bool.and_eq_false_iff, decide_eq_false_iff_not] at hrot
            omega
        · have hr : i < m ∧ m < e := by simpa using hrot
          have c := rotate EE.out cap i m e q d (.func (.func g) #[] cb) hd hr.1 hr.2 (by omega)
          go_wp2_with (go_at_call 44; refine c.mono ?_; rintro e w1 ⟨rfl, q1, d1, rfl, hR, hP⟩)
          go_meet
          case rel => exact ⟨q1, d1, rfl, hR, permIn_mono _ _ _ _ _ _ ie1 ie4 (by omega) hP⟩
      case rest => as_aux_lemma =>
      obtain ⟨q1, d1, rfl, R1, P1⟩ := hcut
      go_upto_region 41 with fail
      go_cut [199] (fun v wx => v = .bool (decide (a < i) && decide (i < mid)) ∧ wx = (putRow enc w blk off d1).drewN q1)
      case first => as_aux_lemma =>
        by_cases h1 : a < i
        · have hz : (a : Int) < (i : Int) := by omega
          go_wp2_with fail
          go_meet
          case rel => exact ⟨by simp [h1], rfl⟩
        · have hz : ¬ (a : Int) < (i : Int) := by omega
          have hz2 : decide ((a : Int) < (i : Int)) = false := decide_eq_false hz
          go_wp2_with fail
          go_meet
          case rel => exact ⟨by simp [h1], rfl⟩
      case rest => as_aux_lemma =>
      obtain ⟨rfl, rfl⟩ := hcut
      go_upto_if 199 with fail
      go_cut [] (fun wx => ∃ q2 d2, wx = (putRow enc w blk off d2).drewN q2 ∧ Hid (Mgd lt a mid d1 d2))
      case first => as_aux_lemma =>
        cases hrot : (decide (a < i) && decide (i < mid))
        · go_wp2_with fail
          go_meet
          case rel =>
            refine ⟨q1, d1, rfl, Split.left_none MM.out SP.out hm2.out R1.out ?_⟩
            simp only [Bool.and_eq_false_iff, decide_eq_false_iff_not] at hrot
            omega
        · have hr : a < i ∧ i < mid := by simpa using hrot
          have c := IH.out cap a i mid q1 d1 (P1.out.1.trans hd) hr.1 hr.2 (by omega) (by omega) (Split.left MM.out SP.out hm2.out R1.out)
          go_wp2_with (go_at_call 40; refine c.mono ?_; rintro e w1 ⟨rfl, q2, d2, rfl, hM⟩)
          go_meet
          case rel => exact ⟨q2, d2, rfl, hM⟩
      case rest => as_aux_lemma =>
      obtain ⟨q2, d2, rfl, M2⟩ := hcut
      go_upto_region 43 with fail
      go_cut [213] (fun v wx => v = .bool (decide (mid < e) && decide (e < b)) ∧ wx = (putRow enc w blk off d2).drewN q2)
      case first => as_aux_lemma =>
        by_cases h1 : mid < e
        · have hz : (mid : Int) < (e : Int) := by omega
          go_wp2_with fail
          go_meet
          case rel => exact ⟨by simp [h1], rfl⟩
        · have hz : ¬ (mid : Int) < (e : Int) := by omega
          have hz2 : decide ((mid : Int) < (e : Int)) = false := decide_eq_false hz
          go_wp2_with fail
          go_meet
          case rel => exact ⟨by simp [h1], rfl⟩
      case rest => as_aux_lemma =>
      obtain ⟨rfl, rfl⟩ := hcut
      cases hrot : (decide (mid < e) && decide (e < b))
      · go_wp2_with fail
        go_end0
        refine ⟨rfl, q2, d2, rfl, Split.whole SS.out MM.out SP.out hm2.out (by omega) R1.out P1.out M2.out (Split.right_none MM.out SP.out hm2.out R1.out M2.out.p ?_)⟩
        simp only [Bool.and_eq_false_iff, decide_eq_false_iff_not] at hrot
        omega
      · have hr : mid < e ∧ e < b := by simpa using hrot
        have c := IH.out cap mid e b q2 d2 (M2.out.p.1.trans (P1.out.1.trans hd)) hr.1 hr.2 (by omega) (by omega) (Split.right MM.out SP.out hm2.out R1.out M2.out.p)
        go_wp2_with (go_at_call 40; refine c.mono ?_; rintro e w1 ⟨rfl, q3, d3, rfl, hM⟩)
        go_end0
        exact ⟨rfl, q3, d3, rfl, Split.whole SS.out MM.out SP.out hm2.out (by omega) R1.out P1.out M2.out hM⟩

theorem symMerge {g : Nat} {cb : Array Value} {enc : α → Value} {cf : α → α → Int} {w : World} {blk off : Nat} {d0 : Array α} (E : Env g cb enc cf w blk off d0) {lt : α → α → Bool} (hS : SWO lt) : ∀ N, SymAt g cb enc cf w blk off d0 lt N
  | 0 => fun cap a m b q0 d hd h1 h2 h3 h4 _ => by omega
  | N + 1 => fun cap a m b q0 d hd h1 h2 h3 h4 M => by
    by_cases e1 : m = a + 1
    · subst e1; exact symOne E hS cap a b q0 d hd h2 h3 M
    · by_cases e2 : b = m + 1
      · subst e2; exact symLast E hS cap a m q0 d hd (by omega) (by omega) M
      · refine symGreat E hS cap a m b q0 d hd (by omega) (by omega) h3 M ?_
        intro cap a' m' b' q d' hd' k1 k2 k3 k4 M'
        exact symMerge E hS N cap a' m' b' q d' hd' k1 k2 k3 (by omega) M'
end Go.Proofs.Ytoegghjhepkfkaa.Srt
