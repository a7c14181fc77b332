/- Walks of Go's stable sort at ints, with whatever comparison: the whole sort. No condition. -/
import Derived.Test.YtoegghjhepkfkaaStE
namespace Go.Proofs.Ytoegghjhepkfkaa.Srt
open Go.Shelf Go.RowKit Go.Lib Go.Sort Go.Proofs
variable {α : Type} [Inhabited α]

set_option maxHeartbeats 8000000 in
set_option maxRecDepth 1000000 in
theorem stable {g : Nat} {cb : Array Value} {enc : α → Value} {cf : α → α → Int} {w : World} {blk off : Nat} {d0 : Array α} (E : Env g cb enc cf w blk off d0) (key : α → Int) (idx : α → Nat) (hcf : ∀ x y, ltOf cf x y = decide (key x < key y))
    (hidx : ∀ k, k < d0.size → idx d0[k]! = k) (hsz : d0.size < 1000000) (cap q0 : Nat) :
    Calls Try.prog 34 #[.slice (some ⟨blk, off, none⟩) d0.size cap, .int .i64 d0.size, .func (.func g) #[] cb] ((putRow enc w blk off d0).drewN q0) fun e w' =>
      e = .returned (.tuple #[]) ∧ ∃ n d', w' = (putRow enc w blk off d').drewN n ∧ SortedIn (full key idx) 0 d0.size d' ∧ PermIn 0 d0.size d0 d' := by
  have EE : Aside (Env g cb enc cf w blk off d0) := E
  have HK : Aside (∀ x y, ltOf cf x y = decide (key x < key y)) := hcf
  have ST : Hid (Ph1 key idx d0.size 0 d0) := Ph1.start hidx
  clear E hcf hidx
  go_enter Try.func34, Try.ntmps34
  go_wp2
  go_loopg [7, 8] d0.size (fun gg v7 v8 wr => ∃ (a q : Nat) (d : Array α), v7 = .int .i64 a ∧ v8 = .int .i64 (a + 20 : Nat) ∧ a ≤ d0.size ∧ d0.size - a ≤ gg ∧ d.size = d0.size ∧ wr = (putRow enc w blk off d).drewN q ∧ Hid (Ph1 key idx d0.size a d) ∧ Hid (PermIn 0 d0.size d0 d))
  case atStart => exact ⟨0, q0, d0, rfl, rfl, Nat.zero_le _, Nat.le_refl _, rfl, rfl, ST.out, permIn_refl _ _ _⟩
  case round => as_aux_lemma =>
    obtain ⟨a, q, d, rfl, rfl, haN, hg, hd, rfl, H1, HP⟩ := hrel
    obtain ⟨b, hb⟩ : ∃ b, b = a + 20 := ⟨_, rfl⟩
    rw [← hb]
    have hb1 : b ≤ a + 20 := by omega
    have hb2 : a + 20 ≤ b := by omega
    have BA : Hid (b = a + 20) := hb
    clear hb
    by_cases hlt : b ≤ d0.size
    · have hltz : (b : Int) ≤ (d0.size : Int) := by omega
      have c := insertion EE.out cap a b q d hd (by omega) hlt
      go_wp2_with (go_at_call 39; refine c.mono ?_; rintro e w1 ⟨rfl, q1, rfl⟩)
      go_roundg (d0.size - b)
      case measure => omega
      case rel =>
        have s := H1.out.step (ltOf cf) HK.out (by omega) (by omega)
        rw [← BA.out] at s
        exact ⟨b, q1, _, rfl, by go_num, hlt, Nat.le_refl _, s.2.1.trans hd, rfl, s.1, permIn_trans _ _ _ _ _ HP.out (permIn_mono _ _ _ _ _ _ (Nat.zero_le _) hlt (by omega) s.2)⟩
    · have hltz : ¬ (b : Int) ≤ (d0.size : Int) := by omega
      have c := insertion EE.out cap a d0.size q d hd haN (Nat.le_refl _)
      have s := H1.out.done (ltOf cf) HK.out haN (by omega) (by omega)
      have S1 : Hid (Bl key idx d0.size 20 (insertionSort (ltOf cf) d a d0.size)) := s.1
      have S2 : Hid (PermIn 0 d0.size d0 (insertionSort (ltOf cf) d a d0.size)) := permIn_trans _ _ _ _ _ HP.out (permIn_mono _ _ _ _ _ _ (Nat.zero_le _) (Nat.le_refl _) (by omega) s.2)
      have S3 : (insertionSort (ltOf cf) d a d0.size).size = d0.size := s.2.1.trans hd
      clear s H1 HP BA hb1 hb2 hltz hg
      go_wp2_with (go_at_call 39; refine c.mono ?_; rintro e w1 ⟨rfl, q1, rfl⟩)
      clear c
      generalize insertionSort (ltOf cf) d a d0.size = d1 at S1 S2 S3
      go_loopg [6, 7, 8, 9] d0.size (fun gg v6 _ _ _ wr => ∃ (bs q : Nat) (d : Array α), v6 = .int .i64 bs ∧ 0 < bs ∧ bs ≤ 2 * d0.size + 20 ∧ d0.size - bs ≤ gg ∧ d.size = d0.size ∧ wr = (putRow enc w blk off d).drewN q ∧ Hid (Bl key idx d0.size bs d) ∧ Hid (PermIn 0 d0.size d0 d))
      case atStart => exact ⟨20, q1, d1, rfl, by omega, by omega, by omega, S3, rfl, S1, S2⟩
      case round => as_aux_lemma =>
        obtain ⟨bs, q, d, rfl, hb0, hbl, hg, hd, rfl, HB, HP⟩ := hrel
        by_cases hlt : bs < d0.size
        · have hltz : (bs : Int) < (d0.size : Int) := by omega
          obtain ⟨tb, htb⟩ : ∃ tb, tb = 2 * bs := ⟨_, rfl⟩
          have et : 2 * (bs : Int) = (tb : Int) := by omega
          have et2 : (bs : Int) * 2 = (tb : Int) := by omega
          have tb1 : tb ≤ 2 * bs := by omega
          have tb2 : 2 * bs ≤ tb := by omega
          have TB : Hid (tb = 2 * bs) := htb
          clear htb
          go_wp2
          go_loopg [7, 8] d0.size (fun gg v7 v8 wr => ∃ (a q : Nat) (d : Array α), v7 = .int .i64 a ∧ v8 = .int .i64 (a + tb : Nat) ∧ a ≤ d0.size ∧ d0.size - a ≤ gg ∧ d.size = d0.size ∧ wr = (putRow enc w blk off d).drewN q ∧ Hid (Ph2 key idx d0.size bs a d) ∧ Hid (PermIn 0 d0.size d0 d))
          case atStart => exact ⟨0, q, d, rfl, by simp, Nat.zero_le _, Nat.le_refl _, hd, rfl, Ph2.start HB.out, HP.out⟩
          case round => as_aux_lemma =>
            clear HB HP
            obtain ⟨a, q, d, rfl, rfl, haN, hg2, hd, rfl, H2, HP⟩ := hrel
            obtain ⟨b, hb⟩ : ∃ b, b = a + tb := ⟨_, rfl⟩
            rw [← hb]
            have hb1 : b ≤ a + tb := by omega
            have hb2 : a + tb ≤ b := by omega
            have BA : Hid (b = a + tb) := hb
            clear hb
            obtain ⟨m, hm⟩ : ∃ m, m = a + bs := ⟨_, rfl⟩
            have hm1 : m ≤ a + bs := by omega
            have hm2 : a + bs ≤ m := by omega
            have em : (a : Int) + (bs : Int) = (m : Int) := by omega
            have MA : Hid (m = a + bs) := hm
            clear hm
            by_cases hle : b ≤ d0.size
            · have hlez : (b : Int) ≤ (d0.size : Int) := by omega
              have bz : (b : Int) < 3000000 := by omega
              have tz : (tb : Int) < 3000000 := by omega
              have two := H2.out.two (by omega)
              rw [← TB.out, ← BA.out, ← MA.out, show min b d0.size = b by omega] at two
              have c := symMerge EE.out (full_swo key idx) (b - a) cap a m b q d hd (by omega) (by omega) hle (Nat.le_refl _) (two.1.mg (ltOf cf) HK.out two.2)
              clear two
              go_wp2_with (go_at_call 40; refine c.mono ?_; rintro e w1 ⟨rfl, q1, d1, rfl, hM⟩)
              go_roundg (d0.size - b)
              case measure => omega
              case rel =>
                have s : Ph2 key idx d0.size bs b d1 := by
                  have := BA.out; have := TB.out
                  have h := H2.out.step (d' := d1) hb0 (by omega) (by omega) (by rw [← TB.out, ← BA.out]; exact hM)
                  rwa [← TB.out, ← BA.out] at h
                exact ⟨b, q1, d1, rfl, by go_num, hle, Nat.le_refl _, hM.p.1.trans hd, rfl, s, permIn_trans _ _ _ _ _ HP.out (permIn_mono _ _ _ _ _ _ (Nat.zero_le _) hle (by omega) hM.p)⟩
            · have hlez : ¬ (b : Int) ≤ (d0.size : Int) := by omega
              by_cases hmn : m < d0.size
              · have hmz : (m : Int) < (d0.size : Int) := by omega
                have two := H2.out.two (by omega)
                rw [← TB.out, ← BA.out, ← MA.out, show min b d0.size = d0.size by omega] at two
                have c := symMerge EE.out (full_swo key idx) (d0.size - a) cap a m d0.size q d hd (by omega) hmn (Nat.le_refl _) (Nat.le_refl _) (two.1.mg (ltOf cf) HK.out two.2)
                clear two
                go_wp2_with (go_at_call 40; refine c.mono ?_; rintro e w1 ⟨rfl, q1, d1, rfl, hM⟩)
                go_roundg (d0.size - tb)
                case measure => omega
                case rel =>
                  have s : Bl key idx d0.size tb d1 := by
                    rw [TB.out]
                    exact H2.out.done hb0 haN (by have := BA.out; have := TB.out; omega) (by omega) (Or.inl ⟨by have := MA.out; omega, hM⟩)
                  exact ⟨tb, q1, d1, rfl, by omega, by omega, Nat.le_refl _, hM.p.1.trans hd, rfl, s, permIn_trans _ _ _ _ _ HP.out (permIn_mono _ _ _ _ _ _ (Nat.zero_le _) (Nat.le_refl _) (by omega) hM.p)⟩
              · have hmz : ¬ (m : Int) < (d0.size : Int) := by omega
                go_wp2
                go_roundg (d0.size - tb)
                case measure => omega
                case rel =>
                  have s : Bl key idx d0.size tb d := by
                    rw [TB.out]
                    exact H2.out.done hb0 haN (by have := BA.out; have := TB.out; omega) (by omega) (Or.inr ⟨by have := MA.out; omega, rfl⟩)
                  exact ⟨tb, q, d, rfl, by omega, by omega, Nat.le_refl _, hd, rfl, s, HP⟩
        · have hltz : ¬ (bs : Int) < (d0.size : Int) := by omega
          go_wp2
          go_end0
          exact ⟨rfl, q, d, rfl, HB.out.end (by omega), HP.out⟩

set_option maxHeartbeats 2000000 in
theorem sortStable {g : Nat} {cb : Array Value} {enc : α → Value} {cf : α → α → Int} {w : World} {blk off : Nat} {d0 : Array α} (E : Env g cb enc cf w blk off d0) (key : α → Int) (idx : α → Nat) (hcf : ∀ x y, ltOf cf x y = decide (key x < key y))
    (hidx : ∀ k, k < d0.size → idx d0[k]! = k) (hsz : d0.size < 1000000) (cap : Nat) :
    Calls Try.prog 23 #[.slice (some ⟨blk, off, none⟩) d0.size cap, .func (.func g) #[] cb] w fun e w' =>
      e = .returned (.tuple #[]) ∧ ∃ n d', w' = (putRow enc w blk off d').drewN n ∧ SortedIn (full key idx) 0 d0.size d' ∧ PermIn 0 d0.size d0 d' := by
  have c := stable E key idx hcf hidx hsz cap 0
  rw [show (putRow enc w blk off d0).drewN 0 = w from putRow_self enc w blk off d0 E.holds] at c
  clear E hcf hidx
  go_enter Try.func23, Try.ntmps23
  go_wp2_with (go_at_call 34; refine c.mono ?_; rintro e w1 ⟨rfl, n, d', rfl, h1, h2⟩)
  go_end0
  exact ⟨rfl, n, d', rfl, h1, h2⟩
end Go.Proofs.Ytoegghjhepkfkaa.Srt
