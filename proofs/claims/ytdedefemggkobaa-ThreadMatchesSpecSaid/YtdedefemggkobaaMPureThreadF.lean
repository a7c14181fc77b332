/- What the reference's function makes of the layout of thread blocks; what thread.Find finds. No condition. -/
import Derived.Test.YtdedefemggkobaaMPureThreadE
namespace Go.Proofs.Ytdedefemggkobaa.Pure
open Go.RowKit Go.Proofs.YtdedefemggkobaaW.PrintWords Go.Proofs.YtdedefemggkobaaW.PrintLast Go.Proofs.YtdedefemggkobaaW.PrintMore Go.Proofs.Ytdedefemggkobaa.PThread
set_option linter.unusedVariables false
theorem upr_least {n a s : Int} (ha : 1 ≤ a) (h0 : n ≤ s) (h1 : s < upr n a) : ¬ s % a = 0 := by
  intro hm
  have e1 : s = s / a * a := by
    have := Int.mul_ediv_add_emod s a
    rw [hm, Int.mul_comm] at this
    omega
  have e2 : (n + a - 1) / a ≤ s / a := by
    have h3 : (n + a - 1) / a ≤ (s + (a - 1)) / a := Int.ediv_le_ediv (by omega) (by omega)
    have h4 : (s + (a - 1)) / a = s / a := by
      rw [e1, Int.add_comm (s / a * a), Int.add_mul_ediv_right _ _ (by omega), Int.ediv_eq_zero_of_lt (by omega) (by omega), Int.mul_ediv_cancel _ (by omega)]
      omega
    omega
  have e3 : upr n a ≤ s / a * a := Int.mul_le_mul_of_nonneg_right e2 (by omega)
  omega
theorem blocksOf_fin (l : List S53) (q : List (List Bool)) (g : Good l q) : Fin (fun k => ref_BlocksOf.f k l q) (fun r => r = bl l q l.length) := by
  unfold ref_BlocksOf.f
  have hs := g.shp
  have hm := g.ok
  have h8 := g.few
  have key := upto (n := (l.length : Int)) (P := fun i => Fin (fun k => ref_BlocksOf.l0 k l q (bl l q i.toNat).1 (bl l q i.toNat).2.1 (bl l q i.toNat).2.2 i) (fun r => r = bl l q l.length)) (fun i h0 h1 ih => by
    refine Fin.step (fun k => by simp only [ref_BlocksOf.l0]; rfl) ?_
    refine Fin.ite (fun hlt => ?_) (fun hge => Fin.some (by rw [show i.toNat = l.length by omega]))
    obtain ⟨n, rfl⟩ := Int.eq_ofNat_of_zero_le h0
    rw [Int.toNat_natCast] at *
    have mo := hm (n : Int) h0 hlt
    have hsh := hs.2 (n : Int) h0 hlt
    obtain ⟨b1, b2, b3, b4⟩ := bl_inv g n (by omega)
    have ih := ih hlt
    have key2 := upto (n := ((D53 l (n : Int)).f1.length : Int)) (P := fun j => Fin (fun k => ref_BlocksOf.l1 k l q (bl l q n).1 (rws (D53 l (n : Int)).f1 (rd_L24 q (n : Int)) (bl l q n).2.1 (bl l q n).2.2 j.toNat).2.1 (rws (D53 l (n : Int)).f1 (rd_L24 q (n : Int)) (bl l q n).2.1 (bl l q n).2.2 j.toNat).2.2 (n : Int)
        (rws (D53 l (n : Int)).f1 (rd_L24 q (n : Int)) (bl l q n).2.1 (bl l q n).2.2 j.toNat).1 j) (fun r => r = bl l q l.length)) (fun j j0 j1 jh => by
      obtain ⟨m, rfl⟩ := Int.eq_ofNat_of_zero_le j0
      rw [Int.toNat_natCast]
      have so : (m : Int) < ((D53 l (n : Int)).f1.length : Int) → SecOk (D46 (D53 l (n : Int)).f1 (m : Int)) ((D53 l (n : Int)).f2.length : Int) := fun h => mo.secs (m : Int) j0 h
      obtain ⟨r1, r2, r3, r4⟩ := rws_inv (q := rd_L24 q (n : Int)) b3 b2 mo.secs m (by omega)
      have hn16 := mo.nsec
      have nx : rws (D53 l (n : Int)).f1 (rd_L24 q (n : Int)) (bl l q n).2.1 (bl l q n).2.2 (((m : Int) + 1).toNat) = stp (D53 l (n : Int)).f1 (rd_L24 q (n : Int)) (rws (D53 l (n : Int)).f1 (rd_L24 q (n : Int)) (bl l q n).2.1 (bl l q n).2.2 m) m := by
        rw [show ((m : Int) + 1).toNat = m + 1 by omega]; rfl
      rw [nx] at jh
      generalize hR : rws (D53 l (n : Int)).f1 (rd_L24 q (n : Int)) (bl l q n).2.1 (bl l q n).2.2 m = R at *
      have hb : R.1.length < 17592186044416 := Nat.lt_trans (show R.1.length < 1000 by omega) (by decide)
      refine Fin.step (fun k => by simp only [ref_BlocksOf.l1]; rfl) ?_
      refine Fin.ite (fun _ => ?_) (fun h => absurd h0 h)
      refine Fin.ite (fun _ => ?_) (fun h => absurd hlt h)
      refine Fin.ite (fun hjl => ?_) (fun hjg => ?_)
      · have so := so hjl
        have jh := jh hjl
        refine Fin.ite (fun _ => ?_) (fun h => absurd j0 h)
        have hlen : ((D53 l (n : Int)).f1.length : Int) ≤ 9223372036854775807 := by omega
        have hsz := so.size
        have hal := so.align
        have hq1 : (n : Int) < (q.length : Int) := by have := hs.1; omega
        have hq2 : (m : Int) < ((rd_L24 q (n : Int)).length : Int) := by omega
        have skip : ¬ ((D46 (D53 l (n : Int)).f1 (m : Int)).f1 = 5 ∧ rdOf false (rd_L24 q (n : Int)) (m : Int) = true) → ∀ b0 b1 b2 b3 b4 b5 b6 b7 b8, Fin (fun k => ref_BlocksOf.j2 k l q (bl l q n).1 R.2.1 R.2.2 (n : Int) R.1 (m : Int) true b0 b1 b2 b3 b4 b5 b6 b7 b8) (fun r => r = bl l q l.length) := fun hc b0 b1 b2 b3 b4 b5 b6 b7 b8 => by
          refine Fin.step (fun k => by simp only [ref_BlocksOf.j2]; rfl) ?_
          unfold stp at jh
          rw [if_neg hc] at jh
          clear hc
          refine Fin.ite (fun _ => ?_) (fun h => absurd trivial h)
          refine Fin.ite (fun _ => ?_) (fun h => (h hb).elim)
          rw [wr (n := ((D53 l (n : Int)).f1.length : Int)) j0 hjl hlen]
          exact jh
        refine Fin.ite (fun hk5 => ?_) (fun hk5 => skip (fun h => hk5 h.1) _ _ _ _ _ _ _ _ _)
        refine Fin.ite (fun _ => ?_) (fun h => absurd hq1 h)
        refine Fin.ite (fun _ => ?_) (fun h => absurd hq2 h)
        cases hkp : rdOf false (rd_L24 q (n : Int)) (m : Int) with
        | false => exact skip (fun h => by rw [hkp] at h; cases h.2) _ _ _ _ _ _ _ _ _
        | true =>
          clear skip
          have hc : (D46 (D53 l (n : Int)).f1 (m : Int)).f1 = 5 ∧ rdOf false (rd_L24 q (n : Int)) (m : Int) = true := ⟨hk5, hkp⟩
          unfold stp at jh
          rw [if_pos hc] at jh
          obtain ⟨u1, u2, u3⟩ := upr_le (n := R.2.2) so.align.1
          have hd := so.data (by omega)
          have key3 := upto (n := upr R.2.2 (D46 (D53 l (n : Int)).f1 (m : Int)).f2) (P := fun s => R.2.2 ≤ s → Fin (fun k => ref_BlocksOf.l2 k l q (bl l q n).1 (R.2.1 ++ List.replicate (s - R.2.2).toNat 0) s (n : Int) R.1 (m : Int) (D46 (D53 l (n : Int)).f1 (m : Int)).f0 (D46 (D53 l (n : Int)).f1 (m : Int)).f1 (D46 (D53 l (n : Int)).f1 (m : Int)).f2 (D46 (D53 l (n : Int)).f1 (m : Int)).f3 (D46 (D53 l (n : Int)).f1 (m : Int)).f4 (D46 (D53 l (n : Int)).f1 (m : Int)).f5 (D46 (D53 l (n : Int)).f1 (m : Int)).f6 (D46 (D53 l (n : Int)).f1 (m : Int)).f7 (D46 (D53 l (n : Int)).f1 (m : Int)).f8) (fun r => r = bl l q l.length)) (fun s s0 s1 sh hs0 => by
            refine Fin.step (fun k => by simp only [ref_BlocksOf.l2]; rfl) ?_
            refine Fin.ite (fun h => absurd h (by omega)) (fun _ => ?_)
            rw [Int.tmod_eq_emod_of_nonneg s0]
            refine Fin.ite (fun hz => ?_) (fun hz => ?_)
            · have es : s = upr R.2.2 (D46 (D53 l (n : Int)).f1 (m : Int)).f2 := by
                by_cases hlt2 : s < upr R.2.2 (D46 (D53 l (n : Int)).f1 (m : Int)).f2
                · exact absurd hz (upr_least so.align.1 hs0 hlt2)
                · omega
              subst es
              refine Fin.ite (fun _ => ?_) (fun h => (h hb).elim)
              refine Fin.ite (fun _ => ?_) (fun h => (h (by simp only [List.length_append, List.length_replicate]; omega)).elim)
              rw [wr (n := ((D53 l (n : Int)).f1.length : Int)) j0 hjl hlen, wid (i := upr R.2.2 (D46 (D53 l (n : Int)).f1 (m : Int)).f2 + (D46 (D53 l (n : Int)).f1 (m : Int)).f4) (by omega) (by omega)]
              exact jh
            · have hlt2 : s < upr R.2.2 (D46 (D53 l (n : Int)).f1 (m : Int)).f2 := by
                by_cases e : s = upr R.2.2 (D46 (D53 l (n : Int)).f1 (m : Int)).f2
                · rw [e] at hz; exact absurd u3 hz
                · omega
              refine Fin.ite (fun _ => ?_) (fun h => (h (by simp only [List.length_append, List.length_replicate]; omega)).elim)
              rw [wid (i := s + 1) (by omega) (by omega)]
              have := sh hlt2 (by omega)
              rw [show (s + 1 - R.2.2).toNat = (s - R.2.2).toNat + 1 by omega, List.replicate_succ', ← List.append_assoc] at this
              exact this)
          refine Fin.step (fun k => by simp only [ref_BlocksOf.j2]; rfl) ?_
          refine Fin.ite (fun h => by simp at h) (fun _ => ?_)
          have k3 := key3 R.2.2 (by omega) u1 (Int.le_refl _)
          rw [Int.sub_self, Int.toNat_zero, List.replicate_zero, List.append_nil] at k3
          exact k3
      · have em : m = (D53 l (n : Int)).f1.length := by omega
        refine Fin.ite (fun _ => ?_) (fun h => (h (by omega)).elim)
        rw [wr (n := (l.length : Int)) h0 hlt (by omega)]
        rw [show ((n : Int) + 1).toNat = n + 1 by omega] at ih
        simp only [bl] at ih
        rw [← em, hR] at ih
        exact ih)
    exact key2 0 (by omega) (by omega))
  exact key 0 (by omega) (by omega)
/-- The place of section j of module i, at this offset. -/
def hit (l : List S53) (q : List (List Bool)) (off i j : Int) : Prop :=
  0 ≤ rd (rd_L13 (bl l q l.length).1 i) j ∧ rd (rd_L13 (bl l q l.length).1 i) j ≤ off ∧ off < rd (rd_L13 (bl l q l.length).1 i) j + (D46 (D53 l i).f1 j).f4
theorem rd_last (A : List Int) (v : Int) (m : Nat) (h : A.length = m) : rd (A ++ [v]) (m : Int) = v := by subst h; unfold rd; simp [List.getD_eq_getElem?_getD]
theorem rdL_last (A : List (List Int)) (v : List Int) (m : Nat) (h : A.length = m) : rd_L13 (A ++ [v]) (m : Int) = v := by subst h; unfold rd_L13; simp [List.getD_eq_getElem?_getD]
theorem rws_at {secs : List S46} {q : List Bool} {tm : List Int} {sz n : Int} (h0 : 0 ≤ sz) (ht : (tm.length : Int) = sz) (hs : ∀ i : Int, 0 ≤ i → i < (secs.length : Int) → SecOk (D46 secs i) n) :
    ∀ j : Nat, j ≤ secs.length → ∀ m : Nat, m < j → rd (rws secs q tm sz j).1 (m : Int) = if (D46 secs (m : Int)).f1 = 5 ∧ rdOf false q (m : Int) = true then upr (rws secs q tm sz m).2.2 (D46 secs (m : Int)).f2 else -1 := by
  intro j
  induction j with
  | zero => intro _ m hm; omega
  | succ j ih =>
    intro hj m hm
    obtain ⟨r1, _⟩ := rws_inv (q := q) h0 ht hs j (by omega)
    have grow : ∃ v, (rws secs q tm sz (j + 1)).1 = (rws secs q tm sz j).1 ++ [v] ∧ v = if (D46 secs (j : Int)).f1 = 5 ∧ rdOf false q (j : Int) = true then upr (rws secs q tm sz j).2.2 (D46 secs (j : Int)).f2 else -1 := by
      simp only [rws, stp]
      by_cases hc : (D46 secs (j : Int)).f1 = 5 ∧ rdOf false q (j : Int) = true
      · exact ⟨_, by rw [if_pos hc], by rw [if_pos hc]⟩
      · exact ⟨_, by rw [if_neg hc], by rw [if_neg hc]⟩
    obtain ⟨v, e, ev⟩ := grow
    rw [e]
    by_cases hmj : m = j
    · subst hmj
      rw [← ev]
      exact rd_last _ _ _ r1
    · have := ih (by omega) m (by omega)
      rw [← this]
      unfold rd
      simp only [Int.toNat_natCast, List.getD_eq_getElem?_getD]
      rw [List.getElem?_append_left (by omega)]
theorem bl_at {l : List S53} {q : List (List Bool)} (g : Good l q) : ∀ i : Nat, i ≤ l.length → ∀ n : Nat, n < i → rd_L13 (bl l q i).1 (n : Int) = (rws (D53 l (n : Int)).f1 (rd_L24 q (n : Int)) (bl l q n).2.1 (bl l q n).2.2 (D53 l (n : Int)).f1.length).1 := by
  intro i
  induction i with
  | zero => intro _ m hm; omega
  | succ i ih =>
    intro hi n hn
    obtain ⟨b1, _⟩ := bl_inv g i (by omega)
    simp only [bl]
    by_cases e : n = i
    · subst e
      exact rdL_last _ _ _ b1
    · have := ih (by omega) n (by omega)
      rw [← this]
      unfold rd_L13
      simp only [Int.toNat_natCast, List.getD_eq_getElem?_getD]
      rw [List.getElem?_append_left (by omega)]
/-- The size of the block ahead of section j of module i. -/
def szAt (l : List S53) (q : List (List Bool)) (i j : Nat) : Int := (rws (D53 l (i : Int)).f1 (rd_L24 q (i : Int)) (bl l q i).2.1 (bl l q i).2.2 j).2.2
theorem off_at {l : List S53} {q : List (List Bool)} (g : Good l q) {i j : Nat} (hi : i < l.length) (hj : j < (D53 l (i : Int)).f1.length) :
    (rd_L13 (bl l q l.length).1 (i : Int)).length = (D53 l (i : Int)).f1.length ∧
    rd (rd_L13 (bl l q l.length).1 (i : Int)) (j : Int) = if (D46 (D53 l (i : Int)).f1 (j : Int)).f1 = 5 ∧ rdOf false (rd_L24 q (i : Int)) (j : Int) = true then upr (szAt l q i j) (D46 (D53 l (i : Int)).f1 (j : Int)).f2 else -1 := by
  have mo := g.ok (i : Int) (by omega) (by omega)
  obtain ⟨b1, b2, b3, b4⟩ := bl_inv g i (by omega)
  rw [bl_at g l.length (Nat.le_refl _) i hi]
  exact ⟨(rws_inv b3 b2 mo.secs _ (Nat.le_refl _)).1, rws_at b3 b2 mo.secs _ (Nat.le_refl _) j hj⟩
theorem len_at {l : List S53} {q : List (List Bool)} (g : Good l q) {i : Nat} (hi : i < l.length) : (rd_L13 (bl l q l.length).1 (i : Int)).length = (D53 l (i : Int)).f1.length := by
  have mo := g.ok (i : Int) (by omega) (by omega)
  obtain ⟨b1, b2, b3, b4⟩ := bl_inv g i (by omega)
  rw [bl_at g l.length (Nat.le_refl _) i hi]
  exact (rws_inv b3 b2 mo.secs _ (Nat.le_refl _)).1
theorem szAt_succ {l : List S53} {q : List (List Bool)} (i j : Nat) : szAt l q i (j + 1) = if (D46 (D53 l (i : Int)).f1 (j : Int)).f1 = 5 ∧ rdOf false (rd_L24 q (i : Int)) (j : Int) = true then upr (szAt l q i j) (D46 (D53 l (i : Int)).f1 (j : Int)).f2 + (D46 (D53 l (i : Int)).f1 (j : Int)).f4 else szAt l q i j := by
  unfold szAt
  simp only [rws, stp]
  by_cases hc : (D46 (D53 l (i : Int)).f1 (j : Int)).f1 = 5 ∧ rdOf false (rd_L24 q (i : Int)) (j : Int) = true
  · rw [if_pos hc, if_pos hc]
  · rw [if_neg hc, if_neg hc]
theorem szAt_end {l : List S53} {q : List (List Bool)} (i : Nat) : szAt l q i (D53 l (i : Int)).f1.length = szAt l q (i + 1) 0 := rfl
theorem szAt_mono {l : List S53} {q : List (List Bool)} (g : Good l q) {i : Nat} (hi : i < l.length) : ∀ j : Nat, j < (D53 l (i : Int)).f1.length → szAt l q i j ≤ szAt l q i (j + 1) := by
  intro j hj
  have so := (g.ok (i : Int) (by omega) (by omega)).secs (j : Int) (by omega) (by omega)
  rw [szAt_succ]
  by_cases hc : (D46 (D53 l (i : Int)).f1 (j : Int)).f1 = 5 ∧ rdOf false (rd_L24 q (i : Int)) (j : Int) = true
  · rw [if_pos hc]
    obtain ⟨u1, u2, _⟩ := upr_le (n := szAt l q i j) so.align.1
    have := so.size
    omega
  · rw [if_neg hc]
    exact Int.le_refl _
theorem szAt_row {l : List S53} {q : List (List Bool)} (g : Good l q) {i : Nat} (hi : i < l.length) (j : Nat) : ∀ m : Nat, j ≤ m → m ≤ (D53 l (i : Int)).f1.length → szAt l q i j ≤ szAt l q i m := by
  intro m
  induction m with
  | zero => intro h _; rw [show j = 0 by omega]; exact Int.le_refl _
  | succ m ih =>
    intro h h2
    by_cases e : j = m + 1
    · rw [e]; exact Int.le_refl _
    · have := ih (by omega) (by omega)
      have := szAt_mono g hi m (by omega)
      omega
theorem szAt_rows {l : List S53} {q : List (List Bool)} (g : Good l q) (i : Nat) : ∀ n : Nat, i < n → n ≤ l.length → ∀ j, j ≤ (D53 l (i : Int)).f1.length → szAt l q i j ≤ szAt l q n 0 := by
  intro n
  induction n with
  | zero => intro h _ _ _; omega
  | succ n ih =>
    intro h h2 j hj
    by_cases e : i = n
    · subst e
      rw [← szAt_end]
      exact szAt_row g (by omega) j _ hj (Nat.le_refl _)
    · have h3 := ih (by omega) (by omega) j hj
      have h4 := szAt_row g (i := n) (by omega) 0 _ (Nat.zero_le _) (Nat.le_refl _)
      rw [szAt_end] at h4
      omega
theorem hit_sz {l : List S53} {q : List (List Bool)} (g : Good l q) {off : Int} {i j : Nat} (hi : i < l.length) (hj : j < (D53 l (i : Int)).f1.length) (h : hit l q off i j) : szAt l q i j ≤ off ∧ off < szAt l q i (j + 1) := by
  have so := (g.ok (i : Int) (by omega) (by omega)).secs (j : Int) (by omega) (by omega)
  obtain ⟨h1, h2, h3⟩ := h
  rw [(off_at g hi hj).2] at h1 h2 h3
  by_cases hc : (D46 (D53 l (i : Int)).f1 (j : Int)).f1 = 5 ∧ rdOf false (rd_L24 q (i : Int)) (j : Int) = true
  · rw [if_pos hc] at h1 h2 h3
    obtain ⟨u1, u2, _⟩ := upr_le (n := szAt l q i j) so.align.1
    rw [szAt_succ, if_pos hc]
    omega
  · rw [if_neg hc] at h1
    omega
theorem hit_one {l : List S53} {q : List (List Bool)} (g : Good l q) {off : Int} {i j n m : Nat} (hi : i < l.length) (hj : j < (D53 l (i : Int)).f1.length) (hn : n < l.length) (hm : m < (D53 l (n : Int)).f1.length) (h : hit l q off i j) (k : hit l q off n m) : i = n ∧ j = m := by
  obtain ⟨a1, a2⟩ := hit_sz g hi hj h
  obtain ⟨b1, b2⟩ := hit_sz g hn hm k
  rcases Nat.lt_trichotomy i n with h1 | h1 | h1
  · have := szAt_rows g i n h1 (by omega) (j + 1) (by omega)
    have := szAt_row g hn 0 m (by omega) (by omega)
    omega
  · subst h1
    refine ⟨rfl, ?_⟩
    rcases Nat.lt_trichotomy j m with h2 | h2 | h2
    · have := szAt_row g hi (j + 1) m (by omega) (by omega)
      omega
    · exact h2
    · have := szAt_row g hi (m + 1) j (by omega) (by omega)
      omega
  · have := szAt_rows g n i h1 (by omega) (m + 1) (by omega)
    have := szAt_row g hi 0 j (by omega) (by omega)
    omega
end Go.Proofs.Ytdedefemggkobaa.Pure
