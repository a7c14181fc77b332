/- The law ThreadBlocksAreApart on plain lists: it answers true. No condition. -/
import Derived.Test.YtdedefemggkobaaBPThreadx19
import Derived.Test.YtdedefemggkobaaBPureThreadG
namespace Go.Proofs.Ytdedefemggkobaa.Pure
open Go.RowKit Go.Proofs.YtdedefemggkobaaW.PrintWords Go.Proofs.YtdedefemggkobaaW.PrintLast Go.Proofs.YtdedefemggkobaaW.PrintMore Go.Proofs.Ytdedefemggkobaa.PThread
set_option linter.unusedVariables false
def tmAt (l : List S53) (q : List (List Bool)) (i j : Nat) : List Int := (rws (D53 l (i : Int)).f1 (rd_L24 q (i : Int)) (bl l q i).2.1 (bl l q i).2.2 j).2.1
theorem tmAt_succ {l : List S53} {q : List (List Bool)} (i j : Nat) : tmAt l q i (j + 1) = if (D46 (D53 l (i : Int)).f1 (j : Int)).f1 = 5 ∧ rdOf false (rd_L24 q (i : Int)) (j : Int) = true then tmAt l q i j ++ List.replicate (upr (szAt l q i j) (D46 (D53 l (i : Int)).f1 (j : Int)).f2 - szAt l q i j).toNat 0 ++ (D46 (D53 l (i : Int)).f1 (j : Int)).f3 else tmAt l q i j := by
  unfold tmAt szAt
  simp only [rws, stp]
  by_cases hc : (D46 (D53 l (i : Int)).f1 (j : Int)).f1 = 5 ∧ rdOf false (rd_L24 q (i : Int)) (j : Int) = true
  · rw [if_pos hc, if_pos hc]
  · rw [if_neg hc, if_neg hc]
theorem tmAt_next {l : List S53} {q : List (List Bool)} (i j : Nat) : tmAt l q i j <+: tmAt l q i (j + 1) := by
  rw [tmAt_succ]
  by_cases hc : (D46 (D53 l (i : Int)).f1 (j : Int)).f1 = 5 ∧ rdOf false (rd_L24 q (i : Int)) (j : Int) = true
  · rw [if_pos hc, List.append_assoc]
    exact List.prefix_append _ _
  · rw [if_neg hc]
    exact List.prefix_rfl
theorem tmAt_row {l : List S53} {q : List (List Bool)} (i j : Nat) : ∀ m : Nat, j ≤ m → tmAt l q i j <+: tmAt l q i m := by
  intro m
  induction m with
  | zero => intro h; rw [show j = 0 by omega]; exact List.prefix_rfl
  | succ m ih =>
    intro h
    by_cases e : j = m + 1
    · rw [e]; exact List.prefix_rfl
    · exact (ih (by omega)).trans (tmAt_next i m)
theorem bl_next {l : List S53} {q : List (List Bool)} (i : Nat) : (bl l q i).2.1 <+: (bl l q (i + 1)).2.1 := tmAt_row i 0 (D53 l (i : Int)).f1.length (Nat.zero_le _)
theorem bl_pre {l : List S53} {q : List (List Bool)} (i : Nat) : ∀ n : Nat, i ≤ n → (bl l q i).2.1 <+: (bl l q n).2.1 := by
  intro n
  induction n with
  | zero => intro h; rw [show i = 0 by omega]; exact List.prefix_rfl
  | succ n ih =>
    intro h
    by_cases e : i = n + 1
    · rw [e]; exact List.prefix_rfl
    · exact (ih (by omega)).trans (bl_next n)
theorem tmAt_all {l : List S53} {q : List (List Bool)} {i j : Nat} (hi : i < l.length) (hj : j ≤ (D53 l (i : Int)).f1.length) : tmAt l q i j <+: (bl l q l.length).2.1 :=
  (tmAt_row i j _ hj).trans (bl_pre (i + 1) l.length (by omega))
theorem tmAt_len {l : List S53} {q : List (List Bool)} (g : Good l q) {i j : Nat} (hi : i < l.length) (hj : j ≤ (D53 l (i : Int)).f1.length) : ((tmAt l q i j).length : Int) = szAt l q i j := by
  have mo := g.ok (i : Int) (by omega) (by omega)
  obtain ⟨b1, b2, b3, b4⟩ := bl_inv g i (by omega)
  exact (rws_inv (q := rd_L24 q (i : Int)) b3 b2 mo.secs j hj).2.1
theorem szAt_c {l : List S53} {q : List (List Bool)} (g : Good l q) {i j : Nat} (hi : i < l.length) (hj : j ≤ (D53 l (i : Int)).f1.length) : szAt l q i j ≤ (bl l q l.length).2.2 := by
  have h1 := (tmAt_all (q := q) hi hj).length_le
  have h2 := tmAt_len g hi hj
  have h3 := (bl_inv g l.length (Nat.le_refl _)).2.1
  omega
/-- The bytes of a section in the template. -/
theorem data_at {l : List S53} {q : List (List Bool)} (g : Good l q) {i j : Nat} (hi : i < l.length) (hj : j < (D53 l (i : Int)).f1.length) (ho : 0 ≤ OF l q i j) :
    (((bl l q l.length).2.1.take (OF l q i j + SZ l i j).toNat).drop (OF l q i j).toNat) = (D46 (D53 l (i : Int)).f1 (j : Int)).f3 ∧ OF l q i j + SZ l i j = szAt l q i (j + 1) ∧ szAt l q i j ≤ OF l q i j ∧ OF l q i j % (D46 (D53 l (i : Int)).f1 (j : Int)).f2 = 0 ∧ (D46 (D53 l (i : Int)).f1 (j : Int)).f1 = 5 ∧ rdOf false (rd_L24 q (i : Int)) (j : Int) = true := by
  have so := (g.ok (i : Int) (by omega) (by omega)).secs (j : Int) (by omega) (by omega)
  have e := (off_at g hi hj).2
  have hl0 := tmAt_len g hi (Nat.le_of_lt hj)
  have hl1 := tmAt_len g hi (j := j + 1) (by omega)
  have hp := tmAt_all (q := q) hi (j := j + 1) (by omega)
  have ht := tmAt_succ (l := l) (q := q) i j
  have hz := szAt_succ (l := l) (q := q) i j
  unfold OF at *
  by_cases hc : (D46 (D53 l (i : Int)).f1 (j : Int)).f1 = 5 ∧ rdOf false (rd_L24 q (i : Int)) (j : Int) = true
  · rw [if_pos hc] at e ht hz
    rw [e] at ho ⊢
    obtain ⟨u1, u2, u3⟩ := upr_le (n := szAt l q i j) so.align.1
    have hz' : upr (szAt l q i j) (D46 (D53 l (i : Int)).f1 (j : Int)).f2 + SZ l i j = szAt l q i (j + 1) := hz.symm
    refine ⟨?_, hz', u1, u3, hc⟩
    obtain ⟨rest, hr⟩ := hp
    rw [hz', ← hr]
    rw [List.take_append_of_le_length (by omega), List.take_of_length_le (by omega), ht]
    rw [List.drop_append_of_le_length (by simp only [List.length_append, List.length_replicate]; omega), List.drop_of_length_le (by simp only [List.length_append, List.length_replicate]; omega), List.nil_append]
  · rw [if_neg hc] at e
    rw [e] at ho
    omega
theorem sames_fin (a b : List Int) (h : a = b) : Fin (fun _ => ref_SameBytes.f a b) (fun t => t = true) := by
  subst h
  exact same_fin a
def Free (c : Int) (u : List Bool) (s : Int) : Prop := (u.length : Int) = c ∧ ∀ p : Int, s ≤ p → rdOf false u p = false
theorem free_set {c : Int} {u : List Bool} {s : Int} (h : Free c u s) (h0 : 0 ≤ s) : Free c (u.set s.toNat true) (s + 1) := by
  refine ⟨by rw [List.length_set]; exact h.1, fun p hp => ?_⟩
  have := h.2 p (by omega)
  unfold rdOf at this ⊢
  rw [List.getD_eq_getElem?_getD] at this ⊢
  rw [List.getElem?_set_ne (by omega)]
  exact this
theorem free_up {c : Int} {u : List Bool} {s t : Int} (h : Free c u s) (hle : s ≤ t) : Free c u t := ⟨h.1, fun p hp => h.2 p (by omega)⟩
theorem free_new {c : Int} (hc : 0 ≤ c) : Free c (List.replicate c.toNat false) 0 := by
  refine ⟨by rw [List.length_replicate]; omega, fun p hp => ?_⟩
  unfold rdOf
  rw [List.getD_eq_getElem?_getD, List.getElem?_replicate]
  by_cases h : p.toNat < c.toNat
  · rw [if_pos h]; rfl
  · rw [if_neg h]; rfl
theorem ThreadBlocksAreApart : law_ThreadBlocksAreApart.Pure := by
  intro l q hl _ hg hq _ _
  suffices h : Fin (fun k => law_ThreadBlocksAreApart.f k l q) (fun r => r = true) by
    obtain ⟨r, rfl, e⟩ := h
    exact e.rounds
  unfold law_ThreadBlocksAreApart.f
  refine Fin.bind (blocks_fin l q hl hg) (fun b hb => ?_)
  refine Fin.bind threads_fin (fun t ht => ?_)
  refine Fin.ite (fun _ => ?_) (fun h => absurd ht h)
  obtain ⟨e, bz, bn⟩ := hb
  by_cases h0 : (KF l q).1 = 0
  · obtain ⟨e0, h8, hs, hm⟩ := KF_zero l q hg h0
    have g : Good l q := ⟨h8, hs, hm⟩
    obtain ⟨b1, b2, b3⟩ := bz h0
    obtain ⟨c0, c1⟩ := c_bound g
    have hbl := bl_inv g l.length (Nat.le_refl _)
    rw [e, e0, b1, b2, b3]
    refine Fin.step (fun k => by simp only [law_ThreadBlocksAreApart.j0]; rfl) ?_
    refine Fin.ite (fun h => by simp at h) (fun _ => ?_)
    refine Fin.ite (fun _ => ?_) (fun h => absurd c0 h)
    refine Fin.ite (fun _ => ?_) (fun h => (h (by omega)).elim)
    have hll : (l.length : Int) ≤ 9223372036854775807 := by omega
    have hb4 : ((bl l q l.length).1.length : Int) = (l.length : Int) := by rw [hbl.1]
    have hb5 : ((bl l q l.length).2.1.length : Int) = (bl l q l.length).2.2 := hbl.2.1
    have key := upto (n := (l.length : Int)) (P := fun i => ∀ u : List Bool, (i < (l.length : Int) → Free (bl l q l.length).2.2 u (szAt l q i.toNat 0)) → Fin (fun k => law_ThreadBlocksAreApart.l0 k l q (bl l q l.length).1 (bl l q l.length).2.1 (bl l q l.length).2.2 u i) (fun r => r = true)) (fun i h0 h1 ih u hu => by
      refine Fin.step (fun k => by simp only [law_ThreadBlocksAreApart.l0]; rfl) ?_
      refine Fin.ite (fun hlt => ?_) (fun _ => Fin.some rfl)
      obtain ⟨n, rfl⟩ := Int.eq_ofNat_of_zero_le h0
      have hu := hu hlt
      rw [Int.toNat_natCast] at hu
      have hnl : n < l.length := by omega
      have hrow := len_at g hnl
      have hn16 := (g.ok (n : Int) h0 hlt).nsec
      have hlen : ((D53 l (n : Int)).f1.length : Int) ≤ 9223372036854775807 := by omega
      have hb2 : (n : Int) < ((bl l q l.length).1.length : Int) := by omega
      have hq1 : (n : Int) < (q.length : Int) := by have := hs.1; omega
      have hsh := hs.2 (n : Int) h0 hlt
      have key2 := upto (n := ((D53 l (n : Int)).f1.length : Int)) (P := fun j => ∀ u : List Bool, Free (bl l q l.length).2.2 u (szAt l q n j.toNat) → Fin (fun k => law_ThreadBlocksAreApart.l1 k l q (bl l q l.length).1 (bl l q l.length).2.1 (bl l q l.length).2.2 u (n : Int) j) (fun r => r = true)) (fun j j0 j1 jh u hu => by
        refine Fin.step (fun k => by simp only [law_ThreadBlocksAreApart.l1]; rfl) ?_
        refine Fin.ite (fun _ => ?_) (fun h => absurd h0 h)
        refine Fin.ite (fun _ => ?_) (fun h => absurd hlt h)
        refine Fin.ite (fun hjl => ?_) (fun hjg => ?_)
        · have jh := jh hjl
          obtain ⟨m, rfl⟩ := Int.eq_ofNat_of_zero_le j0
          rw [Int.toNat_natCast] at hu
          rw [show ((m : Int) + 1).toNat = m + 1 by omega] at jh
          have hmn : m < (D53 l (n : Int)).f1.length := by omega
          have hm2 : (m : Int) < ((rd_L13 (bl l q l.length).1 (n : Int)).length : Int) := by omega
          have hm3 : (m : Int) < ((rd_L24 q (n : Int)).length : Int) := by omega
          obtain ⟨o0, o1⟩ := off_bound g hnl hmn
          have so := (g.ok (n : Int) h0 hlt).secs (m : Int) j0 hjl
          have hsz := so.size
          have hal := so.align
          have hoff := (off_at g hnl hmn).2
          have hmono := szAt_mono g hnl m hmn
          have hcb := szAt_c g hnl (j := m + 1) (by omega)
          have hz0 := (szAt_bound g hnl (Nat.le_of_lt hmn)).1
          have k3 : ∀ (b : Bool), b = false → Fin (fun k => law_ThreadBlocksAreApart.j3 k l q (bl l q l.length).1 (bl l q l.length).2.1 (bl l q l.length).2.2 u (n : Int) (m : Int) b (D46 (D53 l (n : Int)).f1 (m : Int)).f0 (D46 (D53 l (n : Int)).f1 (m : Int)).f1 (D46 (D53 l (n : Int)).f1 (m : Int)).f2 (D46 (D53 l (n : Int)).f1 (m : Int)).f3 (D46 (D53 l (n : Int)).f1 (m : Int)).f4 (D46 (D53 l (n : Int)).f1 (m : Int)).f5 (D46 (D53 l (n : Int)).f1 (m : Int)).f6 (D46 (D53 l (n : Int)).f1 (m : Int)).f7 (D46 (D53 l (n : Int)).f1 (m : Int)).f8) (fun r => r = true) := by
            intro b hb
            subst hb
            refine Fin.step (fun k => by simp only [law_ThreadBlocksAreApart.j3]; rfl) ?_
            refine Fin.ite (fun h => by simp at h) (fun _ => ?_)
            refine Fin.ite (fun _ => ?_) (fun h => absurd h0 h)
            refine Fin.ite (fun _ => ?_) (fun h => absurd hb2 h)
            refine Fin.ite (fun _ => ?_) (fun h => absurd j0 h)
            refine Fin.ite (fun _ => ?_) (fun h => absurd hm2 h)
            refine Fin.ite (fun hneg => ?_) (fun hpos => ?_)
            · rw [wr (n := ((D53 l (n : Int)).f1.length : Int)) j0 hjl hlen]
              exact jh u (free_up hu hmono)
            · have hpos : 0 ≤ OF l q n m := Int.not_lt.1 hpos
              obtain ⟨d1, d2, d3, d4, d5, d6⟩ := data_at g hnl hmn hpos
              refine Fin.ite (fun h => absurd h (by omega)) (fun _ => ?_)
              refine Fin.ite (fun _ => ?_) (fun h => (h (by rw [Int.tmod_eq_emod_of_nonneg hpos]; exact d4)).elim)
              have hw1 : wrap64 (OF l q n m + SZ l n m) = OF l q n m + SZ l n m := wid (by unfold SZ; omega) (by unfold SZ; omega)
              rw [hw1]
              have g1 : ¬ (OF l q n m + SZ l n m > (bl l q l.length).2.2) := by clear hw1; omega
              have g2 : OF l q n m ≤ OF l q n m + SZ l n m := by clear hw1; unfold SZ; omega
              have g3 : OF l q n m + SZ l n m ≤ ((bl l q l.length).2.1.length : Int) := by clear hw1; omega
              refine Fin.ite (fun h => absurd h g1) (fun _ => ?_)
              refine Fin.ite (fun _ => ?_) (fun h => absurd hpos h)
              refine Fin.ite (fun _ => ?_) (fun h => absurd g2 h)
              refine Fin.ite (fun _ => ?_) (fun h => absurd g3 h)
              refine Fin.bind (sames_fin _ _ d1) (fun t ht => ?_)
              subst ht
              refine Fin.step (fun k => by simp only [law_ThreadBlocksAreApart.j4]; rfl) ?_
              refine Fin.ite (fun h => by simp at h) (fun _ => ?_)
              refine Fin.ite (fun _ => ?_) (fun h => absurd h0 h)
              refine Fin.ite (fun _ => ?_) (fun h => absurd hb2 h)
              refine Fin.ite (fun _ => ?_) (fun h => absurd j0 h)
              refine Fin.ite (fun _ => ?_) (fun h => absurd hm2 h)
              have key3 := upto (n := szAt l q n (m + 1)) (P := fun p => OF l q n m ≤ p → ∀ u : List Bool, Free (bl l q l.length).2.2 u p → Fin (fun k => law_ThreadBlocksAreApart.l2 k l q (bl l q l.length).1 (bl l q l.length).2.1 (bl l q l.length).2.2 u (n : Int) (m : Int) p (D46 (D53 l (n : Int)).f1 (m : Int)).f0 (D46 (D53 l (n : Int)).f1 (m : Int)).f1 (D46 (D53 l (n : Int)).f1 (m : Int)).f2 (D46 (D53 l (n : Int)).f1 (m : Int)).f3 (D46 (D53 l (n : Int)).f1 (m : Int)).f4 (D46 (D53 l (n : Int)).f1 (m : Int)).f5 (D46 (D53 l (n : Int)).f1 (m : Int)).f6 (D46 (D53 l (n : Int)).f1 (m : Int)).f7 (D46 (D53 l (n : Int)).f1 (m : Int)).f8) (fun r => r = true)) (fun p p0 p1 ph hp u hu => by
                refine Fin.step (fun k => by simp only [law_ThreadBlocksAreApart.l2]; rfl) ?_
                refine Fin.ite (fun _ => ?_) (fun h => absurd h0 h)
                refine Fin.ite (fun _ => ?_) (fun h => absurd hb2 h)
                refine Fin.ite (fun _ => ?_) (fun h => absurd j0 h)
                refine Fin.ite (fun _ => ?_) (fun h => absurd hm2 h)
                rw [hw1, d2]
                clear hw1
                refine Fin.ite (fun hpl => ?_) (fun hpg => ?_)
                · have hpu : p < (u.length : Int) := by have := hu.1; omega
                  refine Fin.ite (fun _ => ?_) (fun h => absurd p0 h)
                  refine Fin.ite (fun _ => ?_) (fun h => absurd hpu h)
                  refine Fin.ite (fun h => by rw [hu.2 p (Int.le_refl _)] at h; cases h) (fun _ => ?_)
                  rw [wr (n := szAt l q n (m + 1)) p0 hpl (by omega)]
                  exact ph hpl (by omega) _ (free_set hu p0)
                · rw [wr (n := ((D53 l (n : Int)).f1.length : Int)) j0 hjl hlen]
                  exact jh u (free_up hu p1))
              exact key3 (OF l q n m) hpos (by clear hw1; unfold SZ at *; omega) (Int.le_refl _) u (free_up hu d3)
          refine Fin.ite (fun _ => ?_) (fun h => absurd j0 h)
          refine Fin.ite (fun _ => ?_) (fun h => absurd hb4 h)
          refine Fin.ite (fun _ => ?_) (fun h => absurd hb2 h)
          refine Fin.ite (fun _ => ?_) (fun h => (h (by omega)).elim)
          refine Fin.ite (fun _ => ?_) (fun h => absurd hb5 h)
          refine Fin.ite (fun _ => ?_) (fun h => absurd hm2 h)
          refine Fin.ite (fun hk5 => ?_) (fun hk5 => ?_)
          · refine Fin.ite (fun _ => ?_) (fun h => absurd hq1 h)
            refine Fin.ite (fun _ => ?_) (fun h => absurd hm3 h)
            refine k3 _ ?_
            rw [hoff]
            cases hkp : rdOf false (rd_L24 q (n : Int)) (m : Int) with
            | false => rw [if_neg (fun h => by cases h.2)]; rfl
            | true =>
              rw [if_pos ⟨hk5, rfl⟩]
              obtain ⟨u1, u2, u3⟩ := upr_le (n := szAt l q n m) so.align.1
              rw [decide_eq_true (by omega)]
              rfl
          · refine k3 _ ?_
            rw [hoff, if_neg (fun h => hk5 h.1)]
            rfl
        · have ej : j = ((D53 l (n : Int)).f1.length : Int) := by omega
          subst ej
          rw [Int.toNat_natCast, szAt_end] at hu
          rw [wr (n := (l.length : Int)) h0 hlt hll]
          refine ih hlt u (fun _ => ?_)
          rw [show ((n : Int) + 1).toNat = n + 1 by omega]
          exact hu)
      exact key2 0 (by omega) (by omega) u hu)
    exact key 0 (by omega) (by omega) _ (fun _ => free_new c0)
  · obtain ⟨b1, b2, b3⟩ := bn h0
    rw [e, b1, b2, b3]
    refine Fin.step (fun k => by simp only [law_ThreadBlocksAreApart.j0]; rfl) ?_
    refine Fin.ite (fun _ => ?_) (fun h => absurd (by simp [h0]) h)
    refine Fin.bind threads_fin (fun t ht => ?_)
    refine Fin.ite (fun _ => Fin.some rfl) (fun h => absurd ht h)
end Go.Proofs.Ytdedefemggkobaa.Pure
