/- The law ThreadMatchesSpec on plain lists: it answers true. No condition. -/
import Derived.Test.YtdedefemggkobaaMPThreadx18
import Derived.Test.YtdedefemggkobaaMPureThreadG
namespace Go.Proofs.Ytdedefemggkobaa.Pure
open Go.RowKit Go.Proofs.YtdedefemggkobaaW.PrintWords Go.Proofs.YtdedefemggkobaaW.PrintLast Go.Proofs.YtdedefemggkobaaW.PrintMore Go.Proofs.Ytdedefemggkobaa.PThread
set_option linter.unusedVariables false
theorem in_fin (a b c : Int) : Fin (fun _ => ref_In.f a b c) (fun r => r = decide (b ≤ a ∧ a ≤ c)) := by
  unfold ref_In.f
  refine Fin.ite (fun h => Fin.some ?_) (fun h => Fin.some ?_)
  · by_cases h2 : a ≤ c <;> simp [h2] <;> omega
  · symm; simp; omega
def Hit (l : List S53) (q : List (List Bool)) (off : Int) : Option (Nat × Nat) → Prop
  | none => ∀ i j : Nat, i < l.length → j < (D53 l (i : Int)).f1.length → ¬ hit l q off i j
  | some (a, b) => a < l.length ∧ b < (D53 l (a : Int)).f1.length ∧ hit l q off a b
def Wt (l : List S53) (q : List (List Bool)) (off : Int) : Option (Nat × Nat) → Nat → Nat → Int × Int × Int × Int × Int
  | none, _, _ => (0, 0, 0, 0, 0)
  | some (a, b), i, j => if a < i ∨ (a = i ∧ b < j) then (OF l q a b, SZ l a b, (a : Int), (b : Int), off - OF l q a b) else (0, 0, 0, 0, 0)
theorem Wt_some (l : List S53) (q : List (List Bool)) (off : Int) (a b i j : Nat) : Wt l q off (some (a, b)) i j = if a < i ∨ (a = i ∧ b < j) then (OF l q a b, SZ l a b, (a : Int), (b : Int), off - OF l q a b) else (0, 0, 0, 0, 0) := rfl
theorem hit_some (l : List S53) (q : List (List Bool)) (off : Int) : ∃ H, Hit l q off H := by
  by_cases h : ∃ i j : Nat, i < l.length ∧ j < (D53 l (i : Int)).f1.length ∧ hit l q off i j
  · obtain ⟨i, j, h1, h2, h3⟩ := h
    exact ⟨some (i, j), h1, h2, h3⟩
  · exact ⟨none, fun i j h1 h2 h3 => h ⟨i, j, h1, h2, h3⟩⟩
theorem wt_hit {l : List S53} {q : List (List Bool)} (g : Good l q) {off : Int} {H : Option (Nat × Nat)} (hH : Hit l q off H) {i j : Nat} (hi : i < l.length) (hj : j < (D53 l (i : Int)).f1.length) :
    (hit l q off i j → Wt l q off H i (j + 1) = (OF l q i j, SZ l i j, (i : Int), (j : Int), off - OF l q i j)) ∧ (¬ hit l q off i j → Wt l q off H i (j + 1) = Wt l q off H i j) := by
  cases H with
  | none => exact ⟨fun h => absurd h (hH i j hi hj), fun _ => rfl⟩
  | some p =>
    obtain ⟨a, b⟩ := p
    obtain ⟨h1, h2, h3⟩ := hH
    refine ⟨fun h => ?_, fun h => ?_⟩
    · obtain ⟨rfl, rfl⟩ := hit_one g hi hj h1 h2 h h3
      rw [Wt_some, if_pos (.inr ⟨rfl, by omega⟩)]
    · have hne : ¬ (a = i ∧ b = j) := fun e => by obtain ⟨rfl, rfl⟩ := e; exact h h3
      rw [Wt_some, Wt_some]
      by_cases c : a < i ∨ (a = i ∧ b < j)
      · rw [if_pos c, if_pos (by omega)]
      · rw [if_neg c, if_neg (by omega)]
theorem wt_row {l : List S53} {q : List (List Bool)} {off : Int} {H : Option (Nat × Nat)} (hH : Hit l q off H) (i : Nat) : Wt l q off H i (D53 l (i : Int)).f1.length = Wt l q off H (i + 1) 0 := by
  cases H with
  | none => rfl
  | some p =>
    obtain ⟨a, b⟩ := p
    obtain ⟨h1, h2, h3⟩ := hH
    rw [Wt_some, Wt_some]
    by_cases c : a < i + 1
    · have c1 : a < i ∨ (a = i ∧ b < (D53 l (i : Int)).f1.length) := by
        by_cases e : a = i
        · subst e; exact .inr ⟨rfl, h2⟩
        · exact .inl (by omega)
      rw [if_pos c1, if_pos (.inl c)]
    · rw [if_neg (by omega), if_neg (by omega)]
theorem wt_zero (l : List S53) (q : List (List Bool)) (off : Int) (H : Option (Nat × Nat)) : Wt l q off H 0 0 = (0, 0, 0, 0, 0) := by
  cases H with
  | none => rfl
  | some p =>
    obtain ⟨a, b⟩ := p
    rw [Wt_some, if_neg (by omega)]
theorem found_wt {l : List S53} {q : List (List Bool)} (g : Good l q) {off : Int} {H : Option (Nat × Nat)} (hH : Hit l q off H) {r : Int × Int × Int × Int × Int × Bool × Int × Int} (hr : Found l q off r) :
    (r.1, r.2.1, r.2.2.1, r.2.2.2.1, r.2.2.2.2.1) = Wt l q off H l.length 0 ∧ r.2.2.2.2.2.1 = decide ((Wt l q off H l.length 0).2.1 > 0) ∧ r.2.2.2.2.2.2 = (0, 0) := by
  rcases hr with ⟨i, j, hi, hj, h, rfl⟩ | ⟨hno, rfl⟩
  · cases H with
    | none => exact absurd h (hH i j hi hj)
    | some p =>
      obtain ⟨a, b⟩ := p
      obtain ⟨h1, h2, h3⟩ := hH
      obtain ⟨rfl, rfl⟩ := hit_one g hi hj h1 h2 h h3
      rw [Wt_some, if_pos (.inl hi)]
      refine ⟨rfl, ?_, rfl⟩
      obtain ⟨p1, p2, p3⟩ := h
      symm
      apply decide_eq_true
      show SZ l i j > 0
      unfold SZ
      omega
  · cases H with
    | none => exact ⟨rfl, rfl, rfl⟩
    | some p =>
      obtain ⟨a, b⟩ := p
      exact absurd hH.2.2 (hno a b hH.1 hH.2.1)
theorem ThreadMatchesSpec : law_ThreadMatchesSpec.Pure := by
  intro l q off hl _ hg hq _ _ _
  suffices h : Fin (fun k => law_ThreadMatchesSpec.f k l q off) (fun r => r = true) by
    obtain ⟨r, rfl, e⟩ := h
    exact e.rounds
  unfold law_ThreadMatchesSpec.f
  refine Fin.bind (keptFault_fin l q hl hg) (fun f hf => ?_)
  subst hf
  refine Fin.bind (blocks_fin l q hl hg) (fun b hb => ?_)
  refine Fin.bind (find_fin l q off hl hg) (fun r hr => ?_)
  refine Fin.bind threads_fin (fun t ht => ?_)
  refine Fin.ite (fun _ => ?_) (fun h => absurd ht h)
  obtain ⟨e, bz, bn⟩ := hb
  obtain ⟨rn, rz, rf⟩ := hr
  refine Fin.ite (fun h => ?_) (fun _ => ?_)
  · rw [e] at h
    simp at h
  · by_cases h0 : (KF l q).1 = 0
    · obtain ⟨e0, h8, hs, hm⟩ := KF_zero l q hg h0
      have g : Good l q := ⟨h8, hs, hm⟩
      obtain ⟨b1, b2, b3⟩ := bz h0
      obtain ⟨c0, c1⟩ := c_bound g
      have hbl := bl_inv g l.length (Nat.le_refl _)
      obtain ⟨H, hH⟩ := hit_some l q off
      rw [e, e0, b1, b2, b3]
      refine Fin.step (fun k => by simp only [law_ThreadMatchesSpec.j0]; rfl) ?_
      refine Fin.ite (fun h => by simp at h) (fun _ => ?_)
      refine Fin.bind (blocksOf_fin l q g) (fun s hs2 => ?_)
      subst hs2
      have loop : Fin (fun k => law_ThreadMatchesSpec.j1 k l off (bl l q l.length).1 r.2.2.2.2.2.1 (bl l q l.length).1 (bl l q l.length).2.2 false r.1 r.2.1 r.2.2.1 r.2.2.2.1 r.2.2.2.2.1 r.2.2.2.2.2.2.1 r.2.2.2.2.2.2.2) (fun r => r = true) := by
        refine Fin.step (fun k => by simp only [law_ThreadMatchesSpec.j1]; rfl) ?_
        refine Fin.ite (fun h => by simp at h) (fun _ => ?_)
        have key := upto (n := (l.length : Int)) (P := fun i => Fin (fun k => law_ThreadMatchesSpec.l0 k l off (bl l q l.length).1 r.2.2.2.2.2.1 (bl l q l.length).1 (bl l q l.length).2.2 i r.1 r.2.1 r.2.2.1 r.2.2.2.1 r.2.2.2.2.1 r.2.2.2.2.2.2.1 r.2.2.2.2.2.2.2 (Wt l q off H i.toNat 0).1 (Wt l q off H i.toNat 0).2.1 (Wt l q off H i.toNat 0).2.2.1 (Wt l q off H i.toNat 0).2.2.2.1 (Wt l q off H i.toNat 0).2.2.2.2) (fun r => r = true)) (fun i h0 h1 ih => by
          refine Fin.step (fun k => by simp only [law_ThreadMatchesSpec.l0]; rfl) ?_
          have hwc : wrap64 ((bl l q l.length).2.2 - 1) = (bl l q l.length).2.2 - 1 := wid (by omega) (by omega)
          rw [hwc]
          clear hwc
          refine Fin.ite (fun hlt => ?_) (fun hge => ?_)
          · rw [hbl.1] at hlt
            obtain ⟨n, rfl⟩ := Int.eq_ofNat_of_zero_le h0
            rw [Int.toNat_natCast]
            have hnl : n < l.length := by omega
            have hrow := len_at g hnl
            have hn16 := (g.ok (n : Int) h0 hlt).nsec
            have hll : (l.length : Int) ≤ 9223372036854775807 := by omega
            have hlen : ((D53 l (n : Int)).f1.length : Int) ≤ 9223372036854775807 := by omega
            have hb2 : (n : Int) < ((bl l q l.length).1.length : Int) := by rw [hbl.1]; exact hlt
            refine Fin.ite (fun _ => ?_) (fun h => absurd h0 h)
            refine Fin.ite (fun _ => ?_) (fun h => absurd hb2 h)
            refine Fin.bind (ints_fin _ (by omega)) (fun t ht => ?_)
            refine Fin.ite (fun _ => ?_) (fun h => absurd ht h)
            have key2 := upto (n := ((D53 l (n : Int)).f1.length : Int)) (P := fun j => Fin (fun k => law_ThreadMatchesSpec.l1 k l off (bl l q l.length).1 r.2.2.2.2.2.1 (bl l q l.length).1 (bl l q l.length).2.2 (n : Int) j r.1 r.2.1 r.2.2.1 r.2.2.2.1 r.2.2.2.2.1 r.2.2.2.2.2.2.1 r.2.2.2.2.2.2.2 (Wt l q off H n j.toNat).1 (Wt l q off H n j.toNat).2.1 (Wt l q off H n j.toNat).2.2.1 (Wt l q off H n j.toNat).2.2.2.1 (Wt l q off H n j.toNat).2.2.2.2) (fun r => r = true)) (fun j j0 j1 jh => by
              refine Fin.step (fun k => by simp only [law_ThreadMatchesSpec.l1]; rfl) ?_
              refine Fin.ite (fun _ => ?_) (fun h => absurd h0 h)
              refine Fin.ite (fun _ => ?_) (fun h => absurd hb2 h)
              refine Fin.ite (fun hjl => ?_) (fun hjg => ?_)
              · have hjl : j < ((D53 l (n : Int)).f1.length : Int) := by omega
                have jh := jh hjl
                obtain ⟨m, rfl⟩ := Int.eq_ofNat_of_zero_le j0
                rw [Int.toNat_natCast]
                rw [show ((m : Int) + 1).toNat = m + 1 by omega] at jh
                have hmn : m < (D53 l (n : Int)).f1.length := by omega
                obtain ⟨w1, w2⟩ := wt_hit g hH hnl hmn
                obtain ⟨o0, o1⟩ := off_bound g hnl hmn
                have hsz := ((g.ok (n : Int) h0 hlt).secs (m : Int) j0 hjl).size
                have hw1 : wrap64 (wrap64 (OF l q n m + SZ l n m) - 1) = OF l q n m + SZ l n m - 1 := by
                  rw [wid (i := OF l q n m + SZ l n m) (by unfold SZ; omega) (by unfold SZ; omega)]
                  exact wid (by unfold SZ; omega) (by unfold SZ; omega)
                have skip : ¬ hit l q off n m → Fin (fun k => law_ThreadMatchesSpec.l1 k l off (bl l q l.length).1 r.2.2.2.2.2.1 (bl l q l.length).1 (bl l q l.length).2.2 (n : Int) (wrap64 ((m : Int) + 1)) r.1 r.2.1 r.2.2.1 r.2.2.2.1 r.2.2.2.2.1 r.2.2.2.2.2.2.1 r.2.2.2.2.2.2.2 (Wt l q off H n m).1 (Wt l q off H n m).2.1 (Wt l q off H n m).2.2.1 (Wt l q off H n m).2.2.2.1 (Wt l q off H n m).2.2.2.2) (fun r => r = true) := fun hh => by
                  rw [wr (n := ((D53 l (n : Int)).f1.length : Int)) j0 hjl hlen, ← w2 hh]
                  exact jh
                refine Fin.ite (fun _ => ?_) (fun h => absurd j0 h)
                refine Fin.ite (fun p1 => ?_) (fun p1 => skip (fun h => p1 h.1))
                refine Fin.ite (fun _ => ?_) (fun h => absurd hlt h)
                refine Fin.ite (fun _ => ?_) (fun h => absurd hjl h)
                rw [hw1]
                clear hw1
                refine Fin.bind (in_fin _ _ _) (fun t ht => ?_)
                refine Fin.ite (fun p => ?_) (fun p => skip (fun h => p ?_))
                · rw [ht] at p
                  have p : OF l q n m ≤ off ∧ off ≤ OF l q n m + SZ l n m - 1 := by simpa using p
                  have hh : hit l q off n m := ⟨p1, p.1, by unfold OF SZ at p; omega⟩
                  have hw2 : wrap64 (off - OF l q n m) = off - OF l q n m := wid (by unfold SZ at p; omega) (by unfold SZ at p; omega)
                  rw [hw2, wr (n := ((D53 l (n : Int)).f1.length : Int)) j0 hjl hlen]
                  rw [w1 hh] at jh
                  exact jh
                · rw [ht]
                  apply decide_eq_true
                  obtain ⟨q1, q2, q3⟩ := h
                  exact ⟨q2, Int.le_sub_one_of_lt q3⟩
              · have ej : j = ((D53 l (n : Int)).f1.length : Int) := by omega
                subst ej
                rw [Int.toNat_natCast, wt_row hH, wr (n := (l.length : Int)) h0 hlt hll]
                have := ih hlt
                rw [show ((n : Int) + 1).toNat = n + 1 by omega] at this
                exact this)
            have k0 := key2 0 (by omega) (by omega)
            rw [Int.toNat_zero] at k0
            exact k0
          · have ei : i.toNat = l.length := by rw [hbl.1] at hge; omega
            rw [ei]
            refine Fin.bind (in_fin _ _ _) (fun t ht => ?_)
            refine Fin.ite (fun p => ?_) (fun p => ?_)
            · rw [ht] at p
              have p : 0 ≤ off ∧ off ≤ (bl l q l.length).2.2 - 1 := by simpa using p
              obtain ⟨f1, f2, f3⟩ := found_wt g hH (rf (by assumption) (by omega))
              have f1' : Wt l q off H l.length 0 = (r.1, r.2.1, r.2.2.1, r.2.2.2.1, r.2.2.2.2.1) := f1.symm
              rw [f1', f3, f2, f1']
              refine Fin.ite (fun _ => ?_) (fun h => absurd rfl h)
              refine Fin.ite (fun _ => Fin.some (by simp)) (fun h => absurd (by simp) h)
            · rw [ht] at p
              have p : ¬ (0 ≤ off ∧ off ≤ (bl l q l.length).2.2 - 1) := fun h => p (decide_eq_true h)
              have er := rz (by assumption) (by omega)
              rw [er]
              refine Fin.bind (Fin.some (P := fun x => x = ((3 : Int), (-3 : Int))) rfl) (fun x hx => ?_)
              subst hx
              refine Fin.ite (fun _ => ?_) (fun h => absurd (by simp) h)
              refine Fin.ite (fun h => by simp at h) (fun _ => Fin.some (by simp)))
        have k0 := key 0 (by omega) (by omega)
        rw [Int.toNat_zero, wt_zero] at k0
        exact k0
      refine Fin.ite (fun _ => ?_) (fun h => absurd rfl h)
      refine Fin.bind (same_fin _) (fun t ht => ?_)
      refine Fin.ite (fun _ => ?_) (fun h => absurd ht h)
      rw [show ((bl l q l.length).2.2 != (bl l q l.length).2.2) = false by simp]
      exact loop
    · obtain ⟨b1, b2, b3⟩ := bn h0
      rw [e, b1, b2, b3, rn h0]
      refine Fin.step (fun k => by simp only [law_ThreadMatchesSpec.j0]; rfl) ?_
      refine Fin.ite (fun _ => ?_) (fun h => absurd (by simp [h0]) h)
      refine Fin.bind threads_fin (fun t ht => ?_)
      refine Fin.ite (fun _ => ?_) (fun h => absurd ht h)
      refine Fin.ite (fun _ => ?_) (fun h => absurd (by simp) h)
      refine Fin.ite (fun _ => ?_) (fun h => absurd (by simp) h)
      refine Fin.ite (fun _ => ?_) (fun h => absurd (by simp) h)
      refine Fin.ite (fun _ => ?_) (fun h => absurd (by simp) h)
      refine Fin.ite (fun _ => ?_) (fun h => absurd (by simp) h)
      refine Fin.ite (fun h => by simp at h) (fun _ => Fin.some (by simp))
end Go.Proofs.Ytdedefemggkobaa.Pure
