/- Where sections lie in a thread block; what thread.Find finds. No condition. -/
import Derived.Test.YtdedefemggkobaaMPureThreadF
namespace Go.Proofs.Ytdedefemggkobaa.Pure
open Go.RowKit Go.Proofs.YtdedefemggkobaaW.PrintWords Go.Proofs.YtdedefemggkobaaW.PrintLast Go.Proofs.YtdedefemggkobaaW.PrintMore Go.Proofs.Ytdedefemggkobaa.PThread
set_option linter.unusedVariables false
abbrev OF (l : List S53) (q : List (List Bool)) (i j : Int) : Int := rd (rd_L13 (bl l q l.length).1 i) j
abbrev SZ (l : List S53) (i j : Int) : Int := (D46 (D53 l i).f1 j).f4
theorem szAt_bound {l : List S53} {q : List (List Bool)} (g : Good l q) {i j : Nat} (hi : i < l.length) (hj : j ≤ (D53 l (i : Int)).f1.length) : 0 ≤ szAt l q i j ∧ szAt l q i j ≤ 300000 := by
  have mo := g.ok (i : Int) (by omega) (by omega)
  obtain ⟨b1, b2, b3, b4⟩ := bl_inv g i (by omega)
  obtain ⟨r1, r2, r3, r4⟩ := rws_inv (q := rd_L24 q (i : Int)) b3 b2 mo.secs j hj
  have := g.few
  have := mo.nsec
  unfold szAt
  omega
theorem off_bound {l : List S53} {q : List (List Bool)} (g : Good l q) {i j : Nat} (hi : i < l.length) (hj : j < (D53 l (i : Int)).f1.length) : -1 ≤ OF l q i j ∧ OF l q i j ≤ 400000 := by
  have so := (g.ok (i : Int) (by omega) (by omega)).secs (j : Int) (by omega) (by omega)
  obtain ⟨z0, z1⟩ := szAt_bound g hi (Nat.le_of_lt hj)
  unfold OF
  rw [(off_at g hi hj).2]
  obtain ⟨u1, u2, _⟩ := upr_le (n := szAt l q i j) so.align.1
  have := so.align
  by_cases hc : (D46 (D53 l (i : Int)).f1 (j : Int)).f1 = 5 ∧ rdOf false (rd_L24 q (i : Int)) (j : Int) = true
  · rw [if_pos hc]; omega
  · rw [if_neg hc]; omega
theorem c_bound {l : List S53} {q : List (List Bool)} (g : Good l q) : 0 ≤ (bl l q l.length).2.2 ∧ (bl l q l.length).2.2 ≤ 300000 := by
  obtain ⟨b1, b2, b3, b4⟩ := bl_inv g l.length (Nat.le_refl _)
  have := g.few
  omega
/-- What thread.Find says of an offset in the block. -/
def Found (l : List S53) (q : List (List Bool)) (off : Int) (r : Int × Int × Int × Int × Int × Bool × Int × Int) : Prop :=
  (∃ i j : Nat, i < l.length ∧ j < (D53 l (i : Int)).f1.length ∧ hit l q off i j ∧ r = (OF l q i j, SZ l i j, (i : Int), (j : Int), off - OF l q i j, true, 0, 0)) ∨
  ((∀ i j : Nat, i < l.length → j < (D53 l (i : Int)).f1.length → ¬ hit l q off i j) ∧ r = (0, 0, 0, 0, 0, false, 0, 0))
theorem findLoop_fin {l : List S53} {q : List (List Bool)} (g : Good l q) (off : Int) : Fin (fun k => thread_Find.l0 k off (bl l q l.length).1 l (l.length : Int) 0) (Found l q off) := by
  have key := upto (n := (l.length : Int)) (P := fun i => (∀ n m : Nat, (n : Int) < i → m < (D53 l (n : Int)).f1.length → ¬ hit l q off n m) → Fin (fun k => thread_Find.l0 k off (bl l q l.length).1 l (l.length : Int) i) (Found l q off)) (fun i h0 h1 ih hno => by
    refine Fin.step (fun k => by simp only [thread_Find.l0]; rfl) ?_
    refine Fin.ite (fun hlt => ?_) (fun hge => Fin.some (.inr ⟨fun n m hn hm => hno n m (by omega) hm, rfl⟩))
    obtain ⟨n, rfl⟩ := Int.eq_ofNat_of_zero_le h0
    refine Fin.ite (fun _ => ?_) (fun h => absurd h0 h)
    refine Fin.ite (fun _ => ?_) (fun h => absurd hlt h)
    have hn16 := (g.ok (n : Int) h0 hlt).nsec
    have hlen : ((D53 l (n : Int)).f1.length : Int) ≤ 9223372036854775807 := by omega
    have hll : (l.length : Int) ≤ 9223372036854775807 := by have := g.few; omega
    have hrow := len_at g (i := n) (by omega)
    have hbl : (n : Int) < ((bl l q l.length).1.length : Int) := by rw [(bl_inv g l.length (Nat.le_refl _)).1]; exact hlt
    have key2 := upto (n := ((D53 l (n : Int)).f1.length : Int)) (P := fun j => (∀ m : Nat, (m : Int) < j → ¬ hit l q off n m) → Fin (fun k => thread_Find.l1 k off (bl l q l.length).1 (n : Int) l (l.length : Int) (n : Int) (D53 l (n : Int)).f1 ((D53 l (n : Int)).f1.length : Int) j) (Found l q off)) (fun j j0 j1 jh hnj => by
      refine Fin.step (fun k => by simp only [thread_Find.l1]; rfl) ?_
      refine Fin.ite (fun hjl => ?_) (fun hjg => ?_)
      · obtain ⟨m, rfl⟩ := Int.eq_ofNat_of_zero_le j0
        have hm : m < (D53 l (n : Int)).f1.length := by omega
        have hnl : n < l.length := by omega
        obtain ⟨o0, o1⟩ := off_bound g hnl hm
        have so := (g.ok (n : Int) h0 hlt).secs (m : Int) j0 hjl
        have hsz := so.size
        have hml : (m : Int) < ((rd_L13 (bl l q l.length).1 (n : Int)).length : Int) := by omega
        have hw1 : wrap64 (OF l q n m + SZ l n m) = OF l q n m + SZ l n m := wid (by unfold SZ; omega) (by unfold SZ; omega)
        refine Fin.ite (fun _ => ?_) (fun h => absurd j0 h)
        refine Fin.ite (fun _ => ?_) (fun h => absurd hjl h)
        refine Fin.ite (fun _ => ?_) (fun h => absurd h0 h)
        refine Fin.ite (fun _ => ?_) (fun h => absurd hbl h)
        refine Fin.ite (fun _ => ?_) (fun h => absurd hml h)
        have next : ¬ hit l q off n m → Fin (fun k => thread_Find.l1 k off (bl l q l.length).1 (n : Int) l (l.length : Int) (n : Int) (D53 l (n : Int)).f1 ((D53 l (n : Int)).f1.length : Int) (wrap64 ((m : Int) + 1))) (Found l q off) := fun hh => by
          rw [wr (n := ((D53 l (n : Int)).f1.length : Int)) j0 hjl hlen]
          refine jh hjl (fun m' hm' => ?_)
          by_cases e : m' = m
          · subst e; exact hh
          · exact hnj m' (by omega)
        refine Fin.ite (fun p1 => ?_) (fun p1 => next (fun h => p1 h.1))
        refine Fin.ite (fun p2 => ?_) (fun p2 => next (fun h => p2 h.2.1))
        rw [hw1]
        refine Fin.ite (fun p3 => ?_) (fun p3 => next (fun h => p3 h.2.2))
        refine Fin.some (.inl ⟨n, m, hnl, hm, ⟨p1, p2, p3⟩, ?_⟩)
        have hw2 : wrap64 (off - OF l q n m) = off - OF l q n m := by
          clear hw1
          exact wid (by unfold OF SZ at *; omega) (by unfold OF SZ at *; omega)
        rw [hw2]
      · rw [wr (n := (l.length : Int)) h0 hlt hll]
        refine ih hlt (fun n' m' hn' hm' => ?_)
        by_cases e : n' = n
        · subst e; exact hnj m' (by omega)
        · exact hno n' m' (by omega) hm')
    exact key2 0 (by omega) (by omega) (fun m hm => by omega))
  exact key 0 (by omega) (by omega) (fun n m hn => by omega)
theorem find_fin (l : List S53) (q : List (List Bool)) (off : Int) (hl : l.length ≤ 9223372036854775807) (hg : ∀ y ∈ l, G53 y) : Fin (fun k => thread_Find.f k l q off)
    (fun r => (¬ (KF l q).1 = 0 → r = (0, 0, 0, 0, 0, false, (KF l q).1, (KF l q).2)) ∧ ((KF l q).1 = 0 → (off < 0 ∨ (bl l q l.length).2.2 ≤ off) → r = (0, 0, 0, 0, 0, false, 3, -3)) ∧ ((KF l q).1 = 0 → ¬ (off < 0 ∨ (bl l q l.length).2.2 ≤ off) → Found l q off r)) := by
  unfold thread_Find.f
  refine Fin.bind (blocks_fin l q hl hg) (fun r hr => ?_)
  obtain ⟨e, hz, hn⟩ := hr
  refine Fin.ite (fun hb => Fin.some ?_) (fun hb => ?_)
  · have hne : ¬ (KF l q).1 = 0 := by
      intro h
      rw [e, (KF_zero l q hg h).1] at hb
      simp at hb
    rw [e]
    exact ⟨fun _ => rfl, fun h => absurd h hne, fun h => absurd h hne⟩
  · have h0 : (KF l q).1 = 0 := by
      rw [e] at hb
      simp at hb
      exact hb.1
    obtain ⟨e0, h8, hs, hm⟩ := KF_zero l q hg h0
    have g : Good l q := ⟨h8, hs, hm⟩
    obtain ⟨e1, e2, e3⟩ := hz h0
    rw [e1, e3]
    have jj : ∀ b : Bool, (b = true ↔ (off < 0 ∨ (bl l q l.length).2.2 ≤ off)) → Fin (fun k => thread_Find.j0 k l off (bl l q l.length).1 b) (fun r => (¬ (KF l q).1 = 0 → r = (0, 0, 0, 0, 0, false, (KF l q).1, (KF l q).2)) ∧ ((KF l q).1 = 0 → (off < 0 ∨ (bl l q l.length).2.2 ≤ off) → r = (0, 0, 0, 0, 0, false, 3, -3)) ∧ ((KF l q).1 = 0 → ¬ (off < 0 ∨ (bl l q l.length).2.2 ≤ off) → Found l q off r)) := fun b hb => by
      refine Fin.step (fun k => by simp only [thread_Find.j0]; rfl) ?_
      refine Fin.ite (fun h => Fin.some ⟨fun h2 => absurd h0 h2, fun _ _ => rfl, fun _ h2 => absurd (hb.1 h) h2⟩) (fun h => ?_)
      exact Fin.mono (findLoop_fin g off) (fun r hr => ⟨fun h2 => absurd h0 h2, fun _ h2 => absurd (hb.2 h2) h, fun _ _ => hr⟩)
    refine Fin.ite (fun h => jj true ⟨fun _ => .inl h, fun _ => rfl⟩) (fun h => jj _ ?_)
    simp
    omega
theorem ints_fin (a : List Int) (ha : a.length ≤ 9223372036854775807) : Fin (fun k => law_ints.f k a a) (fun r => r = true) := by
  unfold law_ints.f
  refine Fin.ite (fun _ => ?_) (fun h => absurd rfl h)
  have key := upto (n := (a.length : Int)) (P := fun i => Fin (fun k => law_ints.l0 k a a i) (fun r => r = true)) (fun i h0 h1 ih => by
    refine Fin.step (fun k => by simp only [law_ints.l0]; rfl) ?_
    refine Fin.ite (fun hlt => ?_) (fun _ => Fin.some rfl)
    refine Fin.ite (fun _ => ?_) (fun h => absurd h0 h)
    refine Fin.ite (fun _ => ?_) (fun h => absurd hlt h)
    refine Fin.ite (fun _ => ?_) (fun h => absurd trivial h)
    rw [wr h0 hlt (by omega)]
    exact ih hlt)
  exact key 0 (by omega) (by omega)
theorem threads_some : law_threads.f 60 = some true := by decide +kernel
theorem threads_fin : Fin (fun k => law_threads.f k) (fun r => r = true) := ⟨true, rfl, Ev.of (fun k => law_threads.mono k) threads_some⟩
theorem same_fin (a : List Int) : Fin (fun _ => ref_SameBytes.f a a) (fun t => t = true) := by
  unfold ref_SameBytes.f
  exact Fin.some (by simp)
end Go.Proofs.Ytdedefemggkobaa.Pure
