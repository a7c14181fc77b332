/- The layout of thread blocks, told row by row; what the program's function and the reference's function make of it. No condition. -/
import Derived.Test.YtdedefemggkobaaBPureThreadD
namespace Go.Proofs.Ytdedefemggkobaa.Pure
open Go.RowKit Go.Proofs.YtdedefemggkobaaW.PrintWords Go.Proofs.YtdedefemggkobaaW.PrintLast Go.Proofs.YtdedefemggkobaaW.PrintMore Go.Proofs.Ytdedefemggkobaa.PThread
set_option linter.unusedVariables false
def upr (n a : Int) : Int := (n + a - 1) / a * a
theorem upr_le {n a : Int} (ha : 1 ≤ a) : n ≤ upr n a ∧ upr n a < n + a ∧ upr n a % a = 0 := by
  unfold upr
  refine ⟨?_, ?_, Int.mul_emod_left _ _⟩
  · have := Int.lt_ediv_add_one_mul_self (n + a - 1) (show 0 < a by omega)
    rw [Int.add_mul] at this
    omega
  · have := Int.ediv_mul_le (n + a - 1) (show a ≠ 0 by omega)
    omega
theorem up_fin (n a : Int) (h0 : 0 ≤ n) (h1 : n ≤ 1000000) (ha : 1 ≤ a ∧ a ≤ 256) : Fin (fun _ => thread_Up.f n a) (fun r => r = upr n a) := by
  unfold thread_Up.f
  refine Fin.ite (fun h => absurd h (by omega)) (fun _ => Fin.some ?_)
  obtain ⟨u1, u2, _⟩ := upr_le (n := n) ha.1
  have e1 : wrap64 (wrap64 (n + a) - 1) = n + a - 1 := by rw [wid (i := n + a) (by omega) (by omega), wid (by omega) (by omega)]
  have q0 : 0 ≤ (n + a - 1) / a := Int.ediv_nonneg (by omega) (by omega)
  have q1 : (n + a - 1) / a ≤ n + a - 1 := Int.ediv_le_self _ (by omega)
  rw [e1, Int.tdiv_eq_ediv_of_nonneg (by omega), wid (i := (n + a - 1) / a) (by omega) (by omega)]
  exact wid (i := upr n a) (by omega) (by omega)
def stp (secs : List S46) (q : List Bool) (st : List Int × List Int × Int) (j : Nat) : List Int × List Int × Int :=
  if (D46 secs (j : Int)).f1 = 5 ∧ rdOf false q (j : Int) = true then
    (st.1 ++ [upr st.2.2 (D46 secs (j : Int)).f2], st.2.1 ++ List.replicate (upr st.2.2 (D46 secs (j : Int)).f2 - st.2.2).toNat 0 ++ (D46 secs (j : Int)).f3, upr st.2.2 (D46 secs (j : Int)).f2 + (D46 secs (j : Int)).f4)
  else (st.1 ++ [-1], st.2.1, st.2.2)
def rws (secs : List S46) (q : List Bool) (tm : List Int) (sz : Int) : Nat → List Int × List Int × Int
  | 0 => ([], tm, sz)
  | j + 1 => stp secs q (rws secs q tm sz j) j
def bl (l : List S53) (q : List (List Bool)) : Nat → List (List Int) × List Int × Int
  | 0 => ([], [], 0)
  | i + 1 => ((bl l q i).1 ++ [(rws (D53 l (i : Int)).f1 (rd_L24 q (i : Int)) (bl l q i).2.1 (bl l q i).2.2 (D53 l (i : Int)).f1.length).1], (rws (D53 l (i : Int)).f1 (rd_L24 q (i : Int)) (bl l q i).2.1 (bl l q i).2.2 (D53 l (i : Int)).f1.length).2)
theorem rws_inv {secs : List S46} {q : List Bool} {tm : List Int} {sz n : Int} (h0 : 0 ≤ sz) (ht : (tm.length : Int) = sz) (hs : ∀ i : Int, 0 ≤ i → i < (secs.length : Int) → SecOk (D46 secs i) n) :
    ∀ j : Nat, j ≤ secs.length → (rws secs q tm sz j).1.length = j ∧ ((rws secs q tm sz j).2.1.length : Int) = (rws secs q tm sz j).2.2 ∧ sz ≤ (rws secs q tm sz j).2.2 ∧ (rws secs q tm sz j).2.2 ≤ sz + 1756 * j := by
  intro j
  induction j with
  | zero => intro _; exact ⟨rfl, ht, Int.le_refl _, by simp [rws]⟩
  | succ j ih =>
    intro hj
    obtain ⟨i1, i2, i3, i4⟩ := ih (by omega)
    have so := hs (j : Int) (by omega) (by omega)
    simp only [rws, stp]
    by_cases hc : (D46 secs (j : Int)).f1 = 5 ∧ rdOf false q (j : Int) = true
    · rw [if_pos hc]
      obtain ⟨u1, u2, _⟩ := upr_le (n := (rws secs q tm sz j).2.2) so.align.1
      have hd := so.data (by omega)
      have := so.size
      have := so.align
      simp only [List.length_append, List.length_singleton, List.length_replicate]
      refine ⟨by omega, by omega, by omega, by omega⟩
    · rw [if_neg hc]
      simp only [List.length_append, List.length_singleton]
      refine ⟨by omega, i2, i3, by omega⟩
structure Good (l : List S53) (q : List (List Bool)) : Prop where
  few : l.length ≤ 8
  shp : Shp l q
  ok : ∀ j : Int, 0 ≤ j → j < (l.length : Int) → ModOk (D53 l j)
theorem bl_inv {l : List S53} {q : List (List Bool)} (g : Good l q) : ∀ i : Nat, i ≤ l.length → (bl l q i).1.length = i ∧ ((bl l q i).2.1.length : Int) = (bl l q i).2.2 ∧ 0 ≤ (bl l q i).2.2 ∧ (bl l q i).2.2 ≤ 28096 * i := by
  intro i
  induction i with
  | zero => intro _; exact ⟨rfl, rfl, Int.le_refl _, by simp [bl]⟩
  | succ i ih =>
    intro hi
    obtain ⟨i1, i2, i3, i4⟩ := ih (by omega)
    have mo := g.ok (i : Int) (by omega) (by omega)
    obtain ⟨r1, r2, r3, r4⟩ := rws_inv (q := rd_L24 q (i : Int)) i3 i2 mo.secs _ (Nat.le_refl _)
    have := mo.nsec
    refine ⟨by simp only [bl, List.length_append, List.length_singleton]; omega, r2, by simp only [bl]; omega, by simp only [bl]; omega⟩
theorem set_pad (A : List Int) (n : Nat) (v : Int) (h : A.length < n) : (A ++ List.replicate (n - A.length) 0).set A.length v = (A ++ [v]) ++ List.replicate (n - (A.length + 1)) 0 := by
  rw [List.set_append_right _ _ (Nat.le_refl _), Nat.sub_self]
  obtain ⟨m, hm⟩ : ∃ m, n - A.length = m + 1 := ⟨n - A.length - 1, by omega⟩
  rw [hm, List.replicate_succ, List.set_cons_zero, show n - (A.length + 1) = m by omega]
  simp
theorem rd_pad (A : List Int) (n : Nat) (v : Int) (h : A.length < n) : rd ((A ++ [v]) ++ List.replicate (n - (A.length + 1)) 0) (A.length : Int) = v := by
  unfold rd
  simp [List.getD_eq_getElem?_getD]
/-- What thread.Blocks makes. -/
theorem blocks_fin (l : List S53) (q : List (List Bool)) (hl : l.length ≤ 9223372036854775807) (hg : ∀ y ∈ l, G53 y) : Fin (fun k => thread_Blocks.f k l q) (fun r => r.2.2.2 = KF l q ∧ ((KF l q).1 = 0 → r.1 = (bl l q l.length).1 ∧ r.2.1 = (bl l q l.length).2.1 ∧ r.2.2.1 = (bl l q l.length).2.2) ∧ (¬ (KF l q).1 = 0 → r.1 = [] ∧ r.2.1 = [] ∧ r.2.2.1 = 0)) := by
  unfold thread_Blocks.f
  refine Fin.bind (checked_fin l q hl hg) (fun r hr => ?_)
  subst hr
  refine Fin.ite (fun hb => Fin.some ?_) (fun hb => ?_)
  · have hz : ¬ (KF l q).1 = 0 := by
      intro e
      rw [(KF_zero l q hg e).1] at hb
      simp at hb
    exact ⟨rfl, fun h => absurd h hz, fun _ => ⟨rfl, rfl, rfl⟩⟩
  · have hz : (KF l q).1 = 0 := by simp at hb; exact hb.1
    obtain ⟨e0, h8, hs, hm⟩ := KF_zero l q hg hz
    have g : Good l q := ⟨h8, hs, hm⟩
    refine Fin.mono (P := fun r => r = ((bl l q l.length).1, (bl l q l.length).2.1, (bl l q l.length).2.2, 0, 0)) ?_ (fun r hr => by subst hr; exact ⟨e0.symm, fun _ => ⟨rfl, rfl, rfl⟩, fun h => absurd hz h⟩)
    have key := upto (n := (l.length : Int)) (P := fun i => Fin (fun k => thread_Blocks.l0 k q (bl l q i.toNat).1 (bl l q i.toNat).2.1 (bl l q i.toNat).2.2 l (l.length : Int) i) (fun r => r = ((bl l q l.length).1, (bl l q l.length).2.1, (bl l q l.length).2.2, 0, 0))) (fun i h0 h1 ih => by
      refine Fin.step (fun k => by simp only [thread_Blocks.l0]; rfl) ?_
      refine Fin.ite (fun hlt => ?_) (fun hge => Fin.some (by rw [show i.toNat = l.length by omega]))
      obtain ⟨n, rfl⟩ := Int.eq_ofNat_of_zero_le h0
      rw [Int.toNat_natCast] at *
      have mo := hm (n : Int) h0 hlt
      have hsh := hs.2 (n : Int) h0 hlt
      obtain ⟨b1, b2, b3, b4⟩ := bl_inv g n (by omega)
      refine Fin.ite (fun _ => ?_) (fun h => absurd h0 h)
      refine Fin.ite (fun _ => ?_) (fun h => absurd hlt h)
      refine Fin.ite (fun _ => ?_) (fun h => absurd (Int.natCast_nonneg _) h)
      refine Fin.ite (fun _ => ?_) (fun h => absurd (show (((D53 l (n : Int)).f1.length : Int)).toNat ≤ 35184372088832 by have := mo.nsec; omega) h)
      have ih := ih hlt
      generalize hS : (D53 l (n : Int)).f1 = secs at *
      have key2 := upto (n := (secs.length : Int)) (P := fun j => Fin (fun k => thread_Blocks.l1 k q (bl l q n).1 (rws secs (rd_L24 q (n : Int)) (bl l q n).2.1 (bl l q n).2.2 j.toNat).2.1 (rws secs (rd_L24 q (n : Int)) (bl l q n).2.1 (bl l q n).2.2 j.toNat).2.2 (n : Int)
          ((rws secs (rd_L24 q (n : Int)) (bl l q n).2.1 (bl l q n).2.2 j.toNat).1 ++ List.replicate (secs.length - j.toNat) 0) l (l.length : Int) (n : Int) secs (secs.length : Int) j) (fun r => r = ((bl l q l.length).1, (bl l q l.length).2.1, (bl l q l.length).2.2, 0, 0))) (fun j j0 j1 jh => by
        obtain ⟨m, rfl⟩ := Int.eq_ofNat_of_zero_le j0
        rw [Int.toNat_natCast]
        have so : (m : Int) < (secs.length : Int) → SecOk (D46 secs (m : Int)) ((D53 l (n : Int)).f2.length : Int) := fun h => by have := mo.secs (m : Int) j0 (by rw [hS]; exact h); rwa [hS] at this
        obtain ⟨r1, r2, r3, r4⟩ := rws_inv (q := rd_L24 q (n : Int)) b3 b2 (fun i i0 i1 => by have := mo.secs i i0 (by rw [hS]; exact i1); rwa [hS] at this) m (by omega)
        have hn16 := mo.nsec
        rw [hS] at hn16
        have nx : rws secs (rd_L24 q (n : Int)) (bl l q n).2.1 (bl l q n).2.2 (((m : Int) + 1).toNat) = stp secs (rd_L24 q (n : Int)) (rws secs (rd_L24 q (n : Int)) (bl l q n).2.1 (bl l q n).2.2 m) m := by
          rw [show ((m : Int) + 1).toNat = m + 1 by omega]; rfl
        rw [nx] at jh
        generalize hR : rws secs (rd_L24 q (n : Int)) (bl l q n).2.1 (bl l q n).2.2 m = R at *
        refine Fin.step (fun k => by simp only [thread_Blocks.l1]; rfl) ?_
        refine Fin.ite (fun hjl => ?_) (fun hjg => ?_)
        · have so := so hjl
          have jh := jh hjl
          refine Fin.ite (fun _ => ?_) (fun h => absurd j0 h)
          refine Fin.ite (fun _ => ?_) (fun h => absurd hjl h)
          refine Fin.ite (fun _ => ?_) (fun h => absurd (show (m : Int) < ((R.1 ++ List.replicate (secs.length - m) 0).length : Int) by simp; omega) h)
          rw [Int.toNat_natCast]
          have sp : ∀ v, (R.1 ++ List.replicate (secs.length - m) 0).set m v = (R.1 ++ [v]) ++ List.replicate (secs.length - (m + 1)) 0 := fun v => by
            have := set_pad R.1 secs.length v (by omega)
            rwa [r1] at this
          have rp : ∀ v, rd ((R.1 ++ [v]) ++ List.replicate (secs.length - (m + 1)) 0) (m : Int) = v := fun v => by
            have := rd_pad R.1 secs.length v (by omega)
            rwa [r1] at this
          refine Fin.bind (Fin.some (P := fun y => y = (R.1 ++ [-1]) ++ List.replicate (secs.length - (m + 1)) 0) (sp _)) (fun y hy => ?_)
          subst hy
          rw [wr (n := (secs.length : Int)) j0 hjl (by omega)]
          have e1 : secs.length - ((m : Int) + 1).toNat = secs.length - (m + 1) := by omega
          rw [e1] at jh
          have skip : ¬ ((D46 secs (m : Int)).f1 = 5 ∧ rdOf false (rd_L24 q (n : Int)) (m : Int) = true) → Fin (fun k => thread_Blocks.l1 k q (bl l q n).1 R.2.1 R.2.2 (n : Int) ((R.1 ++ [-1]) ++ List.replicate (secs.length - (m + 1)) 0) l (l.length : Int) (n : Int) secs (secs.length : Int) ((m : Int) + 1)) (fun r => r = ((bl l q l.length).1, (bl l q l.length).2.1, (bl l q l.length).2.2, 0, 0)) := fun hc => by
            unfold stp at jh
            rw [if_neg hc] at jh
            exact jh
          refine Fin.ite (fun hk5 => ?_) (fun hk5 => skip (fun h => hk5 h.1))
          refine Fin.ite (fun _ => ?_) (fun h => absurd h0 h)
          refine Fin.ite (fun _ => ?_) (fun h => absurd (show (n : Int) < (q.length : Int) by have := hs.1; omega) h)
          refine Fin.ite (fun _ => ?_) (fun h => absurd (show (m : Int) < ((rd_L24 q (n : Int)).length : Int) by omega) h)
          refine Fin.ite (fun hkp => ?_) (fun hkp => skip (fun h => hkp h.2))
          have hc : (D46 secs (m : Int)).f1 = 5 ∧ rdOf false (rd_L24 q (n : Int)) (m : Int) = true := ⟨hk5, hkp⟩
          unfold stp at jh
          rw [if_pos hc] at jh
          obtain ⟨u1, u2, _⟩ := upr_le (n := R.2.2) so.align.1
          have hsz := so.size
          have hal := so.align
          refine Fin.bind (up_fin R.2.2 (D46 secs (m : Int)).f2 (by omega) (by omega) so.align) (fun t ht => ?_)
          subst ht
          refine Fin.bind (Fin.some (P := fun y => y = (R.1 ++ [upr R.2.2 (D46 secs (m : Int)).f2]) ++ List.replicate (secs.length - (m + 1)) 0) (by rw [← sp (-1), List.set_set]; exact sp _)) (fun y hy => ?_)
          subst hy
          rw [rp, wid (i := upr R.2.2 (D46 secs (m : Int)).f2 - R.2.2) (by omega) (by omega)]
          refine Fin.ite (fun _ => ?_) (fun h => absurd (show 0 ≤ upr R.2.2 (D46 secs (m : Int)).f2 - R.2.2 by omega) h)
          have hd := so.data (by omega)
          refine Fin.ite (fun _ => ?_) (fun h => absurd (show R.2.1.length + (upr R.2.2 (D46 secs (m : Int)).f2 - R.2.2).toNat < 140737488355328 by omega) h)
          refine Fin.bind (Fin.some (P := fun y => y = R.2.1 ++ List.replicate (upr R.2.2 (D46 secs (m : Int)).f2 - R.2.2).toNat 0) rfl) (fun y hy => ?_)
          subst hy
          refine Fin.ite (fun _ => ?_) (fun h => absurd (show (R.2.1 ++ List.replicate (upr R.2.2 (D46 secs (m : Int)).f2 - R.2.2).toNat 0).length + (D46 secs (m : Int)).f3.length < 140737488355328 by simp only [List.length_append, List.length_replicate]; omega) h)
          rw [wid (i := upr R.2.2 (D46 secs (m : Int)).f2 + (D46 secs (m : Int)).f4) (by omega) (by omega)]
          exact jh
        · have em : m = secs.length := by omega
          refine Fin.ite (fun _ => ?_) (fun h => absurd (show (bl l q n).1.length < 5864062014805 by omega) h)
          rw [wr (n := (l.length : Int)) h0 hlt (by omega)]
          rw [show ((n : Int) + 1).toNat = n + 1 by omega] at ih
          simp only [bl] at ih
          rw [hS, ← em, hR] at ih
          rw [em, Nat.sub_self, List.replicate_zero, List.append_nil]
          exact ih)
      have k0 := key2 0 (by omega) (by omega)
      simp only [Int.toNat_zero, rws, List.nil_append, Nat.sub_zero] at k0
      rw [Int.toNat_natCast]
      exact k0)
    exact key 0 (by omega) (by omega)
end Go.Proofs.Ytdedefemggkobaa.Pure
