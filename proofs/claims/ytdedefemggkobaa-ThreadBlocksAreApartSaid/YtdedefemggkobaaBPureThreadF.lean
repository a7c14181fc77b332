/- What the reference's function makes of the layout of thread blocks; what thread.Find finds. No condition. -/
import Derived.Test.YtdedefemggkobaaBPureThreadE
namespace Go.Proofs.Ytdedefemggkobaa.Pure
open Go.RowKit Go.Proofs.YtdedefemggkobaaW.PrintWords Go.Proofs.YtdedefemggkobaaW.PrintLast Go.Proofs.YtdedefemggkobaaW.PrintMore Go.Proofs.Ytdedefemggkobaa.PThread
set_option linter.unusedVariables false
/-- The place of section j of module i, at this offset. -/
def hit (l : List S53) (q : List (List Bool)) (off i j : Int) : Prop :=
  0 ≤ rd (rd_L13 (bl l q l.length).1 i) j ∧ rd (rd_L13 (bl l q l.length).1 i) j ≤ off ∧ off < rd (rd_L13 (bl l q l.length).1 i) j + (D46 (D53 l i).f1 j).f4
theorem rd_last (A : List Int) (v : Int) (m : Nat) (h : A.length = m) : rd (A ++ [v]) (m : Int) = v := by subst h; unfold rd; simp [List.getD_eq_getElem?_getD]
theorem rdL_last (A : List (List Int)) (v : List Int) (m : Nat) (h : A.length = m) : rd_L13 (A ++ [v]) (m : Int) = v := by subst h; unfold rd_L13; simp [List.getD_eq_getElem?_getD]
theorem rws_at {secs : List S46} {q : List Bool} {tm : List Int} {sz n : Int} (h0 : 0 ≤ sz) (ht : (tm.length : Int) = sz) (hs : ∀ i : Int, 0 ≤ i → i < (secs.length : Int) → SecOk (D46 secs i) n) :
    ∀ j : Nat, j ≤ secs.length → ∀ m : Nat, m < j → rd (rws secs q tm sz j).1 (m : Int) = if (D46 secs (m : Int)).f1 = 5 ∧ rdOf false q (m : Int) = true then upr (rws secs q tm sz m).2.2 (D46 secs (m : Int)).f2 else -1 := by
  intro j
  induction j with
  | zero => intro _ m hm; omega
  | succ j ih =>
    intro hj m hm
    obtain ⟨r1, _⟩ := rws_inv (q := q) h0 ht hs j (by omega)
    have grow : ∃ v, (rws secs q tm sz (j + 1)).1 = (rws secs q tm sz j).1 ++ [v] ∧ v = if (D46 secs (j : Int)).f1 = 5 ∧ rdOf false q (j : Int) = true then upr (rws secs q tm sz j).2.2 (D46 secs (j : Int)).f2 else -1 := by
      simp only [rws, stp]
      by_cases hc : (D46 secs (j : Int)).f1 = 5 ∧ rdOf false q (j : Int) = true
      · exact ⟨_, by rw [if_pos hc], by rw [if_pos hc]⟩
      · exact ⟨_, by rw [if_neg hc], by rw [if_neg hc]⟩
    obtain ⟨v, e, ev⟩ := grow
    rw [e]
    by_cases hmj : m = j
    · subst hmj
      rw [← ev]
      exact rd_last _ _ _ r1
    · have := ih (by omega) m (by omega)
      rw [← this]
      unfold rd
      simp only [Int.toNat_natCast, List.getD_eq_getElem?_getD]
      rw [List.getElem?_append_left (by omega)]
theorem bl_at {l : List S53} {q : List (List Bool)} (g : Good l q) : ∀ i : Nat, i ≤ l.length → ∀ n : Nat, n < i → rd_L13 (bl l q i).1 (n : Int) = (rws (D53 l (n : Int)).f1 (rd_L24 q (n : Int)) (bl l q n).2.1 (bl l q n).2.2 (D53 l (n : Int)).f1.length).1 := by
  intro i
  induction i with
  | zero => intro _ m hm; omega
  | succ i ih =>
    intro hi n hn
    obtain ⟨b1, _⟩ := bl_inv g i (by omega)
    simp only [bl]
    by_cases e : n = i
    · subst e
      exact rdL_last _ _ _ b1
    · have := ih (by omega) n (by omega)
      rw [← this]
      unfold rd_L13
      simp only [Int.toNat_natCast, List.getD_eq_getElem?_getD]
      rw [List.getElem?_append_left (by omega)]
/-- The size of the block ahead of section j of module i. -/
def szAt (l : List S53) (q : List (List Bool)) (i j : Nat) : Int := (rws (D53 l (i : Int)).f1 (rd_L24 q (i : Int)) (bl l q i).2.1 (bl l q i).2.2 j).2.2
theorem off_at {l : List S53} {q : List (List Bool)} (g : Good l q) {i j : Nat} (hi : i < l.length) (hj : j < (D53 l (i : Int)).f1.length) :
    (rd_L13 (bl l q l.length).1 (i : Int)).length = (D53 l (i : Int)).f1.length ∧
    rd (rd_L13 (bl l q l.length).1 (i : Int)) (j : Int) = if (D46 (D53 l (i : Int)).f1 (j : Int)).f1 = 5 ∧ rdOf false (rd_L24 q (i : Int)) (j : Int) = true then upr (szAt l q i j) (D46 (D53 l (i : Int)).f1 (j : Int)).f2 else -1 := by
  have mo := g.ok (i : Int) (by omega) (by omega)
  obtain ⟨b1, b2, b3, b4⟩ := bl_inv g i (by omega)
  rw [bl_at g l.length (Nat.le_refl _) i hi]
  exact ⟨(rws_inv b3 b2 mo.secs _ (Nat.le_refl _)).1, rws_at b3 b2 mo.secs _ (Nat.le_refl _) j hj⟩
theorem len_at {l : List S53} {q : List (List Bool)} (g : Good l q) {i : Nat} (hi : i < l.length) : (rd_L13 (bl l q l.length).1 (i : Int)).length = (D53 l (i : Int)).f1.length := by
  have mo := g.ok (i : Int) (by omega) (by omega)
  obtain ⟨b1, b2, b3, b4⟩ := bl_inv g i (by omega)
  rw [bl_at g l.length (Nat.le_refl _) i hi]
  exact (rws_inv b3 b2 mo.secs _ (Nat.le_refl _)).1
theorem szAt_succ {l : List S53} {q : List (List Bool)} (i j : Nat) : szAt l q i (j + 1) = if (D46 (D53 l (i : Int)).f1 (j : Int)).f1 = 5 ∧ rdOf false (rd_L24 q (i : Int)) (j : Int) = true then upr (szAt l q i j) (D46 (D53 l (i : Int)).f1 (j : Int)).f2 + (D46 (D53 l (i : Int)).f1 (j : Int)).f4 else szAt l q i j := by
  unfold szAt
  simp only [rws, stp]
  by_cases hc : (D46 (D53 l (i : Int)).f1 (j : Int)).f1 = 5 ∧ rdOf false (rd_L24 q (i : Int)) (j : Int) = true
  · rw [if_pos hc, if_pos hc]
  · rw [if_neg hc, if_neg hc]
theorem szAt_end {l : List S53} {q : List (List Bool)} (i : Nat) : szAt l q i (D53 l (i : Int)).f1.length = szAt l q (i + 1) 0 := rfl
theorem szAt_mono {l : List S53} {q : List (List Bool)} (g : Good l q) {i : Nat} (hi : i < l.length) : ∀ j : Nat, j < (D53 l (i : Int)).f1.length → szAt l q i j ≤ szAt l q i (j + 1) := by
  intro j hj
  have so := (g.ok (i : Int) (by omega) (by omega)).secs (j : Int) (by omega) (by omega)
  rw [szAt_succ]
  by_cases hc : (D46 (D53 l (i : Int)).f1 (j : Int)).f1 = 5 ∧ rdOf false (rd_L24 q (i : Int)) (j : Int) = true
  · rw [if_pos hc]
    obtain ⟨u1, u2, _⟩ := upr_le (n := szAt l q i j) so.align.1
    have := so.size
    omega
  · rw [if_neg hc]
    exact Int.le_refl _
end Go.Proofs.Ytdedefemggkobaa.Pure
