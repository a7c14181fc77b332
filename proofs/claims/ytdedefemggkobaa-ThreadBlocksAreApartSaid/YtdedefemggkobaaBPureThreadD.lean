/- The fault of a list of modules with kept sections, told by one function for both roads; the layout of thread blocks, told row by row. No condition. -/
import Derived.Test.YtdedefemggkobaaBPureThreadC
namespace Go.Proofs.Ytdedefemggkobaa.Pure
open Go.RowKit Go.Proofs.YtdedefemggkobaaW.PrintWords Go.Proofs.YtdedefemggkobaaW.PrintLast Go.Proofs.YtdedefemggkobaaW.PrintMore Go.Proofs.Ytdedefemggkobaa.PThread
set_option linter.unusedVariables false
theorem g53_at {l : List S53} (hl : ∀ y ∈ l, G53 y) {i : Int} (h0 : 0 ≤ i) (h1 : i < (l.length : Int)) : G53 (D53 l i) := hl _ (mem_rd h0 h1)
/-- The first fault from module i on, d modules. -/
noncomputable def LF (l : List S53) : Nat → Int → Int × Int
  | 0, _ => (0, 0)
  | d + 1, i => if (V (D53 l i)).1 = 0 then LF l d (i + 1) else ((V (D53 l i)).1, i)
theorem LF_zero (l : List S53) (hg : ∀ y ∈ l, G53 y) : ∀ (d : Nat) (i : Int), 0 ≤ i → i + d = (l.length : Int) → (LF l d i).1 = 0 → LF l d i = (0, 0) ∧ ∀ j : Int, i ≤ j → j < (l.length : Int) → ModOk (D53 l j) := by
  intro d
  induction d with
  | zero => intro i h0 h1 h; exact ⟨rfl, fun j h2 h3 => absurd h3 (by omega)⟩
  | succ d ih =>
    intro i h0 h1 h
    unfold LF at h ⊢
    by_cases hz : (V (D53 l i)).1 = 0
    · rw [if_pos hz] at h ⊢
      obtain ⟨e, hm⟩ := ih (i + 1) (by omega) (by omega) h
      refine ⟨e, fun j h2 h3 => ?_⟩
      by_cases e : j = i
      · subst e
        exact ((V_spec _ (g53_at hg h0 h3)).1 hz).2
      · exact hm j (by omega) h3
    · rw [if_neg hz] at h
      exact absurd h hz
theorem check_fin (l : List S53) (hl : l.length ≤ 9223372036854775807) (hg : ∀ y ∈ l, G53 y) : Fin (fun k => symbols_Check.f k l) (fun r => r = if (l.length : Int) > 8 then (2, -1) else LF l l.length 0) := by
  have key := upto (n := (l.length : Int)) (P := fun i => ∀ d : Nat, i + d = (l.length : Int) → Fin (fun k => symbols_Check.l0 k l (l.length : Int) i) (fun r => r = LF l d i)) (fun i h0 h1 ih d hd => by
    refine Fin.step (fun k => by simp only [symbols_Check.l0]; rfl) ?_
    refine Fin.ite (fun hlt => ?_) (fun hge => Fin.some (by obtain rfl : d = 0 := (by omega); rfl))
    obtain ⟨d, rfl⟩ : ∃ e, d = e + 1 := ⟨d - 1, by omega⟩
    obtain ⟨hz, hv⟩ := V_spec _ (g53_at hg h0 hlt)
    refine Fin.ite (fun _ => ?_) (fun h => absurd h0 h)
    refine Fin.ite (fun _ => ?_) (fun h => absurd hlt h)
    refine Fin.bind (Q := fun r => r = V (D53 l i)) ⟨_, rfl, hv⟩ (fun r hr => ?_)
    subst hr
    have hb : ((!((V (D53 l i)).1 == 0) || (!((V (D53 l i)).2 == 0))) = true) ↔ ¬ (V (D53 l i)).1 = 0 := by
      constructor
      · intro h e
        rw [(hz e).1] at h
        simp at h
      · intro h
        simp [h]
    refine Fin.ite (fun h => Fin.some ?_) (fun h => ?_)
    · unfold LF
      rw [if_neg (hb.1 h)]
    · rw [wr h0 hlt (by omega)]
      unfold LF
      rw [if_pos (Classical.byContradiction fun e => h (hb.2 e))]
      exact ih hlt d (by omega))
  unfold symbols_Check.f
  refine Fin.ite (fun h => Fin.some (by rw [if_pos h])) (fun h => ?_)
  rw [if_neg h]
  exact key 0 (by omega) (by omega) _ (by omega)
def Shp (l : List S53) (q : List (List Bool)) : Prop := l.length = q.length ∧ ∀ i : Int, 0 ≤ i → i < (l.length : Int) → (D53 l i).f1.length = (rd_L24 q i).length
theorem shaped2_fin (l : List S53) (q : List (List Bool)) (hl : l.length ≤ 9223372036854775807) : Fin (fun k => symbols_Shaped.f k l q) (fun r => r = true ↔ Shp l q) := by
  unfold symbols_Shaped.f
  refine Fin.ite (fun he => ?_) (fun he => Fin.some ⟨fun h => (Bool.false_ne_true h).elim, fun h => absurd (show (q.length : Int) = l.length by rw [h.1]) he⟩)
  have key := upto (n := (l.length : Int)) (P := fun i => (∀ j : Int, 0 ≤ j → j < i → (D53 l j).f1.length = (rd_L24 q j).length) → Fin (fun k => symbols_Shaped.l0 k q l (l.length : Int) i) (fun r => r = true ↔ Shp l q)) (fun i h0 h1 ih hp => by
    refine Fin.step (fun k => by simp only [symbols_Shaped.l0]; rfl) ?_
    refine Fin.ite (fun hlt => ?_) (fun hge => Fin.some ⟨fun _ => ⟨by omega, fun j h2 h3 => hp j h2 (by omega)⟩, fun _ => rfl⟩)
    refine Fin.ite (fun _ => ?_) (fun h => absurd h0 h)
    refine Fin.ite (fun _ => ?_) (fun h => absurd hlt h)
    refine Fin.ite (fun _ => ?_) (fun h => absurd hlt (by omega))
    refine Fin.ite (fun e => ?_) (fun e => Fin.some ⟨fun h => (Bool.false_ne_true h).elim, fun h => absurd (h.2 i h0 hlt) (by omega)⟩)
    rw [wr h0 hlt (by omega)]
    refine ih hlt (fun j h2 h3 => ?_)
    by_cases e2 : j = i
    · subst e2; omega
    · exact hp j h2 (by omega))
  exact key 0 (by omega) (by omega) (fun j h2 h3 => absurd h3 (by omega))
/-- The fault of modules with kept sections. -/
noncomputable def KF (l : List S53) (q : List (List Bool)) : Int × Int := open Classical in
  let f := if (l.length : Int) > 8 then (2, -1) else LF l l.length 0
  if f.1 = 0 then (if Shp l q then (0, 0) else (9, -2)) else f
theorem KF_zero (l : List S53) (q : List (List Bool)) (hg : ∀ y ∈ l, G53 y) (h : (KF l q).1 = 0) : KF l q = (0, 0) ∧ l.length ≤ 8 ∧ Shp l q ∧ ∀ j : Int, 0 ≤ j → j < (l.length : Int) → ModOk (D53 l j) := by
  unfold KF at h ⊢
  by_cases h8 : (l.length : Int) > 8
  · simp only [if_pos h8] at h
    simp at h
  · simp only [if_neg h8] at h ⊢
    by_cases hz : (LF l l.length 0).1 = 0
    · rw [if_pos hz] at h ⊢
      by_cases hs : Shp l q
      · rw [if_pos hs]
        exact ⟨rfl, by omega, hs, fun j h0 h1 => (LF_zero l hg l.length 0 (by omega) (by omega) hz).2 j h0 h1⟩
      · rw [if_neg hs] at h
        exact absurd h (by decide)
    · rw [if_neg hz] at h
      exact absurd h hz
theorem checked_fin (l : List S53) (q : List (List Bool)) (hl : l.length ≤ 9223372036854775807) (hg : ∀ y ∈ l, G53 y) : Fin (fun k => symbols_Checked.f k l q) (fun r => r = KF l q) := by
  unfold symbols_Checked.f
  refine Fin.bind (check_fin l hl hg) (fun r hr => ?_)
  unfold KF
  rw [← hr]
  have hr0 : r.1 = 0 → r = (0, 0) := by
    intro hz
    rw [hr] at hz ⊢
    by_cases h8 : (l.length : Int) > 8
    · rw [if_pos h8] at hz
      exact absurd hz (by decide)
    · rw [if_neg h8] at hz ⊢
      exact (LF_zero l hg l.length 0 (by omega) (by omega) hz).1
  refine Fin.ite (fun hb => Fin.some ?_) (fun hb => ?_)
  · have hz : ¬ r.1 = 0 := by
      intro e
      rw [hr0 e] at hb
      simp at hb
    simp only [if_neg hz]
  · have hz : r.1 = 0 := by simp at hb; exact hb.1
    refine Fin.bind (shaped2_fin l q hl) (fun t ht => ?_)
    refine Fin.ite (fun h => Fin.some ?_) (fun h => Fin.some ?_)
    · simp only [if_pos hz, if_pos (ht.1 h)]
    · simp only [if_pos hz, if_neg (fun e => h (ht.2 e))]
end Go.Proofs.Ytdedefemggkobaa.Pure
