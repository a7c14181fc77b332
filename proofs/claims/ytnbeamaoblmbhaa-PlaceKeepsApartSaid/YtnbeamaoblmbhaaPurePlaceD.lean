/- The whole layout of package place as one plain function; and the law's closed example. -/
import Derived.Test.YtnbeamaoblmbhaaPurePlaceC
import Derived.Test.YtnbeamaoblmbhaaPPlacex13
namespace Go.Proofs.Ytnbeamaoblmbhaa.PurePlace
open Go.RowKit Go.Proofs.Ytnbeamaoblmbhaa.PPlace Go.Proofs.YtnbeamaoblmbhaaW.PrintWords Go.Proofs.YtnbeamaoblmbhaaW.PrintMore

def lay (outs : List S60) (rules : List S72) (items : List S62) : Res :=
  if (sfault outs rules).1 = 0 then (if (ifault items outs.length).1 = 0 then assign outs items else ([], [], (ifault items outs.length).1, (ifault items outs.length).2))
  else ([], [], (sfault outs rules).1, (sfault outs rules).2)
theorem layout (outs : List S60) (rules : List S72) (items : List S62) (h : G46 ⟨outs, rules⟩) : Ev (fun k => place_Layout.f k outs rules items) (lay outs rules items) := by
  unfold place_Layout.f lay
  refine Ev.bind (script_fault outs rules h) ?_
  by_cases c : (sfault outs rules).1 = 0
  · obtain ⟨e, hn, ho⟩ := sfault_ok c
    rw [if_pos c, e]
    refine Ev.if_neg' (by decide) (Ev.bind (place_ifault items outs.length) ?_)
    by_cases c2 : (ifault items outs.length).1 = 0
    · obtain ⟨e2, hl, hv⟩ := ifault_ok c2
      rw [if_pos c2, e2]
      refine Ev.if_neg' (by decide) ?_
      exact Ev.bind (place_assign outs rules items _ ho hv hl hn) (Ev.now (assign outs items))
    · rw [if_neg c2]
      exact Ev.if_pos' (by simp [c2]) (Ev.now _)
  · rw [if_neg c]
    exact Ev.if_pos' (by simp [c]) (Ev.now _)

theorem ints_same (xs : List Int) (h : xs.length ≤ 9223372036854775807) : Ev (fun k => law_ints.f k xs xs) true := by
  have L : ∀ d : Nat, ∀ i : Int, 0 ≤ i → i + d = xs.length → Ev (fun k => law_ints.l0 k xs xs i) true := by
    intro d
    induction d with
    | zero =>
      intro i h0 hi
      (apply Ev.step; focus (intro k; simp only [law_ints.l0]; exact rfl))
      exact Ev.if_neg' (by omega) (Ev.now _)
    | succ d ih =>
      intro i h0 hi
      (apply Ev.step; focus (intro k; simp only [law_ints.l0]; exact rfl))
      refine Ev.if_pos' (by omega) (Ev.if_pos' h0 (Ev.if_pos' (by omega) ?_))
      rw [w64 (n := i + 1) (by omega) (by omega)]
      exact ih (i + 1) (by omega) (by omega)
  unfold law_ints.f
  exact Ev.if_pos' rfl (L xs.length 0 (by omega) (by omega))
theorem spans_same (xs : List S58) (h : xs.length ≤ 9223372036854775807) : Ev (fun k => law_sameSpans.f k xs xs) true := by
  have L : ∀ d : Nat, ∀ i : Int, 0 ≤ i → i + d = xs.length → Ev (fun k => law_sameSpans.l0 k xs xs i) true := by
    intro d
    induction d with
    | zero =>
      intro i h0 hi
      (apply Ev.step; focus (intro k; simp only [law_sameSpans.l0]; exact rfl))
      exact Ev.if_neg' (by omega) (Ev.now _)
    | succ d ih =>
      intro i h0 hi
      (apply Ev.step; focus (intro k; simp only [law_sameSpans.l0]; exact rfl))
      refine Ev.if_pos' (by omega) (Ev.if_pos' h0 (Ev.if_pos' (by omega) (Ev.if_neg' (by simp) ?_)))
      rw [w64 (n := i + 1) (by omega) (by omega)]
      exact ih (i + 1) (by omega) (by omega)
  unfold law_sameSpans.f
  exact Ev.if_pos' rfl (L xs.length 0 (by omega) (by omega))

/-! The closed example. -/
def dO : List S60 := [⟨⟨#[116, 101, 120, 116]⟩, 256, 1, 5⟩, ⟨⟨#[99, 111, 110, 115, 116]⟩, (-1), 1, 1⟩, ⟨⟨#[100, 97, 116, 97]⟩, (-1), 1, 3⟩]
def dR : List S72 := [⟨⟨#[42]⟩, 1, 0⟩, ⟨⟨#[42]⟩, 2, 1⟩, ⟨⟨#[42]⟩, 3, 2⟩, ⟨⟨#[42]⟩, 4, 2⟩]
theorem dS : script_Default.f = some (dO, dR) := rfl
theorem dG : G46 ⟨dO, dR⟩ := by
  refine ⟨⟨by decide, ?_⟩, by decide, ?_⟩
  · intro y hy
    have : y = ⟨⟨#[116, 101, 120, 116]⟩, 256, 1, 5⟩ ∨ y = ⟨⟨#[99, 111, 110, 115, 116]⟩, (-1), 1, 1⟩ ∨ y = ⟨⟨#[100, 97, 116, 97]⟩, (-1), 1, 3⟩ := by simpa [dO] using hy
    rcases this with rfl | rfl | rfl <;> exact ⟨by decide, by decide, by decide, by decide⟩
  · intro y hy
    have : y = ⟨⟨#[42]⟩, 1, 0⟩ ∨ y = ⟨⟨#[42]⟩, 2, 1⟩ ∨ y = ⟨⟨#[42]⟩, 3, 2⟩ ∨ y = ⟨⟨#[42]⟩, 4, 2⟩ := by simpa [dR] using hy
    rcases this with rfl | rfl | rfl | rfl <;> exact ⟨by decide, by decide, by decide⟩
theorem ex1 : lay dO dR [⟨0, 3, 1⟩, ⟨0, 1, 2⟩, ⟨2, 4, 4⟩] = ([256, 260, 512], [⟨256, 5⟩, ⟨512, 0⟩, ⟨512, 4⟩], 0, 0) := by rfl
theorem ex2 : lay dO dR [⟨3, 0, 1⟩] = ([], [], 3, -100) := by rfl
theorem example_true : Ev (fun k => law_placesItems.f k) true := by
  unfold law_placesItems.f
  rw [dS]
  simp only [Option.bind_some]
  refine Ev.bind (layout dO dR _ dG) (Ev.bind (layout dO dR _ dG) ?_)
  rw [ex1, ex2]
  refine Ev.if_pos' rfl ?_
  simp only [ref_at, Option.bind_some]
  refine Ev.if_pos' rfl (Ev.bind (ints_same [256, 260, 512] (by decide)) ?_)
  exact Ev.now _
theorem lay_none (outs : List S60) (rules : List S72) (items : List S62) (h : (lay outs rules items).2.2.1 ≠ 0) : (lay outs rules items).1 = [] ∧ (lay outs rules items).2.1 = [] := by
  unfold lay at h ⊢
  by_cases c : (sfault outs rules).1 = 0
  · rw [if_pos c] at h ⊢
    by_cases c2 : (ifault items outs.length).1 = 0
    · rw [if_pos c2] at h ⊢
      have A : ∀ (d : Nat) (i c : Int) (os : List Int) (sp : List S58), (asO outs items d i c os sp).2.2.1 ≠ 0 → (asO outs items d i c os sp).1 = [] ∧ (asO outs items d i c os sp).2.1 = [] := by
        intro d
        induction d with
        | zero => intro i c os sp h; exact absurd rfl h
        | succ d ih =>
          intro i c os sp
          unfold asO
          split
          · intro _; exact ⟨rfl, rfl⟩
          · split
            · intro _; exact ⟨rfl, rfl⟩
            · exact ih _ _ _ _
      exact A _ _ _ _ _ h
    · rw [if_neg c2]; exact ⟨rfl, rfl⟩
  · rw [if_neg c]; exact ⟨rfl, rfl⟩
end Go.Proofs.Ytnbeamaoblmbhaa.PurePlace
