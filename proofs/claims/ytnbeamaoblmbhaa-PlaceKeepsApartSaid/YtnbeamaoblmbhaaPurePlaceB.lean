/- What package script, package place and their references compute as a fault of a script and of a list of items: one plain function for each pair. Condition: sizes below 2^63, as Go's own are. -/
import Derived.Test.YtnbeamaoblmbhaaPurePlaceA
import Derived.Test.YtnbeamaoblmbhaaPPlacex5
import Derived.Test.YtnbeamaoblmbhaaPPlacex10
namespace Go.Proofs.Ytnbeamaoblmbhaa.PurePlace
open Go.RowKit Go.Proofs.Ytnbeamaoblmbhaa.PPlace Go.Proofs.YtnbeamaoblmbhaaW.PrintWords Go.Proofs.YtnbeamaoblmbhaaW.PrintMore


theorem rd60_at (outs : List S60) (i : Int) (h : i.toNat < outs.length) : rd_T60 outs i = outs[i.toNat] := by
  unfold rd_T60; rw [List.getD_eq_getElem?_getD, List.getElem?_eq_getElem h]; rfl
theorem g60 {outs : List S60} (hg : ∀ y ∈ outs, G60 y) (i : Int) (h : i.toNat < outs.length) : G60 (rd_T60 outs i) := by
  rw [rd60_at outs i h]; exact hg _ (List.getElem_mem h)
theorem rd72_at (outs : List S72) (i : Int) (h : i.toNat < outs.length) : rd_T72 outs i = outs[i.toNat] := by
  unfold rd_T72; rw [List.getD_eq_getElem?_getD, List.getElem?_eq_getElem h]; rfl
theorem g72 {outs : List S72} (hg : ∀ y ∈ outs, G72 y) (i : Int) (h : i.toNat < outs.length) : G72 (rd_T72 outs i) := by
  rw [rd72_at outs i h]; exact hg _ (List.getElem_mem h)
theorem rd62_at (outs : List S62) (i : Int) (h : i.toNat < outs.length) : rd_T62 outs i = outs[i.toNat] := by
  unfold rd_T62; rw [List.getD_eq_getElem?_getD, List.getElem?_eq_getElem h]; rfl
theorem g62 {outs : List S62} (hg : ∀ y ∈ outs, G62 y) (i : Int) (h : i.toNat < outs.length) : G62 (rd_T62 outs i) := by
  rw [rd62_at outs i h]; exact hg _ (List.getElem_mem h)

/-! Outputs. -/
def dupN (outs : List S60) (s : ByteArray) : Nat → Int → Bool
  | 0, _ => false
  | d + 1, j => if (rd_T60 outs j).f0.data.toList = s.data.toList then true else dupN outs s d (j + 1)
def okO (o : S60) : Bool := decide (o.f1 = -1 ∨ (0 ≤ o.f1 ∧ o.f1 ≤ 1048575 ∧ Int.tmod o.f1 256 = 0)) && (pw o.f2 4096 && decide (1 ≤ o.f3 ∧ o.f3 ≤ 7))
def codeO (outs : List S60) (i : Int) : Int := if nameB (rd_T60 outs i).f0 = true then (if dupN outs (rd_T60 outs i).f0 i.toNat 0 = true then 7 else if okO (rd_T60 outs i) = true then 0 else 3) else 12
def sfO (outs : List S60) (r : Int × Int) : Nat → Int → Int × Int
  | 0, _ => r
  | d + 1, i => if codeO outs i = 0 then sfO outs r d (i + 1) else (codeO outs i, i)
/-! Rules. -/
def codeR (n : Int) (r : S72) : Int := if patB r.f0 = true then (if 0 ≤ r.f1 ∧ r.f1 ≤ 4 then (if 0 ≤ r.f2 ∧ r.f2 < n then 0 else 3) else 4) else 12
def sfR (rules : List S72) (n : Int) : Nat → Int → Int × Int
  | 0, _ => (0, 0)
  | d + 1, j => if codeR n (rd_T72 rules j) = 0 then sfR rules n d (j + 1) else (codeR n (rd_T72 rules j), -10 - j)
def sfault (outs : List S60) (rules : List S72) : Int × Int :=
  if 8 < outs.length then (2, -1) else sfO outs (if 12 < rules.length then (2, -2) else sfR rules outs.length rules.length 0) outs.length 0
/-! Items. -/
def okI (n : Int) (t : S62) : Bool := decide (0 ≤ t.f0 ∧ t.f0 < n) && (decide (0 ≤ t.f1 ∧ t.f1 ≤ 1048576) && pw t.f2 256)
def sfI (items : List S62) (n : Int) : Nat → Int → Int × Int
  | 0, _ => (0, 0)
  | d + 1, j => if okI n (rd_T62 items j) = true then sfI items n d (j + 1) else (3, -100 - j)
def ifault (items : List S62) (n : Int) : Int × Int := if 200 < items.length then (2, -3) else sfI items n items.length 0

theorem fidx_any {α : Type} (p : α → Bool) (l : List α) : decide (fidx p l ≥ 0) = l.any p := by
  unfold fidx
  rw [← List.findIdx?_isSome]
  cases l.findIdx? p with
  | none => rfl
  | some i => simp
theorem dup_any (outs : List S60) (s : ByteArray) (d : Nat) : ∀ j : Nat, j + d ≤ outs.length → dupN outs s d (j : Int) = ((outs.drop j).take d).any (fun x : S60 => x.f0.toList == s.toList) := by
  induction d with
  | zero => intro j _; rfl
  | succ d ih =>
    intro j hj
    have hl : j < outs.length := by omega
    rw [List.drop_eq_getElem_cons hl, List.take_succ_cons, List.any_cons]
    unfold dupN
    rw [rd60_at outs j (by omega), show ((j : Int) + 1) = ((j + 1 : Nat) : Int) by omega, ih (j + 1) (by omega)]
    simp only [Int.toNat_natCast, Lib.toList_data]
    by_cases c : outs[j].f0.data.toList = s.data.toList
    · rw [if_pos c, c, beq_self_eq_true, Bool.true_or]
    · rw [if_neg c, beq_eq_false_iff_ne.2 c, Bool.false_or]
theorem cf_dup (outs : List S60) (s : ByteArray) (i : Int) (h : i.toNat ≤ outs.length) : cf47_48.f (outs.take i.toNat) s = some (dupN outs s i.toNat 0) := by
  unfold cf47_48.f
  rw [fidx_any, show (0 : Int) = ((0 : Nat) : Int) by rfl, dup_any outs s i.toNat 0 (by omega), List.drop_zero]

theorem out_j1 (x : Bool) (s : ByteArray) (a b c : Int) : Ev (fun k => script_output.j1 k x s a b c) (if x = true then 3 else if 1 ≤ c ∧ c ≤ 7 then 0 else 3) := by
  refine Ev.step (f := fun _ => some (if x = true then 3 else if 1 ≤ c ∧ c ≤ 7 then 0 else 3)) (fun k => ?_) (Ev.now _)
  simp only [script_output.j1]
  cases x
  · simp only [Bool.false_eq_true, if_false]
    by_cases h1 : c < 1
    · rw [if_pos h1, if_neg (by omega)]
    · rw [if_neg h1]
      by_cases h2 : c > 7
      · rw [if_pos h2, if_neg (by omega)]
      · rw [if_neg h2, if_pos (by omega)]
  · simp
theorem out_j0 (x : Bool) (s : ByteArray) (a b c : Int) : Ev (fun k => script_output.j0 k x s a b c) (if x = true then 3 else if (pw b 4096 && decide (1 ≤ c ∧ c ≤ 7)) = true then 0 else 3) := by
  (apply Ev.step; focus (intro k; simp only [script_output.j0]; exact rfl))
  by_cases hx : x = true
  · rw [if_pos hx]; exact Ev.if_pos' hx (Ev.now _)
  · rw [if_neg hx]
    refine Ev.if_neg' hx ?_
    by_cases h1 : b < 1
    · refine Ev.if_pos' h1 ?_
      have e : pw b 4096 = false := by unfold pw; rw [decide_eq_false (by omega)]; rfl
      rw [e]
      exact out_j1 true s a b c
    · refine Ev.if_neg' h1 ?_
      by_cases h2 : b > 4096
      · refine Ev.if_pos' h2 ?_
        have e : pw b 4096 = false := by unfold pw; rw [decide_eq_false (by omega)]; rfl
        rw [e]
        exact out_j1 true s a b c
      · refine Ev.if_neg' h2 ?_
        rw [w64 (n := b - 1) (by omega) (by omega)]
        have := out_j1 (Go.bits .and .i64 b (b - 1) != 0) s a b c
        have e : pw b 4096 = (Go.bits .and .i64 b (b - 1) == 0) := by unfold pw; rw [decide_eq_true (by omega)]; rfl
        rw [e]
        by_cases q : Go.bits .and .i64 b (b - 1) = 0
        · rw [q] at this ⊢; simpa using this
        · simpa [q] using this
theorem script_code (outs : List S60) (rules : List S72) (hg : ∀ y ∈ outs, G60 y) (i : Int) (h0 : 0 ≤ i) (h1 : i < (outs.length : Int)) : Ev (fun k => script_output.f k outs rules i) (codeO outs i) := by
  have hG := g60 hg i (by omega)
  have hd := cf_dup outs (rd_T60 outs i).f0 i (by omega)
  unfold script_output.f codeO
  refine Ev.if_pos' h0 (Ev.if_pos' h1 (Ev.bind (script_nameB _ hG.1) ?_))
  by_cases c : nameB (rd_T60 outs i).f0 = true
  · rw [if_pos c]
    refine Ev.if_pos' c (Ev.if_pos' (by omega) ?_)
    rw [hd]
    simp only [Option.bind_some]
    by_cases c2 : dupN outs (rd_T60 outs i).f0 i.toNat 0 = true
    · rw [if_pos c2]; exact Ev.if_pos' c2 (Ev.now _)
    · rw [if_neg c2]
      refine Ev.if_neg' c2 ?_
      generalize rd_T60 outs i = o
      unfold okO
      by_cases c3 : o.f1 = -1
      · refine Ev.if_pos' c3 ?_
        rw [decide_eq_true (Or.inl c3)]
        exact out_j0 false _ _ _ _
      · refine Ev.if_neg' c3 ?_
        by_cases c4 : o.f1 < 0
        · refine Ev.if_pos' c4 ?_
          rw [decide_eq_false (by omega)]
          exact out_j0 true _ _ _ _
        · refine Ev.if_neg' c4 ?_
          by_cases c5 : o.f1 ≥ 1048576
          · refine Ev.if_pos' c5 ?_
            rw [decide_eq_false (by omega)]
            exact out_j0 true _ _ _ _
          · refine Ev.if_neg' c5 ?_
            by_cases c6 : Int.tmod o.f1 256 = 0
            · rw [decide_eq_true (Or.inr ⟨by omega, by omega, c6⟩), c6]
              exact out_j0 false _ _ _ _
            · rw [decide_eq_false (by omega), show (Int.tmod o.f1 256 != 0) = true by simp [c6]]
              exact out_j0 true _ _ _ _
  · rw [if_neg c]; exact Ev.if_neg' c (Ev.now _)
theorem script_rules (outs : List S60) (rules : List S72) (hg : ∀ y ∈ rules, G72 y) (hm : rules.length ≤ 12) (d : Nat) : ∀ j : Int, 0 ≤ j → j + d = rules.length →
    Ev (fun k => script_Validate.l1 k rules rules.length j outs rules) (sfR rules outs.length d j) := by
  induction d with
  | zero =>
    intro j h0 hj
    (apply Ev.step; focus (intro k; simp only [script_Validate.l1]; exact rfl))
    exact Ev.if_neg' (by omega) (Ev.now _)
  | succ d ih =>
    intro j h0 hj
    have hG := g72 hg j (by omega)
    (apply Ev.step; focus (intro k; simp only [script_Validate.l1]; exact rfl))
    refine Ev.if_pos' (by omega) (Ev.if_pos' h0 (Ev.if_pos' (by omega) (Ev.bind (script_patB _ hG.1) ?_)))
    unfold sfR
    rw [w64 (n := -10 - j) (by omega) (by omega)]
    have ih' := ih (j + 1) (by omega) (by omega)
    generalize rd_T72 rules j = r at *
    have hj2 : ∀ x, Ev (fun k => script_Validate.j2 k j rules rules.length j x outs rules r.f0 r.f1 r.f2) (if x = true then (4, -10 - j) else if 0 ≤ r.f2 ∧ r.f2 < (outs.length : Int) then sfR rules outs.length d (j + 1) else (3, -10 - j)) := by
      intro x
      (apply Ev.step; focus (intro k; simp only [script_Validate.j2]; exact rfl))
      rw [w64 (n := -10 - j) (by omega) (by omega), w64 (n := j + 1) (by omega) (by omega)]
      by_cases hx : x = true
      · rw [if_pos hx]; exact Ev.if_pos' hx (Ev.now _)
      · rw [if_neg hx]
        refine Ev.if_neg' hx ?_
        by_cases h1 : r.f2 < 0
        · rw [if_neg (by omega)]; exact Ev.if_pos' h1 (Ev.now _)
        · refine Ev.if_neg' h1 ?_
          by_cases h2 : r.f2 ≥ (outs.length : Int)
          · rw [if_neg (by omega)]; exact Ev.if_pos' h2 (Ev.now _)
          · rw [if_pos (by omega)]; exact Ev.if_neg' h2 ih'
    have e4 : ¬ (0 ≤ r.f1 ∧ r.f1 ≤ 4) → patB r.f0 = true → codeR outs.length r = 4 := fun h c => by unfold codeR; rw [if_pos c, if_neg h]
    by_cases c : patB r.f0 = true
    · refine Ev.if_pos' c ?_
      by_cases h1 : r.f1 < 0
      · refine Ev.if_pos' h1 ?_
        rw [e4 (by omega) c, if_neg (by decide)]
        exact hj2 true
      · refine Ev.if_neg' h1 ?_
        by_cases h2 : r.f1 > 4
        · rw [e4 (by omega) c, if_neg (by decide), decide_eq_true h2]
          exact hj2 true
        · rw [decide_eq_false h2]
          have := hj2 false
          rw [if_neg (by decide)] at this
          by_cases h3 : 0 ≤ r.f2 ∧ r.f2 < (outs.length : Int)
          · have e : codeR outs.length r = 0 := by unfold codeR; rw [if_pos c, if_pos (by omega), if_pos h3]
            rw [if_pos h3] at this
            rw [e, if_pos rfl]
            exact this
          · have e : codeR outs.length r = 3 := by unfold codeR; rw [if_pos c, if_pos (by omega), if_neg h3]
            rw [if_neg h3] at this
            rw [e, if_neg (by decide)]
            exact this
    · have e : codeR outs.length r = 12 := by unfold codeR; rw [if_neg c]
      rw [e, if_neg (by decide)]
      exact Ev.if_neg' c (Ev.now _)
theorem script_outs (outs : List S60) (rules : List S72) (ho : ∀ y ∈ outs, G60 y) (hg : ∀ y ∈ rules, G72 y) (hn : outs.length ≤ 8) (d : Nat) : ∀ i : Int, 0 ≤ i → i + d = outs.length →
    Ev (fun k => script_Validate.l0 k outs.length i outs rules) (sfO outs (if 12 < rules.length then (2, -2) else sfR rules outs.length rules.length 0) d i) := by
  induction d with
  | zero =>
    intro i h0 hi
    (apply Ev.step; focus (intro k; simp only [script_Validate.l0]; exact rfl))
    refine Ev.if_neg' (by omega) ?_
    unfold sfO
    by_cases c : 12 < rules.length
    · rw [if_pos c]; exact Ev.if_pos' (by omega) (Ev.now _)
    · rw [if_neg c]
      exact Ev.if_neg' (by omega) (script_rules outs rules hg (by omega) rules.length 0 (by omega) (by omega))
  | succ d ih =>
    intro i h0 hi
    (apply Ev.step; focus (intro k; simp only [script_Validate.l0]; exact rfl))
    refine Ev.if_pos' (by omega) (Ev.bind (script_code outs rules ho i h0 (by omega)) ?_)
    rw [w64 (n := i + 1) (by omega) (by omega)]
    unfold sfO
    by_cases c : codeO outs i = 0
    · rw [if_pos c]; exact Ev.if_pos' c (ih (i + 1) (by omega) (by omega))
    · rw [if_neg c]; exact Ev.if_neg' c (Ev.now _)
theorem script_fault (outs : List S60) (rules : List S72) (h : G46 ⟨outs, rules⟩) : Ev (fun k => script_Validate.f k outs rules) (sfault outs rules) := by
  obtain ⟨⟨_, ho⟩, _, hr⟩ := h
  unfold script_Validate.f sfault
  by_cases c : 8 < outs.length
  · rw [if_pos c]; exact Ev.if_pos' (by omega) (Ev.now _)
  · rw [if_neg c]; exact Ev.if_neg' (by omega) (script_outs outs rules ho hr (by omega) outs.length 0 (by omega) (by omega))

/-! The reference. -/
theorem ref_rules (outs : List S60) (rules : List S72) (hg : ∀ y ∈ rules, G72 y) (hn : outs.length ≤ 8) (hm : rules.length ≤ 12) (d : Nat) : ∀ j : Int, 0 ≤ j → j + d = rules.length →
    Ev (fun k => ref_ScriptFault.l2 k j outs rules) (sfR rules outs.length d j) := by
  induction d with
  | zero =>
    intro j h0 hj
    (apply Ev.step; focus (intro k; simp only [ref_ScriptFault.l2]; exact rfl))
    exact Ev.if_neg' (by omega) (Ev.now _)
  | succ d ih =>
    intro j h0 hj
    have hG := g72 hg j (by omega)
    (apply Ev.step; focus (intro k; simp only [ref_ScriptFault.l2]; exact rfl))
    refine Ev.if_pos' (by omega) (Ev.if_pos' h0 (Ev.bind (ref_patB _ hG.1) ?_))
    unfold sfR codeR
    rw [w64 (n := -10 - j) (by omega) (by omega), w64 (n := j + 1) (by omega) (by omega), w64 (n := (outs.length : Int) - 1) (by omega) (by omega)]
    have ih' := ih (j + 1) (by omega) (by omega)
    generalize rd_T72 rules j = r at *
    simp only [ref_in, ref_at, Option.bind_some, decide_eq_true_eq]
    by_cases c : patB r.f0 = true
    · rw [if_pos c]
      refine Ev.if_pos' c ?_
      by_cases h1 : 0 ≤ r.f1 ∧ r.f1 ≤ 4
      · rw [if_pos h1]
        refine Ev.if_pos' h1 ?_
        by_cases h2 : 0 ≤ r.f2 ∧ r.f2 < (outs.length : Int)
        · rw [if_pos h2]
          exact Ev.if_pos' (by omega) ih'
        · rw [if_neg h2]
          exact Ev.if_neg' (by omega) (Ev.now _)
      · rw [if_neg h1]
        exact Ev.if_neg' h1 (Ev.now _)
    · rw [if_neg c]; exact Ev.if_neg' c (Ev.now _)
theorem ref_dup (outs : List S60) (rules : List S72) (i : Int) (o : S60) (R : Int × Int) (hi : i < (outs.length : Int)) (hn : outs.length ≤ 8) (hR : Ev (fun k => ref_ScriptFault.l0 k (wrap64 (i + 1)) outs rules) R) (d : Nat) : ∀ j : Int, 0 ≤ j → j + d = i →
    Ev (fun k => ref_ScriptFault.l1 k i j outs rules o.f0 o.f1 o.f2 o.f3) (if dupN outs o.f0 d j = true then (7, i) else if okO o = true then R else (3, i)) := by
  induction d with
  | zero =>
    intro j h0 hj
    (apply Ev.step; focus (intro k; simp only [ref_ScriptFault.l1]; exact rfl))
    refine Ev.if_neg' (by omega) ?_
    simp only [ref_in, ref_at, Option.bind_some, decide_eq_true_eq, dupN, Bool.false_eq_true, if_false]
    have pwE := ref_pw o.f2 4096 (Or.inl rfl)
    have tail : Ev (fun k => (ref_Power.f k o.f2 4096).bind fun t120 => if t120 = true then (if 1 ≤ o.f3 ∧ o.f3 ≤ 7 then ref_ScriptFault.l0 k (wrap64 (i + 1)) outs rules else some (3, i)) else some (3, i)) (if (pw o.f2 4096 && decide (1 ≤ o.f3 ∧ o.f3 ≤ 7)) = true then R else (3, i)) := by
      refine Ev.bind pwE ?_
      by_cases c : pw o.f2 4096 = true
      · rw [c]
        refine Ev.if_pos' rfl ?_
        by_cases c2 : 1 ≤ o.f3 ∧ o.f3 ≤ 7
        · simp only [c2, and_self, decide_true, Bool.and_true, if_true]; exact hR
        · simp only [c2, decide_false, Bool.and_false, if_false, Bool.false_eq_true]; exact Ev.now _
      · rw [Bool.not_eq_true] at c
        rw [c]
        exact Ev.if_neg' (by decide) (Ev.now _)
    unfold okO
    by_cases c1 : o.f1 = -1
    · refine Ev.if_pos' c1 ?_
      rw [decide_eq_true (Or.inl c1), Bool.true_and]
      exact tail
    · refine Ev.if_neg' c1 ?_
      by_cases c2 : 0 ≤ o.f1 ∧ o.f1 ≤ 1048575
      · refine Ev.if_pos' c2 ?_
        by_cases c3 : Int.tmod o.f1 256 = 0
        · refine Ev.if_pos' c3 ?_
          rw [decide_eq_true (Or.inr ⟨c2.1, c2.2, c3⟩), Bool.true_and]
          exact tail
        · refine Ev.if_neg' c3 ?_
          rw [decide_eq_false (by omega), Bool.false_and]
          exact Ev.now _
      · refine Ev.if_neg' c2 ?_
        rw [decide_eq_false (by omega), Bool.false_and]
        exact Ev.now _
  | succ d ih =>
    intro j h0 hj
    (apply Ev.step; focus (intro k; simp only [ref_ScriptFault.l1]; exact rfl))
    refine Ev.if_pos' (by omega) (Ev.if_pos' h0 (Ev.if_pos' (by omega) ?_))
    unfold dupN
    rw [w64 (n := j + 1) (by omega) (by omega)]
    simp only [Lib.toList_data]
    by_cases c : (rd_T60 outs j).f0.data.toList = o.f0.data.toList
    · rw [if_pos c, if_pos rfl]
      refine Ev.if_pos' c ?_
      simp only [ref_at, Option.bind_some]
      exact Ev.now _
    · rw [if_neg c]
      exact Ev.if_neg' c (ih (j + 1) (by omega) (by omega))
theorem ref_outs (outs : List S60) (rules : List S72) (ho : ∀ y ∈ outs, G60 y) (hg : ∀ y ∈ rules, G72 y) (hn : outs.length ≤ 8) (d : Nat) : ∀ i : Int, 0 ≤ i → i + d = outs.length →
    Ev (fun k => ref_ScriptFault.l0 k i outs rules) (sfO outs (if 12 < rules.length then (2, -2) else sfR rules outs.length rules.length 0) d i) := by
  induction d with
  | zero =>
    intro i h0 hi
    (apply Ev.step; focus (intro k; simp only [ref_ScriptFault.l0]; exact rfl))
    refine Ev.if_neg' (by omega) ?_
    unfold sfO
    simp only [ref_at, Option.bind_some]
    by_cases c : 12 < rules.length
    · rw [if_pos c]; exact Ev.if_pos' (by omega) (Ev.now _)
    · rw [if_neg c]
      exact Ev.if_neg' (by omega) (ref_rules outs rules hg hn (by omega) rules.length 0 (by omega) (by omega))
  | succ d ih =>
    intro i h0 hi
    have hG := g60 ho i (by omega)
    (apply Ev.step; focus (intro k; simp only [ref_ScriptFault.l0]; exact rfl))
    refine Ev.if_pos' (by omega) (Ev.if_pos' h0 (Ev.bind (ref_nameB _ hG.1) ?_))
    have ih' := ih (i + 1) (by omega) (by omega)
    rw [← w64 (n := i + 1) (by omega) (by omega)] at ih'
    have hd := ref_dup outs rules i (rd_T60 outs i) _ (by omega) hn ih' i.toNat 0 (by omega) (by omega)
    unfold sfO codeO
    by_cases c : nameB (rd_T60 outs i).f0 = true
    · rw [if_pos c]
      refine Ev.if_pos' c ?_
      rw [w64 (n := i + 1) (by omega) (by omega)] at hd
      by_cases c2 : dupN outs (rd_T60 outs i).f0 i.toNat 0 = true
      · rw [if_pos c2] at hd ⊢
        exact hd
      · rw [if_neg c2] at hd ⊢
        by_cases c3 : okO (rd_T60 outs i) = true
        · rw [if_pos c3] at hd ⊢
          exact hd
        · rw [if_neg c3] at hd ⊢
          exact hd
    · rw [if_neg c]
      simp only [ref_at, Option.bind_some]
      exact Ev.if_neg' c (Ev.now _)
theorem ref_fault (outs : List S60) (rules : List S72) (h : G46 ⟨outs, rules⟩) : Ev (fun k => ref_ScriptFault.f k outs rules) (sfault outs rules) := by
  obtain ⟨⟨_, ho⟩, _, hr⟩ := h
  unfold ref_ScriptFault.f sfault
  simp only [ref_at, Option.bind_some]
  by_cases c : 8 < outs.length
  · rw [if_pos c]; exact Ev.if_pos' (by omega) (Ev.now _)
  · rw [if_neg c]; exact Ev.if_neg' (by omega) (ref_outs outs rules ho hr (by omega) outs.length 0 (by omega) (by omega))

/-! Items. -/
theorem ref_items (items : List S62) (n : Nat) (hn : n ≤ 8) (hm : items.length ≤ 200) (d : Nat) : ∀ j : Int, 0 ≤ j → j + d = items.length →
    Ev (fun k => ref_ItemsFault.l0 k items n j) (sfI items n d j) := by
  induction d with
  | zero =>
    intro j h0 hj
    (apply Ev.step; focus (intro k; simp only [ref_ItemsFault.l0]; exact rfl))
    exact Ev.if_neg' (by omega) (Ev.now _)
  | succ d ih =>
    intro j h0 hj
    (apply Ev.step; focus (intro k; simp only [ref_ItemsFault.l0]; exact rfl))
    refine Ev.if_pos' (by omega) (Ev.if_pos' h0 ?_)
    unfold sfI okI
    rw [w64 (n := -100 - j) (by omega) (by omega), w64 (n := j + 1) (by omega) (by omega), w64 (n := (n : Int) - 1) (by omega) (by omega)]
    have ih' := ih (j + 1) (by omega) (by omega)
    generalize rd_T62 items j = r at *
    simp only [ref_in, ref_at, Option.bind_some, decide_eq_true_eq]
    by_cases h1 : 0 ≤ r.f0 ∧ r.f0 < (n : Int)
    · refine Ev.if_pos' (by omega) ?_
      rw [decide_eq_true h1, Bool.true_and]
      by_cases h2 : 0 ≤ r.f1 ∧ r.f1 ≤ 1048576
      · refine Ev.if_pos' h2 (Ev.bind (ref_pw r.f2 256 (Or.inr rfl)) ?_)
        rw [decide_eq_true h2, Bool.true_and]
        by_cases h3 : pw r.f2 256 = true
        · rw [if_pos h3]; exact Ev.if_pos' h3 ih'
        · rw [if_neg h3]; exact Ev.if_neg' h3 (Ev.now _)
      · rw [decide_eq_false h2, Bool.false_and]
        exact Ev.if_neg' h2 (Ev.now _)
    · rw [decide_eq_false h1, Bool.false_and]
      exact Ev.if_neg' (by omega) (Ev.now _)
theorem ref_ifault (items : List S62) (n : Nat) (hn : n ≤ 8) : Ev (fun k => ref_ItemsFault.f k items n) (ifault items n) := by
  unfold ref_ItemsFault.f ifault
  simp only [ref_at, Option.bind_some]
  by_cases c : 200 < items.length
  · rw [if_pos c]; exact Ev.if_pos' (by omega) (Ev.now _)
  · rw [if_neg c]; exact Ev.if_neg' (by omega) (ref_items items n hn (by omega) items.length 0 (by omega) (by omega))
theorem okI_f {n : Int} {r : S62} (h : ¬ (0 ≤ r.f0 ∧ r.f0 < n) ∨ ¬ (0 ≤ r.f1 ∧ r.f1 ≤ 1048576)) : okI n r = false := by
  unfold okI
  rcases h with h | h
  · rw [decide_eq_false h, Bool.false_and]
  · rw [decide_eq_false h, Bool.false_and, Bool.and_false]
theorem okI_t {n : Int} {r : S62} (h1 : 0 ≤ r.f0 ∧ r.f0 < n) (h2 : 0 ≤ r.f1 ∧ r.f1 ≤ 1048576) : okI n r = pw r.f2 256 := by
  unfold okI
  rw [decide_eq_true h1, decide_eq_true h2, Bool.true_and, Bool.true_and]
theorem place_items (items : List S62) (n : Nat) (hm : items.length ≤ 200) (d : Nat) : ∀ j : Int, 0 ≤ j → j + d = items.length →
    Ev (fun k => place_Items.l0 k n items items.length j) (sfI items n d j) := by
  induction d with
  | zero =>
    intro j h0 hj
    (apply Ev.step; focus (intro k; simp only [place_Items.l0]; exact rfl))
    exact Ev.if_neg' (by omega) (Ev.now _)
  | succ d ih =>
    intro j h0 hj
    (apply Ev.step; focus (intro k; simp only [place_Items.l0]; exact rfl))
    refine Ev.if_pos' (by omega) (Ev.if_pos' h0 (Ev.if_pos' (by omega) ?_))
    unfold sfI
    have ih' := ih (j + 1) (by omega) (by omega)
    generalize rd_T62 items j = r at *
    have hj1 : ∀ x, Ev (fun k => place_Items.j1 k n j items items.length j x r.f0 r.f1 r.f2) (if (!x && pw r.f2 256) = true then sfI items n d (j + 1) else (3, -100 - j)) := by
      intro x
      (apply Ev.step; focus (intro k; simp only [place_Items.j1]; exact rfl))
      rw [w64 (n := -100 - j) (by omega) (by omega), w64 (n := j + 1) (by omega) (by omega)]
      by_cases hx : x = true
      · rw [hx, if_neg (by simp)]; exact Ev.if_pos' rfl (Ev.now _)
      · rw [Bool.not_eq_true] at hx
        rw [hx]
        refine Ev.if_neg' (by decide) ?_
        rw [Bool.not_false, Bool.true_and]
        unfold pw
        by_cases h1 : r.f2 < 1
        · rw [decide_eq_false (by omega), if_neg (by simp)]; exact Ev.if_pos' h1 (Ev.now _)
        · refine Ev.if_neg' h1 ?_
          by_cases h2 : r.f2 > 256
          · rw [decide_eq_false (by omega), if_neg (by simp)]; exact Ev.if_pos' h2 (Ev.now _)
          · refine Ev.if_neg' h2 ?_
            rw [decide_eq_true (by omega), Bool.true_and, w64 (n := r.f2 - 1) (by omega) (by omega)]
            by_cases h3 : Go.bits .and .i64 r.f2 (r.f2 - 1) = 0
            · rw [if_pos (by simpa using h3)]; exact Ev.if_pos' h3 ih'
            · rw [if_neg (by simpa using h3)]; exact Ev.if_neg' h3 (Ev.now _)
    by_cases h1 : r.f0 < 0
    · rw [okI_f (Or.inl (by omega))]; exact Ev.if_pos' h1 (hj1 true)
    · refine Ev.if_neg' h1 ?_
      by_cases h2 : r.f0 ≥ (n : Int)
      · rw [okI_f (Or.inl (by omega))]; exact Ev.if_pos' h2 (hj1 true)
      · refine Ev.if_neg' h2 ?_
        by_cases h3 : r.f1 < 0
        · rw [okI_f (Or.inr (by omega))]; exact Ev.if_pos' h3 (hj1 true)
        · refine Ev.if_neg' h3 ?_
          by_cases h4 : r.f1 > 1048576
          · rw [decide_eq_true h4, okI_f (Or.inr (by omega))]; exact hj1 true
          · rw [decide_eq_false h4, okI_t (by omega) (by omega)]; exact hj1 false
theorem place_ifault (items : List S62) (n : Nat) : Ev (fun k => place_Items.f k items n) (ifault items n) := by
  unfold place_Items.f ifault
  by_cases c : 200 < items.length
  · rw [if_pos c]; exact Ev.if_pos' (by omega) (Ev.now _)
  · rw [if_neg c]; exact Ev.if_neg' (by omega) (place_items items n (by omega) items.length 0 (by omega) (by omega))
end Go.Proofs.Ytnbeamaoblmbhaa.PurePlace
