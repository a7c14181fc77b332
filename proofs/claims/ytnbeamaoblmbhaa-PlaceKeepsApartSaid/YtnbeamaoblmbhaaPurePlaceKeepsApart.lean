/- The law PlaceKeepsApart in plain Lean: the layout's spans follow one another within the limit, and no two items meet. -/
import Derived.Test.YtnbeamaoblmbhaaPurePlaceD
import Derived.Test.YtnbeamaoblmbhaaPPlacex15
namespace Go.Proofs.Ytnbeamaoblmbhaa.Pure
open Go.RowKit Go.Proofs.Ytnbeamaoblmbhaa.PPlace Go.Proofs.Ytnbeamaoblmbhaa.PurePlace Go.Proofs.YtnbeamaoblmbhaaW.PrintWords Go.Proofs.YtnbeamaoblmbhaaW.PrintMore

theorem rd_set_ne (os : List Int) (j q : Int) (v : Int) (h : q ≠ j) (h0 : 0 ≤ q) (h1 : 0 ≤ j) : rd (os.set j.toNat v) q = rd os q := by
  unfold rd
  rw [List.getD_eq_getElem?_getD, List.getD_eq_getElem?_getD, List.getElem?_set_ne (by omega)]
theorem rd58_old (sp : List S58) (v : S58) (q : Int) (h : q.toNat < sp.length) : rd_T58 (sp ++ [v]) q = rd_T58 sp q := by
  unfold rd_T58
  rw [List.getD_eq_getElem?_getD, List.getD_eq_getElem?_getD, List.getElem?_append_left h]
theorem rd58_new (sp : List S58) (v : S58) (q : Int) (h : q.toNat = sp.length) : rd_T58 (sp ++ [v]) q = v := by
  unfold rd_T58
  rw [List.getD_eq_getElem?_getD, h, List.getElem?_append_right (Nat.le_refl _), Nat.sub_self]
  rfl

structure J (items : List S62) (os0 os : List Int) (i s j c : Int) : Prop where
  len : os.length = items.length
  cs : s ≤ c
  u : ∀ q : Int, 0 ≤ q → q < items.length → (rd_T62 items q).f0 < i → rd os q = rd os0 q
  b : ∀ q : Int, 0 ≤ q → q < items.length → ((rd_T62 items q).f0 < i ∨ ((rd_T62 items q).f0 = i ∧ q < j)) → 0 ≤ rd os q ∧ rd os q % (rd_T62 items q).f2 = 0 ∧ rd os q + (rd_T62 items q).f1 ≤ c
  l : ∀ q : Int, 0 ≤ q → q < items.length → (rd_T62 items q).f0 = i → q < j → s ≤ rd os q
  p : ∀ q r : Int, 0 ≤ q → q < items.length → ((rd_T62 items q).f0 < i ∨ ((rd_T62 items q).f0 = i ∧ q < j)) → 0 ≤ r → r < items.length → ((rd_T62 items r).f0 < i ∨ ((rd_T62 items r).f0 = i ∧ r < j)) → q ≠ r →
    rd os q + (rd_T62 items q).f1 ≤ rd os r ∨ rd os r + (rd_T62 items r).f1 ≤ rd os q
theorem J_end (items : List S62) (os0 : List Int) (i s n : Int) (hv : ∀ j : Int, 0 ≤ j → j < items.length → VI n (rd_T62 items j)) (hs : 0 ≤ s) (d : Nat) :
    ∀ (j c : Int) (os : List Int), 0 ≤ j → j + d = items.length → J items os0 os i s j c → J items os0 (asI items i d j c os).2 i s items.length (asI items i d j c os).1 := by
  induction d with
  | zero =>
    intro j c os h0 hj H
    have e : j = items.length := by omega
    subst e
    exact H
  | succ d ih =>
    intro j c os h0 hj H
    have V := hv j h0 (by omega)
    have U := up_prop c _ V.c0
    have hb0 := V.b0
    have hc := H.cs
    have hlen := H.len
    unfold asI
    by_cases h : (rd_T62 items j).f0 = i
    · rw [if_pos h]
      refine ih (j + 1) _ _ (by omega) (by omega) ?_
      have hn : rd (os.set j.toNat (up c (rd_T62 items j).f2)) j = up c (rd_T62 items j).f2 := rd_set os j _ (by omega)
      have ho : ∀ q : Int, 0 ≤ q → q ≠ j → rd (os.set j.toNat (up c (rd_T62 items j).f2)) q = rd os q := fun q hq hne => rd_set_ne os j q _ hne hq h0
      refine ⟨by rw [List.length_set]; exact hlen, by omega, ?_, ?_, ?_, ?_⟩
      · intro q h1 h2 h3
        have : q ≠ j := fun e => by rw [e] at h3; omega
        rw [ho q h1 this]; exact H.u q h1 h2 h3
      · intro q h1 h2 h3
        by_cases e : q = j
        · subst e; rw [hn]; exact ⟨by omega, U.2.2, by omega⟩
        · rw [ho q h1 e]
          have := H.b q h1 h2 (by omega)
          exact ⟨this.1, this.2.1, by omega⟩
      · intro q h1 h2 h3 h4
        by_cases e : q = j
        · subst e; rw [hn]; omega
        · rw [ho q h1 e]; exact H.l q h1 h2 h3 (by omega)
      · intro q r h1 h2 h3 h4 h5 h6 h7
        by_cases e : q = j
        · subst e
          have e2 : r ≠ q := fun e => h7 e.symm
          rw [hn, ho r h4 e2]
          have := H.b r h4 h5 (by omega)
          right; omega
        · by_cases e2 : r = j
          · subst e2
            rw [hn, ho q h1 e]
            have := H.b q h1 h2 (by omega)
            left; omega
          · rw [ho q h1 e, ho r h4 e2]
            exact H.p q r h1 h2 (by omega) h4 h5 (by omega) h7
    · rw [if_neg h]
      refine ih (j + 1) _ _ (by omega) (by omega) ⟨hlen, hc, H.u, ?_, ?_, ?_⟩
      · intro q h1 h2 h3
        refine H.b q h1 h2 ?_
        rcases h3 with h3 | h3
        · exact Or.inl h3
        · have : q ≠ j := fun e => by rw [e] at h3; exact h h3.1
          exact Or.inr ⟨h3.1, by omega⟩
      · intro q h1 h2 h3 h4
        have : q ≠ j := fun e => by rw [e] at h3; exact h h3
        exact H.l q h1 h2 h3 (by omega)
      · intro q r h1 h2 h3 h4 h5 h6 h7
        refine H.p q r h1 h2 ?_ h4 h5 ?_ h7
        · rcases h3 with h3 | h3
          · exact Or.inl h3
          · have : q ≠ j := fun e => by rw [e] at h3; exact h h3.1
            exact Or.inr ⟨h3.1, by omega⟩
        · rcases h6 with h3 | h3
          · exact Or.inl h3
          · have : r ≠ j := fun e => by rw [e] at h3; exact h h3.1
            exact Or.inr ⟨h3.1, by omega⟩

structure K (outs : List S60) (items : List S62) (os : List Int) (sp : List S58) (i c : Int) : Prop where
  len : os.length = items.length
  spl : sp.length = i.toNat
  cb : c ≤ 1048576
  s : ∀ q : Int, 0 ≤ q → q < i → 0 ≤ (rd_T58 sp q).f0 ∧ 0 ≤ (rd_T58 sp q).f1 ∧ (rd_T58 sp q).f0 + (rd_T58 sp q).f1 ≤ c ∧ (0 < q → (rd_T58 sp (q - 1)).f0 + (rd_T58 sp (q - 1)).f1 ≤ (rd_T58 sp q).f0) ∧ (0 ≤ (rd_T60 outs q).f1 → (rd_T58 sp q).f0 = (rd_T60 outs q).f1)
  b : ∀ q : Int, 0 ≤ q → q < items.length → (rd_T62 items q).f0 < i → 0 ≤ rd os q ∧ rd os q % (rd_T62 items q).f2 = 0 ∧ rd os q + (rd_T62 items q).f1 ≤ c
  w : ∀ q : Int, 0 ≤ q → q < items.length → (rd_T62 items q).f0 < i → (rd_T58 sp (rd_T62 items q).f0).f0 ≤ rd os q ∧ rd os q + (rd_T62 items q).f1 ≤ (rd_T58 sp (rd_T62 items q).f0).f0 + (rd_T58 sp (rd_T62 items q).f0).f1
  p : ∀ q r : Int, 0 ≤ q → q < items.length → (rd_T62 items q).f0 < i → 0 ≤ r → r < items.length → (rd_T62 items r).f0 < i → q ≠ r → rd os q + (rd_T62 items q).f1 ≤ rd os r ∨ rd os r + (rd_T62 items r).f1 ≤ rd os q
theorem K_end (outs : List S60) (items : List S62) (n : Int) (ho : ∀ j : Int, 0 ≤ j → j < outs.length → VO (rd_T60 outs j)) (hv : ∀ j : Int, 0 ≤ j → j < items.length → VI n (rd_T62 items j)) (d : Nat) :
    ∀ (i c : Int) (os : List Int) (sp : List S58), 0 ≤ i → i + d = outs.length → 0 ≤ c → K outs items os sp i c → (asO outs items d i c os sp).2.2.1 = 0 →
    ∃ c', K outs items (asO outs items d i c os sp).1 (asO outs items d i c os sp).2.1 outs.length c' := by
  induction d with
  | zero =>
    intro i c os sp h0 hi hc H _
    have e : i = outs.length := by omega
    subst e
    exact ⟨c, H⟩
  | succ d ih =>
    intro i c os sp h0 hi hc H hz
    have V := ho i h0 (by omega)
    have hcb := H.cb
    have S := start_rng V hc hcb
    have hspl := H.spl
    unfold asO at hz ⊢
    by_cases c1 : startO (rd_T60 outs i) c < c ∨ Int.tmod (startO (rd_T60 outs i) c) (rd_T60 outs i).f2 ≠ 0
    · rw [if_pos c1] at hz; exact absurd (show (13 : Int) = 0 from hz) (by decide)
    · rw [if_neg c1] at hz ⊢
      by_cases c2 : 1048576 < (asI items i items.length 0 (startO (rd_T60 outs i) c) os).1
      · rw [if_pos c2] at hz; exact absurd (show (10 : Int) = 0 from hz) (by decide)
      · rw [if_neg c2] at hz ⊢
        have hsc : c ≤ startO (rd_T60 outs i) c := by omega
        have hfix : 0 ≤ (rd_T60 outs i).f1 → startO (rd_T60 outs i) c = (rd_T60 outs i).f1 := fun q => by unfold startO; rw [if_neg (by omega)]
        have A : J items os (asI items i items.length 0 (startO (rd_T60 outs i) c) os).2 i (startO (rd_T60 outs i) c) items.length (asI items i items.length 0 (startO (rd_T60 outs i) c) os).1 := by
          refine J_end items os i (startO (rd_T60 outs i) c) n hv S.1 items.length 0 _ os (by omega) (by omega) ⟨H.len, by omega, fun q _ _ _ => rfl, ?_, ?_, ?_⟩
          · intro q h1 h2 h3
            have := H.b q h1 h2 (by omega)
            exact ⟨this.1, this.2.1, by omega⟩
          · intro q h1 h2 h3 h4; omega
          · intro q r h1 h2 h3 h4 h5 h6 h7
            exact H.p q r h1 h2 (by omega) h4 h5 (by omega) h7
        generalize (asI items i items.length 0 (startO (rd_T60 outs i) c) os).1 = c' at *
        generalize (asI items i items.length 0 (startO (rd_T60 outs i) c) os).2 = os' at *
        generalize startO (rd_T60 outs i) c = s at *
        have hcs := A.cs
        have old : ∀ q : Int, 0 ≤ q → q < i → rd_T58 (sp ++ [⟨s, c' - s⟩]) q = rd_T58 sp q := fun q h1 h2 => rd58_old sp _ q (by omega)
        have new : rd_T58 (sp ++ [⟨s, c' - s⟩]) i = ⟨s, c' - s⟩ := rd58_new sp _ i (by omega)
        refine ih (i + 1) c' os' (sp ++ [⟨s, c' - s⟩]) (by omega) (by omega) (by omega) ⟨A.len, ?_, by omega, ?_, ?_, ?_, ?_⟩ hz
        · rw [List.length_append, List.length_singleton]; omega
        · intro q h1 h2
          by_cases e : q = i
          · subst e
            rw [new]
            refine ⟨S.1, ?_, ?_, ?_, hfix⟩
            · show 0 ≤ c' - s; omega
            · show s + (c' - s) ≤ c'; omega
            · intro hq
              rw [old (q - 1) (by omega) (by omega)]
              have := (H.s (q - 1) (by omega) (by omega)).2.2.1
              show _ ≤ s
              omega
          · rw [old q h1 (by omega)]
            have := H.s q h1 (by omega)
            refine ⟨this.1, this.2.1, by omega, ?_, this.2.2.2.2⟩
            intro hq
            rw [old (q - 1) (by omega) (by omega)]
            exact this.2.2.2.1 hq
        · intro q h1 h2 h3
          exact A.b q h1 h2 (by omega)
        · intro q h1 h2 h3
          have V2 := hv q h1 h2
          have := V2.a0
          by_cases e : (rd_T62 items q).f0 = i
          · rw [e, new]
            have h5 := A.l q h1 h2 e h2
            have h6 := A.b q h1 h2 (Or.inr ⟨e, h2⟩)
            refine ⟨h5, ?_⟩
            show _ ≤ s + (c' - s)
            omega
          · rw [old _ V2.a0 (by omega), A.u q h1 h2 (by omega)]
            exact H.w q h1 h2 (by omega)
        · intro q r h1 h2 h3 h4 h5 h6 h7
          exact A.p q r h1 h2 (by omega) h4 h5 (by omega) h7
theorem assign_K (outs : List S60) (items : List S62) (n : Int) (ho : ∀ j : Int, 0 ≤ j → j < outs.length → VO (rd_T60 outs j)) (hv : ∀ j : Int, 0 ≤ j → j < items.length → VI n (rd_T62 items j))
    (h : (assign outs items).2.2.1 = 0) : ∃ c, K outs items (assign outs items).1 (assign outs items).2.1 outs.length c := by
  refine K_end outs items n ho hv outs.length 0 256 _ [] (by omega) (by omega) (by omega) ?_ h
  refine ⟨by simp, rfl, by decide, ?_, ?_, ?_, ?_⟩
  · intro q h1 h2; omega
  · intro q h1 h2 h3; have := (hv q h1 h2).a0; omega
  · intro q h1 h2 h3; have := (hv q h1 h2).a0; omega
  · intro q r h1 h2 h3; have := (hv q h1 h2).a0; omega
theorem lay_K (outs : List S60) (rules : List S72) (items : List S62) (h : (lay outs rules items).2.2.1 = 0) :
    outs.length ≤ 8 ∧ items.length ≤ 200 ∧ (∀ j : Int, 0 ≤ j → j < items.length → VI outs.length (rd_T62 items j)) ∧ ∃ c, K outs items (lay outs rules items).1 (lay outs rules items).2.1 outs.length c := by
  unfold lay at h ⊢
  by_cases c : (sfault outs rules).1 = 0
  · obtain ⟨_, hn, ho⟩ := sfault_ok c
    rw [if_pos c] at h ⊢
    by_cases c2 : (ifault items outs.length).1 = 0
    · obtain ⟨_, hl, hv⟩ := ifault_ok c2
      rw [if_pos c2] at h ⊢
      exact ⟨hn, hl, hv, assign_K outs items _ ho hv h⟩
    · rw [if_neg c2] at h; exact absurd h c2
  · rw [if_neg c] at h; exact absurd h c

theorem apart_end (outs : List S60) (items : List S62) (os : List Int) (sp : List S58) (c : Int) (a b : Int) (hv : ∀ j : Int, 0 ≤ j → j < items.length → VI outs.length (rd_T62 items j))
    (H : K outs items os sp outs.length c) (ha : 0 ≤ a ∧ a ≤ (items.length : Int) - 1) (x : Bool) (hx : x = true ∨ (0 ≤ b ∧ b ≤ (items.length : Int) - 1)) : Ev (fun k => law_PlaceKeepsApart.j3 k items a b os sp x) true := by
  have V := hv a ha.1 (by omega)
  have v1 := V.a0
  have v2 := V.a1
  have v3 := V.b0
  have v4 := V.b1
  have v5 := V.c0
  have B := H.b a ha.1 (by omega) V.a1
  have W := H.w a ha.1 (by omega) V.a1
  have hcb := H.cb
  have S := H.s _ V.a0 V.a1
  have hlen := H.len
  have hspl := H.spl
  (apply Ev.step; focus (intro k; simp only [law_PlaceKeepsApart.j3]; exact rfl))
  by_cases hx1 : x = true
  · exact Ev.if_pos' hx1 (Ev.now _)
  · replace hx := hx.resolve_left hx1
    refine Ev.if_neg' hx1 (Ev.if_pos' ha.1 (Ev.if_pos' (by omega) (Ev.if_pos' V.a0 (Ev.if_pos' (by omega) (Ev.if_pos' (by omega) (Ev.if_neg' (by omega) ?_))))))
    refine Ev.if_pos' (by rw [tmod0 B.1]; exact B.2.1) (Ev.if_neg' (by omega) ?_)
    rw [w64 (n := rd os a + (rd_T62 items a).f1) (by omega) (by omega), w64 (n := (rd_T58 sp (rd_T62 items a).f0).f0 + (rd_T58 sp (rd_T62 items a).f0).f1) (by omega) (by omega)]
    refine Ev.if_neg' (by omega) ?_
    by_cases e : a = b
    · exact Ev.if_pos' e (Ev.now _)
    · have V2 := hv b hx.1 (by omega)
      have B2 := H.b b hx.1 (by omega) V2.a1
      have P := H.p a b ha.1 (by omega) V.a1 hx.1 (by omega) V2.a1 e
      have w3 := V2.b0
      have w4 := V2.b1
      refine Ev.if_neg' e (Ev.if_pos' hx.1 (Ev.if_pos' (by omega) ?_))
      by_cases q : rd os a + (rd_T62 items a).f1 ≤ rd os b
      · exact Ev.if_pos' q (Ev.now _)
      · refine Ev.if_neg' q (Ev.if_pos' (by omega) ?_)
        rw [w64 (n := rd os b + (rd_T62 items b).f1) (by omega) (by omega), decide_eq_true (by omega)]
        exact Ev.now _
theorem apart_spans (outs : List S60) (rules : List S72) (items : List S62) (os : List Int) (sp : List S58) (c : Int) (a b : Int) (hn : outs.length ≤ 8) (hl : items.length ≤ 200) (hv : ∀ j : Int, 0 ≤ j → j < items.length → VI outs.length (rd_T62 items j))
    (H : K outs items os sp outs.length c) (d : Nat) : ∀ q : Int, 0 ≤ q → q + d = outs.length → Ev (fun k => law_PlaceKeepsApart.l0 k items a b os sp q outs rules) true := by
  have hlen := H.len
  have hspl := H.spl
  have hcb := H.cb
  induction d with
  | zero =>
    intro q h0 hq
    (apply Ev.step; focus (intro k; simp only [law_PlaceKeepsApart.l0]; exact rfl))
    refine Ev.if_neg' (by omega) ?_
    simp only [ref_in, Option.bind_some, decide_eq_true_eq]
    rw [w64 (n := (os.length : Int) - 1) (by omega) (by omega)]
    by_cases ha : 0 ≤ a ∧ a ≤ (os.length : Int) - 1
    · refine Ev.if_pos' ha (apart_end outs items os sp c a b hv H (by omega) _ ?_)
      by_cases hb : 0 ≤ b ∧ b ≤ (os.length : Int) - 1
      · right; omega
      · left; simp [hb]
    · refine Ev.if_neg' ha ?_
      (apply Ev.step; focus (intro k; simp only [law_PlaceKeepsApart.j3]; exact rfl))
      exact Ev.if_pos' trivial (Ev.now _)
  | succ d ih =>
    intro q h0 hq
    have S := H.s q h0 (by omega)
    have ih' := ih (q + 1) (by omega) (by omega)
    (apply Ev.step; focus (intro k; simp only [law_PlaceKeepsApart.l0]; exact rfl))
    refine Ev.if_pos' (by omega) (Ev.if_pos' h0 (Ev.if_neg' (by omega) ?_))
    rw [w64 (n := (rd_T58 sp q).f0 + (rd_T58 sp q).f1) (by omega) (by omega), w64 (n := q + 1) (by omega) (by omega), w64 (n := q - 1) (by omega) (by omega)]
    refine Ev.if_neg' (by omega) ?_
    have T : Ev (fun k => if (rd_T60 outs q).f1 ≥ 0 then (if (rd_T58 sp q).f0 = (rd_T60 outs q).f1 then law_PlaceKeepsApart.l0 k items a b os sp (q + 1) outs rules else none) else law_PlaceKeepsApart.l0 k items a b os sp (q + 1) outs rules) true := by
      by_cases e : (rd_T60 outs q).f1 ≥ 0
      · exact Ev.if_pos' e (Ev.if_pos' (S.2.2.2.2 e) ih')
      · exact Ev.if_neg' e ih'
    by_cases e : q > 0
    · have S2 := H.s (q - 1) (by omega) (by omega)
      rw [w64 (n := (rd_T58 sp (q - 1)).f0 + (rd_T58 sp (q - 1)).f1) (by omega) (by omega)]
      have := S.2.2.2.1 e
      exact Ev.if_pos' e (Ev.if_pos' (by omega) (Ev.if_pos' (by omega) (Ev.if_neg' (by omega) (Ev.if_pos' (by omega) T))))
    · exact Ev.if_neg' e (Ev.if_pos' (by omega) T)

theorem PlaceKeepsApart : law_PlaceKeepsApart.Pure := by
  intro outs rules items a b h _ _ _ _ _
  refine Ev.rounds (g := fun k => law_PlaceKeepsApart.f k outs rules items a b) ?_
  unfold law_PlaceKeepsApart.f
  refine Ev.bind (layout outs rules items h) (Ev.bind example_true (Ev.if_pos' rfl ?_))
  (apply Ev.step; focus (intro k; simp only [law_PlaceKeepsApart.j0]; exact rfl))
  by_cases z : (lay outs rules items).2.2.1 = 0
  · obtain ⟨hn, hl, hv, c, H⟩ := lay_K outs rules items z
    have hlen := H.len
    have hspl := H.spl
    refine Ev.if_neg' (by simp [z]) (Ev.if_pos' (by omega) ?_)
    (apply Ev.step; focus (intro k; simp only [law_PlaceKeepsApart.j1]; exact rfl))
    refine Ev.if_neg' (by simp; omega) ?_
    exact apart_spans outs rules items _ _ c a b hn hl hv H outs.length 0 (by omega) (by omega)
  · obtain ⟨e1, e2⟩ := lay_none outs rules items z
    refine Ev.if_pos' (by simp [z]) (Ev.bind example_true (Ev.if_pos' rfl ?_))
    rw [e1, e2]
    exact Ev.if_pos' rfl (Ev.now _)
end Go.Proofs.Ytnbeamaoblmbhaa.Pure
