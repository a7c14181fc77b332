/- What package place and its reference assign to the items of a valid list: one plain function for both. Condition: the faults of the first part are none. -/
import Derived.Test.YtnbeamaoblmbhaaPurePlaceB
import Derived.Test.YtnbeamaoblmbhaaPPlacex6
import Derived.Test.YtnbeamaoblmbhaaPPlacex11
namespace Go.Proofs.Ytnbeamaoblmbhaa.PurePlace
open Go.RowKit Go.Proofs.Ytnbeamaoblmbhaa.PPlace Go.Proofs.YtnbeamaoblmbhaaW.PrintWords Go.Proofs.YtnbeamaoblmbhaaW.PrintMore

abbrev Res := List Int × List S58 × Int × Int
def up (a m : Int) : Int := (a + m - 1) / m * m
def asI (items : List S62) (x : Int) : Nat → Int → Int → List Int → Int × List Int
  | 0, _, c, os => (c, os)
  | d + 1, j, c, os => if (rd_T62 items j).f0 = x then asI items x d (j + 1) (up c (rd_T62 items j).f2 + (rd_T62 items j).f1) (os.set j.toNat (up c (rd_T62 items j).f2)) else asI items x d (j + 1) c os
def startO (o : S60) (c : Int) : Int := if o.f1 < 0 then up (up c 256) o.f2 else o.f1
def asO (outs : List S60) (items : List S62) : Nat → Int → Int → List Int → List S58 → Res
  | 0, _, _, os, sp => (os, sp, 0, 0)
  | d + 1, i, c, os, sp =>
    if startO (rd_T60 outs i) c < c ∨ Int.tmod (startO (rd_T60 outs i) c) (rd_T60 outs i).f2 ≠ 0 then ([], [], 13, i)
    else if 1048576 < (asI items i items.length 0 (startO (rd_T60 outs i) c) os).1 then ([], [], 10, i)
    else asO outs items d (i + 1) (asI items i items.length 0 (startO (rd_T60 outs i) c) os).1 (asI items i items.length 0 (startO (rd_T60 outs i) c) os).2
      (sp ++ [⟨startO (rd_T60 outs i) c, (asI items i items.length 0 (startO (rd_T60 outs i) c) os).1 - startO (rd_T60 outs i) c⟩])
def assign (outs : List S60) (items : List S62) : Res := asO outs items outs.length 0 256 (List.replicate items.length 0) []

/-! The least multiple. -/
theorem up_is {a m x : Int} (hm : 1 ≤ m) (hx : x % m = 0) (h1 : a ≤ x) (h2 : x ≤ a + m - 1) : up a m = x := by
  unfold up
  have e : x = m * (x / m) := by have := Int.mul_ediv_add_emod x m; omega
  have e2 : a + m - 1 = (a + m - 1 - x) + m * (x / m) := by omega
  rw [e2, Int.add_mul_ediv_left _ _ (by omega), Int.ediv_eq_zero_of_lt (by omega) (by omega), Int.zero_add, Int.mul_comm]
  exact e.symm
theorem up_prop (a m : Int) (hm : 1 ≤ m) : a ≤ up a m ∧ up a m ≤ a + m - 1 ∧ up a m % m = 0 := by
  unfold up
  have h1 := Int.mul_ediv_add_emod (a + m - 1) m
  have h2 := Int.emod_nonneg (a + m - 1) (show m ≠ 0 by omega)
  have h3 := Int.emod_lt_of_pos (a + m - 1) (show 0 < m by omega)
  refine ⟨?_, ?_, Int.mul_emod_left _ _⟩
  · rw [Int.mul_comm]; omega
  · rw [Int.mul_comm]; omega
theorem up_self (a m : Int) (hm : 1 ≤ m) (h : a % m = 0) : up a m = a := up_is hm h (by omega) (by omega)
theorem up_next (a m : Int) (hm : 1 ≤ m) (h : a % m ≠ 0) : up (a + 1) m = up a m := by
  have := up_prop a m hm
  refine up_is hm this.2.2 ?_ (by omega)
  by_cases c : a = up a m
  · exfalso; apply h; rw [c]; exact this.2.2
  · omega
theorem tmod0 {a m : Int} (ha : 0 ≤ a) : Int.tmod a m = a % m := Int.tmod_eq_emod_of_nonneg ha
theorem thread_up (a m : Int) (ha : 0 ≤ a) (hm : 1 ≤ m) (h1 : a ≤ 4000000000000) (h2 : m ≤ 4096) : thread_Up.f a m = some (up a m) := by
  have := up_prop a m hm
  unfold thread_Up.f
  rw [if_neg (by omega), w64 (n := a + m) (by omega) (by omega), w64 (n := a + m - 1) (by omega) (by omega), Int.tdiv_eq_ediv_of_nonneg (by omega)]
  have h3 : (a + m - 1) / m ≤ a + m - 1 := Int.ediv_le_self _ (by omega)
  have h4 : 0 ≤ (a + m - 1) / m := Int.ediv_nonneg (by omega) (by omega)
  rw [w64 (n := (a + m - 1) / m) (by omega) (by omega)]
  rw [show (a + m - 1) / m * m = up a m by rfl, w64 (by omega) (by omega)]
theorem ref_up (m : Int) (hm : 1 ≤ m) (h2 : m ≤ 4096) (d : Nat) : ∀ a : Int, 0 ≤ a → up a m ≤ 5000000000000 → a + d = up a m → Ev (fun k => ref_Round.f k a m) (up a m) := by
  induction d with
  | zero =>
    intro a h0 h1 hd
    unfold ref_Round.f
    (apply Ev.step; focus (intro k; simp only [ref_Round.l0]; exact rfl))
    have := up_prop a m hm
    refine Ev.if_neg' (by omega) (Ev.if_pos' ?_ ?_)
    · rw [tmod0 h0, show a = up a m by omega]; exact this.2.2
    · rw [← hd, show a + ((0 : Nat) : Int) = a by omega]; exact Ev.now _
  | succ d ih =>
    intro a h0 h1 hd
    unfold ref_Round.f
    (apply Ev.step; focus (intro k; simp only [ref_Round.l0]; exact rfl))
    have := up_prop a m hm
    have hne : a % m ≠ 0 := fun q => by have := up_self a m hm q; omega
    refine Ev.if_neg' (by omega) (Ev.if_neg' (by rw [tmod0 h0]; exact hne) ?_)
    rw [w64 (n := a + 1) (by omega) (by omega), ← up_next a m hm hne]
    exact ih (a + 1) (by omega) (by rw [up_next a m hm hne]; omega) (by rw [up_next a m hm hne]; omega)
theorem ref_round (a m : Int) (ha : 0 ≤ a) (hm : 1 ≤ m) (h1 : a ≤ 4000000000000) (h2 : m ≤ 4096) : Ev (fun k => ref_Round.f k a m) (up a m) := by
  have := up_prop a m hm
  exact ref_up m hm h2 (up a m - a).toNat a ha (by omega) (by omega)

/-! What no fault says. -/
theorem pw_le {n m : Int} (h : pw n m = true) : 1 ≤ n ∧ n ≤ m := by
  unfold pw at h
  simp only [Bool.and_eq_true, decide_eq_true_eq] at h
  exact h.1
structure VO (o : S60) : Prop where
  a0 : -1 ≤ o.f1
  a1 : o.f1 ≤ 1048575
  b0 : 1 ≤ o.f2
  b1 : o.f2 ≤ 4096
structure VI (n : Int) (t : S62) : Prop where
  a0 : 0 ≤ t.f0
  a1 : t.f0 < n
  b0 : 0 ≤ t.f1
  b1 : t.f1 ≤ 1048576
  c0 : 1 ≤ t.f2
  c1 : t.f2 ≤ 256
theorem okO_v {o : S60} (h : okO o = true) : VO o := by
  unfold okO at h
  simp only [Bool.and_eq_true, decide_eq_true_eq] at h
  have := pw_le h.2.1
  exact ⟨by omega, by omega, this.1, this.2⟩
theorem okI_v {n : Int} {t : S62} (h : okI n t = true) : VI n t := by
  unfold okI at h
  simp only [Bool.and_eq_true, decide_eq_true_eq] at h
  have := pw_le h.2.2
  exact ⟨h.1.1, h.1.2, h.2.1.1, h.2.1.2, this.1, this.2⟩
theorem sfO_ok (outs : List S60) (r : Int × Int) (d : Nat) : ∀ i : Int, (sfO outs r d i).1 = 0 → sfO outs r d i = r ∧ ∀ j, i ≤ j → j < i + d → codeO outs j = 0 := by
  induction d with
  | zero => intro i h; exact ⟨rfl, fun j h1 h2 => by omega⟩
  | succ d ih =>
    intro i h
    unfold sfO at h ⊢
    by_cases c : codeO outs i = 0
    · rw [if_pos c] at h ⊢
      refine ⟨(ih _ h).1, fun j h1 h2 => ?_⟩
      by_cases e : j = i
      · rw [e]; exact c
      · exact (ih _ h).2 j (by omega) (by omega)
    · rw [if_neg c] at h; exact absurd h c
theorem sfR_ok (rules : List S72) (n : Int) (d : Nat) : ∀ j : Int, (sfR rules n d j).1 = 0 → sfR rules n d j = (0, 0) := by
  induction d with
  | zero => intro j _; rfl
  | succ d ih =>
    intro j h
    unfold sfR at h ⊢
    by_cases c : codeR n (rd_T72 rules j) = 0
    · rw [if_pos c] at h ⊢; exact ih _ h
    · rw [if_neg c] at h; exact absurd h c
theorem codeO_v {outs : List S60} {i : Int} (h : codeO outs i = 0) : VO (rd_T60 outs i) := by
  unfold codeO at h
  by_cases c : nameB (rd_T60 outs i).f0 = true
  · rw [if_pos c] at h
    by_cases c2 : dupN outs (rd_T60 outs i).f0 i.toNat 0 = true
    · rw [if_pos c2] at h; omega
    · rw [if_neg c2] at h
      by_cases c3 : okO (rd_T60 outs i) = true
      · exact okO_v c3
      · rw [if_neg c3] at h; omega
  · rw [if_neg c] at h; omega
theorem sfault_ok {outs : List S60} {rules : List S72} (h : (sfault outs rules).1 = 0) : sfault outs rules = (0, 0) ∧ outs.length ≤ 8 ∧ ∀ j : Int, 0 ≤ j → j < outs.length → VO (rd_T60 outs j) := by
  unfold sfault at h ⊢
  by_cases c : 8 < outs.length
  · rw [if_pos c] at h; exact absurd h (by decide)
  · rw [if_neg c] at h ⊢
    obtain ⟨h1, h2⟩ := sfO_ok outs _ _ _ h
    refine ⟨?_, by omega, fun j q1 q2 => codeO_v (h2 j q1 (by omega))⟩
    rw [h1] at h ⊢
    by_cases c2 : 12 < rules.length
    · rw [if_pos c2] at h; exact absurd h (by decide)
    · rw [if_neg c2] at h ⊢; exact sfR_ok _ _ _ _ h
theorem sfI_ok (items : List S62) (n : Int) (d : Nat) : ∀ j : Int, (sfI items n d j).1 = 0 → sfI items n d j = (0, 0) ∧ ∀ q, j ≤ q → q < j + d → okI n (rd_T62 items q) = true := by
  induction d with
  | zero => intro i h; exact ⟨rfl, fun j h1 h2 => by omega⟩
  | succ d ih =>
    intro j h
    unfold sfI at h ⊢
    by_cases c : okI n (rd_T62 items j) = true
    · rw [if_pos c] at h ⊢
      refine ⟨(ih _ h).1, fun q h1 h2 => ?_⟩
      by_cases e : q = j
      · rw [e]; exact c
      · exact (ih _ h).2 q (by omega) (by omega)
    · rw [if_neg c] at h; exact absurd (show (3 : Int) = 0 from h) (by decide)
theorem ifault_ok {items : List S62} {n : Int} (h : (ifault items n).1 = 0) : ifault items n = (0, 0) ∧ items.length ≤ 200 ∧ ∀ j : Int, 0 ≤ j → j < items.length → VI n (rd_T62 items j) := by
  unfold ifault at h ⊢
  by_cases c : 200 < items.length
  · rw [if_pos c] at h; exact absurd h (by decide)
  · rw [if_neg c] at h ⊢
    obtain ⟨h1, h2⟩ := sfI_ok items _ _ _ h
    exact ⟨h1, by omega, fun j q1 q2 => okI_v (h2 j q1 (by omega))⟩

/-! The items of one output. -/
theorem asI_len (items : List S62) (x : Int) (d : Nat) : ∀ (j c : Int) (os : List Int), (asI items x d j c os).2.length = os.length := by
  induction d with
  | zero => intro j c os; rfl
  | succ d ih =>
    intro j c os
    unfold asI
    by_cases h : (rd_T62 items j).f0 = x
    · rw [if_pos h, ih, List.length_set]
    · rw [if_neg h, ih]
theorem asI_rng (items : List S62) (x : Int) (n : Int) (hv : ∀ j : Int, 0 ≤ j → j < items.length → VI n (rd_T62 items j)) (d : Nat) : ∀ (j c : Int) (os : List Int), 0 ≤ j → j + d = items.length → 0 ≤ c →
    c ≤ (asI items x d j c os).1 ∧ (asI items x d j c os).1 ≤ c + d * 2000000 := by
  induction d with
  | zero => intro j c os _ _ _; unfold asI; exact ⟨by omega, by omega⟩
  | succ d ih =>
    intro j c os h0 hj hc
    have V := hv j h0 (by omega)
    have U := up_prop c _ V.c0
    have := V.b0; have := V.b1; have := V.c1
    unfold asI
    by_cases h : (rd_T62 items j).f0 = x
    · rw [if_pos h]
      have := ih (j + 1) (up c (rd_T62 items j).f2 + (rd_T62 items j).f1) (os.set j.toNat (up c (rd_T62 items j).f2)) (by omega) (by omega) (by omega)
      refine ⟨by omega, by omega⟩
    · rw [if_neg h]
      have := ih (j + 1) c os (by omega) (by omega) (by omega)
      refine ⟨by omega, by omega⟩
theorem rd_set (os : List Int) (j : Int) (v : Int) (h : j.toNat < os.length) : rd (os.set j.toNat v) j = v := by
  unfold rd
  rw [List.getD_eq_getElem?_getD, List.getElem?_set_self h]
  rfl
theorem place_asI (outs : List S60) (items : List S62) (sp : List S58) (i s : Int) (n : Int) (hv : ∀ j : Int, 0 ≤ j → j < items.length → VI n (rd_T62 items j)) (hl : items.length ≤ 200) (d : Nat) :
    ∀ (j c : Int) (os : List Int) (R : Res), 0 ≤ j → j + d = items.length → os.length = items.length → 0 ≤ c → c + d * 2000000 ≤ 4000000000000 →
    Ev (fun k => if (asI items i d j c os).1 > 1048576 then (some (([] : List Int), ([] : List S58), (10 : Int), i)) else (if 0 ≤ i then (if i < (sp.length : Int) then (place_Assign.l0 k items (asI items i d j c os).2 (sp.set i.toNat ⟨s, wrap64 ((asI items i d j c os).1 - s)⟩) (asI items i d j c os).1 outs outs.length (wrap64 (i + 1))) else none) else none)) R →
    Ev (fun k => place_Assign.l1 k items os sp i s c outs outs.length i items items.length j) R := by
  induction d with
  | zero =>
    intro j c os R h0 hj ho hc hb hR
    (apply Ev.step; focus (intro k; simp only [place_Assign.l1]; exact rfl))
    exact Ev.if_neg' (by omega) hR
  | succ d ih =>
    intro j c os R h0 hj ho hc hb hR
    have V := hv j h0 (by omega)
    have U := up_prop c _ V.c0
    have := V.b0; have := V.b1; have := V.c1; have := V.c0
    (apply Ev.step; focus (intro k; simp only [place_Assign.l1]; exact rfl))
    refine Ev.if_pos' (by omega) (Ev.if_pos' h0 (Ev.if_pos' (by omega) ?_))
    rw [thread_up c _ hc V.c0 (by omega) (by omega), w64 (n := j + 1) (by omega) (by omega)]
    simp only [Option.bind_some]
    rw [rd_set os j _ (by omega), w64 (n := up c (rd_T62 items j).f2 + (rd_T62 items j).f1) (by omega) (by omega)]
    unfold asI at hR
    by_cases h : (rd_T62 items j).f0 = i
    · simp only [if_pos h] at hR
      refine Ev.if_pos' h (Ev.if_pos' (by omega) ?_)
      exact ih (j + 1) _ _ R (by omega) (by omega) (by rw [List.length_set]; exact ho) (by omega) (by omega) hR
    · simp only [if_neg h] at hR
      refine Ev.if_neg' h ?_
      exact ih (j + 1) _ _ R (by omega) (by omega) ho (by omega) (by omega) hR
theorem ref_asI (outs : List S60) (rules : List S72) (items : List S62) (sp : List S58) (i s : Int) (n : Int) (hv : ∀ j : Int, 0 ≤ j → j < items.length → VI n (rd_T62 items j)) (hl : items.length ≤ 200) (d : Nat) :
    ∀ (j c : Int) (os : List Int) (R : Res), 0 ≤ j → j + d = items.length → os.length = items.length → 0 ≤ c → c + d * 2000000 ≤ 4000000000000 →
    Ev (fun k => if (asI items i d j c os).1 > 1048576 then (some (([] : List Int), ([] : List S58), (10 : Int), i)) else (if sp.length < 8796093022208 then (ref_Placed.l0 k items (asI items i d j c os).2 (sp ++ [⟨s, wrap64 ((asI items i d j c os).1 - s)⟩]) (asI items i d j c os).1 (wrap64 (i + 1)) outs rules) else none)) R →
    Ev (fun k => ref_Placed.l1 k items os sp i c s j outs rules) R := by
  induction d with
  | zero =>
    intro j c os R h0 hj ho hc hb hR
    (apply Ev.step; focus (intro k; simp only [ref_Placed.l1]; exact rfl))
    simp only [ref_at, Option.bind_some]
    exact Ev.if_neg' (by omega) hR
  | succ d ih =>
    intro j c os R h0 hj ho hc hb hR
    have V := hv j h0 (by omega)
    have U := up_prop c _ V.c0
    have := V.b0; have := V.b1; have := V.c1; have := V.c0
    (apply Ev.step; focus (intro k; simp only [ref_Placed.l1]; exact rfl))
    refine Ev.if_pos' (by omega) (Ev.if_pos' h0 ?_)
    unfold asI at hR
    by_cases h : (rd_T62 items j).f0 = i
    · simp only [if_pos h] at hR
      refine Ev.if_pos' h (Ev.bind (ref_round c _ hc V.c0 (by omega) (by omega)) (Ev.if_pos' (by omega) ?_))
      rw [w64 (n := j + 1) (by omega) (by omega), w64 (n := up c (rd_T62 items j).f2 + (rd_T62 items j).f1) (by omega) (by omega)]
      exact ih (j + 1) _ _ R (by omega) (by omega) (by rw [List.length_set]; exact ho) (by omega) (by omega) hR
    · simp only [if_neg h] at hR
      refine Ev.if_neg' h ?_
      rw [w64 (n := j + 1) (by omega) (by omega)]
      exact ih (j + 1) _ _ R (by omega) (by omega) ho (by omega) (by omega) hR

/-! The outputs. -/
theorem start_rng {o : S60} (V : VO o) {c : Int} (h0 : 0 ≤ c) (h1 : c ≤ 1048576) : 0 ≤ startO o c ∧ startO o c ≤ 2000000 := by
  have := V.a0; have := V.a1; have := V.b0; have := V.b1
  unfold startO
  by_cases q : o.f1 < 0
  · rw [if_pos q]
    have U := up_prop c 256 (by decide)
    have U2 := up_prop (up c 256) o.f2 V.b0
    omega
  · rw [if_neg q]; omega
theorem place_asO (outs : List S60) (items : List S62) (n : Int) (ho : ∀ j : Int, 0 ≤ j → j < outs.length → VO (rd_T60 outs j)) (hv : ∀ j : Int, 0 ≤ j → j < items.length → VI n (rd_T62 items j)) (hl : items.length ≤ 200) (hn : outs.length ≤ 8) (d : Nat) :
    ∀ (i c : Int) (os : List Int) (sp : List S58), 0 ≤ i → i + d = outs.length → os.length = items.length → sp.length = i.toNat → 0 ≤ c → c ≤ 1048576 →
    Ev (fun k => place_Assign.l0 k items os (sp ++ List.replicate d z58) c outs outs.length i) (asO outs items d i c os sp) := by
  induction d with
  | zero =>
    intro i c os sp h0 hi hos hsp hc0 hc1
    (apply Ev.step; focus (intro k; simp only [place_Assign.l0]; exact rfl))
    refine Ev.if_neg' (by omega) ?_
    unfold asO
    rw [List.replicate_zero, List.append_nil]
    exact Ev.now _
  | succ d ih =>
    intro i c os sp h0 hi hos hsp hc0 hc1
    have V := ho i h0 (by omega)
    have hb0 := V.b0
    have hb1 := V.b1
    have S := start_rng V hc0 hc1
    have I := asI_rng items i n hv items.length 0 (startO (rd_T60 outs i) c) os (by omega) (by omega) S.1
    have L := asI_len items i items.length 0 (startO (rd_T60 outs i) c) os
    have U := up_prop c 256 (by decide)
    have j2 : ∀ x : Bool, Ev (fun k => place_Assign.j2 k items os (sp ++ List.replicate (d + 1) z58) i (startO (rd_T60 outs i) c) outs outs.length i x)
        (if x = true then ([], [], 13, i) else if 1048576 < (asI items i items.length 0 (startO (rd_T60 outs i) c) os).1 then ([], [], 10, i)
         else asO outs items d (i + 1) (asI items i items.length 0 (startO (rd_T60 outs i) c) os).1 (asI items i items.length 0 (startO (rd_T60 outs i) c) os).2
          (sp ++ [⟨startO (rd_T60 outs i) c, (asI items i items.length 0 (startO (rd_T60 outs i) c) os).1 - startO (rd_T60 outs i) c⟩])) := by
      intro x
      (apply Ev.step; focus (intro k; simp only [place_Assign.j2]; exact rfl))
      by_cases hx : x = true
      · rw [if_pos hx]; exact Ev.if_pos' hx (Ev.now _)
      · rw [if_neg hx]
        refine Ev.if_neg' hx (place_asI outs items _ i _ n hv hl items.length 0 _ os _ (by omega) (by omega) hos S.1 (by omega) ?_)
        by_cases h : 1048576 < (asI items i items.length 0 (startO (rd_T60 outs i) c) os).1
        · rw [if_pos h]; exact Ev.if_pos' h (Ev.now _)
        · rw [if_neg h]
          refine Ev.if_neg' h (Ev.if_pos' h0 (Ev.if_pos' ?_ ?_))
          · rw [List.length_append, List.length_replicate]; omega
          · rw [w64 (n := i + 1) (by omega) (by omega), w64 (n := (asI items i items.length 0 (startO (rd_T60 outs i) c) os).1 - startO (rd_T60 outs i) c) (by omega) (by omega)]
            have e : ∀ v : S58, (sp ++ List.replicate (d + 1) z58).set i.toNat v = (sp ++ [v]) ++ List.replicate d z58 := by
              intro v
              rw [← hsp, List.set_append_right _ _ (Nat.le_refl _), Nat.sub_self, List.replicate_succ, List.set_cons_zero, List.append_assoc]
              rfl
            rw [e]
            exact ih (i + 1) _ _ _ (by omega) (by omega) (by rw [L]; exact hos) (by rw [List.length_append, hsp]; simp; omega) (by omega) (by omega)
    have j1 : Ev (fun k => place_Assign.j1 k items os (sp ++ List.replicate (d + 1) z58) c i (startO (rd_T60 outs i) c) outs outs.length i (rd_T60 outs i).f0 (rd_T60 outs i).f1 (rd_T60 outs i).f2 (rd_T60 outs i).f3) (asO outs items (d + 1) i c os sp) := by
      (apply Ev.step; focus (intro k; simp only [place_Assign.j1]; exact rfl))
      unfold asO
      by_cases c1 : startO (rd_T60 outs i) c < c
      · rw [if_pos (Or.inl c1)]
        exact Ev.if_pos' c1 (j2 true)
      · refine Ev.if_neg' c1 (Ev.if_neg' (by omega) ?_)
        have := j2 (Int.tmod (startO (rd_T60 outs i) c) (rd_T60 outs i).f2 != 0)
        by_cases c2 : Int.tmod (startO (rd_T60 outs i) c) (rd_T60 outs i).f2 = 0
        · rw [if_neg (by simp [c2])] at this
          rw [if_neg (by omega)]
          exact this
        · rw [if_pos (by simp [c2])] at this
          rw [if_pos (Or.inr c2)]
          exact this
    (apply Ev.step; focus (intro k; simp only [place_Assign.l0]; exact rfl))
    refine Ev.if_pos' (by omega) (Ev.if_pos' h0 (Ev.if_pos' (by omega) ?_))
    rw [thread_up c 256 hc0 (by omega) (by omega) (by omega)]
    simp only [Option.bind_some]
    rw [thread_up (up c 256) _ (by omega) V.b0 (by omega) (by omega)]
    simp only [Option.bind_some]
    by_cases h : (rd_T60 outs i).f1 < 0
    · refine Ev.if_pos' h ?_
      rw [show startO (rd_T60 outs i) c = up (up c 256) (rd_T60 outs i).f2 by unfold startO; rw [if_pos h]] at j1
      exact j1
    · refine Ev.if_neg' h ?_
      rw [show startO (rd_T60 outs i) c = (rd_T60 outs i).f1 by unfold startO; rw [if_neg h]] at j1
      exact j1
theorem place_assign (outs : List S60) (rules : List S72) (items : List S62) (n : Int) (ho : ∀ j : Int, 0 ≤ j → j < outs.length → VO (rd_T60 outs j)) (hv : ∀ j : Int, 0 ≤ j → j < items.length → VI n (rd_T62 items j)) (hl : items.length ≤ 200) (hn : outs.length ≤ 8) :
    Ev (fun k => place_Assign.f k outs rules items) (assign outs items) := by
  unfold place_Assign.f assign
  refine Ev.if_pos' (by omega) (Ev.if_pos' (by omega) (Ev.if_pos' (by omega) (Ev.if_pos' (by omega) ?_)))
  simp only [Int.toNat_natCast]
  exact place_asO outs items n ho hv hl hn outs.length 0 256 _ [] (by omega) (by omega) (by simp) rfl (by omega) (by omega)
theorem ref_asO (outs : List S60) (rules : List S72) (items : List S62) (n : Int) (ho : ∀ j : Int, 0 ≤ j → j < outs.length → VO (rd_T60 outs j)) (hv : ∀ j : Int, 0 ≤ j → j < items.length → VI n (rd_T62 items j)) (hl : items.length ≤ 200) (hn : outs.length ≤ 8) (d : Nat) :
    ∀ (i c : Int) (os : List Int) (sp : List S58), 0 ≤ i → i + d = outs.length → os.length = items.length → sp.length = i.toNat → 0 ≤ c → c ≤ 1048576 →
    Ev (fun k => ref_Placed.l0 k items os sp c i outs rules) (asO outs items d i c os sp) := by
  induction d with
  | zero =>
    intro i c os sp h0 hi hos hsp hc0 hc1
    (apply Ev.step; focus (intro k; simp only [ref_Placed.l0]; exact rfl))
    refine Ev.if_neg' (by omega) ?_
    unfold asO
    exact Ev.now _
  | succ d ih =>
    intro i c os sp h0 hi hos hsp hc0 hc1
    have V := ho i h0 (by omega)
    have hb0 := V.b0
    have hb1 := V.b1
    have S := start_rng V hc0 hc1
    have I := asI_rng items i n hv items.length 0 (startO (rd_T60 outs i) c) os (by omega) (by omega) S.1
    have L := asI_len items i items.length 0 (startO (rd_T60 outs i) c) os
    have U := up_prop c 256 (by decide)
    have j2 : ∀ x : Bool, Ev (fun k => ref_Placed.j2 k items os sp i (startO (rd_T60 outs i) c) x outs rules)
        (if x = true then ([], [], 13, i) else if 1048576 < (asI items i items.length 0 (startO (rd_T60 outs i) c) os).1 then ([], [], 10, i)
         else asO outs items d (i + 1) (asI items i items.length 0 (startO (rd_T60 outs i) c) os).1 (asI items i items.length 0 (startO (rd_T60 outs i) c) os).2
          (sp ++ [⟨startO (rd_T60 outs i) c, (asI items i items.length 0 (startO (rd_T60 outs i) c) os).1 - startO (rd_T60 outs i) c⟩])) := by
      intro x
      (apply Ev.step; focus (intro k; simp only [ref_Placed.j2]; exact rfl))
      by_cases hx : x = true
      · rw [if_pos hx]; exact Ev.if_pos' hx (Ev.now _)
      · rw [if_neg hx]
        refine Ev.if_neg' hx (ref_asI outs rules items _ i _ n hv hl items.length 0 _ os _ (by omega) (by omega) hos S.1 (by omega) ?_)
        by_cases h : 1048576 < (asI items i items.length 0 (startO (rd_T60 outs i) c) os).1
        · rw [if_pos h]; exact Ev.if_pos' h (Ev.now _)
        · rw [if_neg h]
          refine Ev.if_neg' h (Ev.if_pos' (by omega) ?_)
          rw [w64 (n := i + 1) (by omega) (by omega), w64 (n := (asI items i items.length 0 (startO (rd_T60 outs i) c) os).1 - startO (rd_T60 outs i) c) (by omega) (by omega)]
          exact ih (i + 1) _ _ _ (by omega) (by omega) (by rw [L]; exact hos) (by rw [List.length_append, hsp]; simp; omega) (by omega) (by omega)
    have j1 : Ev (fun k => ref_Placed.j1 k items os sp c i (startO (rd_T60 outs i) c) outs rules (rd_T60 outs i).f0 (rd_T60 outs i).f1 (rd_T60 outs i).f2 (rd_T60 outs i).f3) (asO outs items (d + 1) i c os sp) := by
      (apply Ev.step; focus (intro k; simp only [ref_Placed.j1]; exact rfl))
      unfold asO
      by_cases c1 : startO (rd_T60 outs i) c < c
      · rw [if_pos (Or.inl c1)]
        exact Ev.if_pos' c1 (j2 true)
      · refine Ev.if_neg' c1 (Ev.if_neg' (by omega) ?_)
        have := j2 (Int.tmod (startO (rd_T60 outs i) c) (rd_T60 outs i).f2 != 0)
        by_cases c2 : Int.tmod (startO (rd_T60 outs i) c) (rd_T60 outs i).f2 = 0
        · rw [if_neg (by simp [c2])] at this
          rw [if_neg (by omega)]
          exact this
        · rw [if_pos (by simp [c2])] at this
          rw [if_pos (Or.inr c2)]
          exact this
    (apply Ev.step; focus (intro k; simp only [ref_Placed.l0]; exact rfl))
    refine Ev.if_pos' (by omega) (Ev.if_pos' h0 ?_)
    by_cases h : (rd_T60 outs i).f1 < 0
    · refine Ev.if_pos' h (Ev.bind (ref_round c 256 hc0 (by omega) (by omega) (by omega)) (Ev.bind (ref_round (up c 256) _ (by omega) V.b0 (by omega) (by omega)) ?_))
      rw [show startO (rd_T60 outs i) c = up (up c 256) (rd_T60 outs i).f2 by unfold startO; rw [if_pos h]] at j1
      exact j1
    · refine Ev.if_neg' h ?_
      rw [show startO (rd_T60 outs i) c = (rd_T60 outs i).f1 by unfold startO; rw [if_neg h]] at j1
      exact j1
theorem ref_assign (outs : List S60) (rules : List S72) (items : List S62) (n : Int) (ho : ∀ j : Int, 0 ≤ j → j < outs.length → VO (rd_T60 outs j)) (hv : ∀ j : Int, 0 ≤ j → j < items.length → VI n (rd_T62 items j)) (hl : items.length ≤ 200) (hn : outs.length ≤ 8) :
    Ev (fun k => ref_Placed.f k outs rules items) (assign outs items) := by
  unfold ref_Placed.f assign
  refine Ev.if_pos' (by omega) (Ev.if_pos' (by omega) ?_)
  simp only [Int.toNat_natCast]
  exact ref_asO outs rules items n ho hv hl hn outs.length 0 256 _ [] (by omega) (by omega) (by simp) rfl (by omega) (by omega)
end Go.Proofs.Ytnbeamaoblmbhaa.PurePlace
