/- Lemmas on printed functions that want rounds: with enough rounds they come to these answers: names, lists of numbers, orders. No condition. -/
import Derived.Test.YtoegghjhepkfkaaPArrx12
import Derived.Test.YtoegghjhepkfkaaPArrx8
import Derived.Test.YtoegghjhepkfkaaPArrx10
namespace Go.Proofs.Ytoegghjhepkfkaa.Pure
open Go.RowKit Go.Proofs.YtoegghjhepkfkaaW.PrintWords Go.Proofs.YtoegghjhepkfkaaW.PrintLast Go.Proofs.YtoegghjhepkfkaaW.PrintMore Go.Proofs.Ytoegghjhepkfkaa.PArr
set_option linter.unusedVariables false

theorem Ev.ite_pos {β : Type} {c : Prop} [Decidable c] {g h : Nat → Option β} {r : β} (hc : c) (e : Ev g r) : Ev (fun k => if c then g k else h k) r := Ev.congr (fun k => if_pos hc) e
theorem Ev.ite_neg {β : Type} {c : Prop} [Decidable c] {g h : Nat → Option β} {r : β} (hc : ¬ c) (e : Ev h r) : Ev (fun k => if c then g k else h k) r := Ev.congr (fun k => if_neg hc) e
theorem wr (i : Nat) (h : i < 9223372036854775807) : wrap64 ((i : Int) + 1) = ((i + 1 : Nat) : Int) := by unfold wrap64; omega

/-! ### names -/
theorem refName_step (k : Nat) (s : ByteArray) (i : Nat) (hi : i < s.size) (hs : s.size ≤ 9223372036854775807) :
    ref_NameOk.l0 (k + 1) s (i : Int) = if okAt s i = true then ref_NameOk.l0 k s ((i + 1 : Nat) : Int) else some false := by
  have e := wr i (by omega)
  have hw : wrap64 (bt s (i : Int)) = bt s (i : Int) := by have := bt_range s (i : Int); unfold wrap64; omega
  simp only [ref_NameOk.l0, ref_In.f]
  rw [if_pos (by omega), if_pos (by omega), hw, e]
  clear e hw
  unfold okAt okc
  generalize ref_NameOk.l0 k s ((i + 1 : Nat) : Int) = R
  generalize bt s (i : Int) = c
  have e0 : ((i : Int) > 0) = (0 < i) := propext (by omega)
  simp only [e0, ge_iff_le]
  by_cases h1 : 97 ≤ c <;> by_cases h2 : c ≤ 122 <;> by_cases h3 : 65 ≤ c <;> by_cases h4 : c ≤ 90 <;> by_cases h5 : c = 46 <;> by_cases h6 : c = 95 <;> by_cases h7 : c = 36 <;> by_cases h8 : 0 < i <;> by_cases h9 : 48 ≤ c <;> by_cases h10 : c ≤ 57 <;>
    first | omega | (simp [h1, h2, h3, h4, h5, h6, h7, h8, h9, h10]; done) | (simp [h1, h2, h3, h4, h5, h6, h7, h8, h9, h10]; omega)
theorem refName_l0 (s : ByteArray) (hs : s.size ≤ 9223372036854775807) : ∀ (m i : Nat), s.size - i = m → i ≤ s.size → (∀ j, j < i → okAt s j = true) → ∀ k, m < k → ref_NameOk.l0 k s (i : Int) = some (nameB s)
  | 0, i, hm, hi, ha, k, hk => by
    obtain ⟨k, rfl⟩ : ∃ q, k = q + 1 := ⟨k - 1, by omega⟩
    have : i = s.size := by omega
    subst this
    simp only [ref_NameOk.l0, ref_In.f]
    rw [if_neg (by omega)]
    have hall : (List.range s.size).all (okAt s) = true := by
      rw [List.all_eq_true]; intro j hj; exact ha j (List.mem_range.1 hj)
    unfold nameB
    rw [hall, Bool.true_and]
    by_cases h1 : 1 ≤ s.size
    · rw [if_pos (by omega), decide_eq_true h1, Bool.true_and, Option.bind_some]
      congr 1
      exact decide_eq_decide.2 (by omega)
    · rw [if_neg (by omega), decide_eq_false h1, Bool.false_and, Option.bind_some]
  | m + 1, i, hm, hi, ha, k, hk => by
    obtain ⟨k, rfl⟩ : ∃ q, k = q + 1 := ⟨k - 1, by omega⟩
    rw [refName_step k s i (by omega) hs]
    by_cases h : okAt s i = true
    · rw [if_pos h]
      exact refName_l0 s hs m (i + 1) (by omega) (by omega) (fun j hj => by
        by_cases e : j = i
        · subst e; exact h
        · exact ha j (by omega)) k (by omega)
    · rw [if_neg h]
      have : (List.range s.size).all (okAt s) = false := by
        rw [List.all_eq_false]; exact ⟨i, List.mem_range.2 (by omega), by simpa using h⟩
      unfold nameB
      rw [this, Bool.false_and]
theorem refName_ev (s : ByteArray) (hs : s.size ≤ 9223372036854775807) : Ev (fun k => ref_NameOk.f k s) (nameB s) :=
  ⟨s.size + 1, fun k hk => refName_l0 s hs s.size 0 (by omega) (by omega) (fun j hj => by omega) k (by omega)⟩
theorem rdOf_nat {α : Type} (d : α) (xs : List α) (i : Nat) (h : i < xs.length) : rdOf d xs (i : Int) = xs[i] := by unfold rdOf; simp [List.getD, List.getElem?_eq_getElem h]
theorem rd_nat (xs : List Int) (i : Nat) (h : i < xs.length) : rd xs (i : Int) = xs[i] := by unfold rd; simp [List.getD, List.getElem?_eq_getElem h]

theorem refNames_go (l : List ByteArray) (hl : l.length < 9223372036854775807) (hs : ∀ s ∈ l, s.size ≤ 9223372036854775807) : ∀ (m i : Nat), l.length - i = m → i ≤ l.length → Ev (fun k => ref_NamesOk.l0 k l (i : Int)) ((l.drop i).all nameB)
  | 0, i, hm, hi => by
    have : i = l.length := by omega
    subst this
    refine Ev.step (f := fun _ => some true) (fun k => by simp only [ref_NamesOk.l0]; rw [if_neg (by omega)]) ?_
    rw [List.drop_length]; exact Ev.now true
  | m + 1, i, hm, hi => by
    have hlt : i < l.length := by omega
    have hd : l.drop i = l[i] :: l.drop (i + 1) := List.drop_eq_getElem_cons hlt
    refine Ev.step (f := fun k => (ref_NameOk.f k l[i]).bind fun t => if t = true then ref_NamesOk.l0 k l ((i + 1 : Nat) : Int) else some false) (fun k => by
      simp only [ref_NamesOk.l0]; rw [if_pos (by omega), if_pos (by omega), rdOf_nat _ _ _ hlt, wr i (by omega)]) ?_
    refine Ev.bind (refName_ev l[i] (hs _ (List.getElem_mem hlt))) ?_
    rw [hd, List.all_cons]
    cases h : nameB l[i] with
    | true => exact Ev.ite_pos rfl (by rw [Bool.true_and]; exact refNames_go l hl hs m (i + 1) (by omega) (by omega))
    | false => exact Ev.ite_neg (by simp) (by rw [Bool.false_and]; exact Ev.now false)
theorem refNames_ev (l : List ByteArray) (hl : l.length < 9223372036854775807) (hs : ∀ s ∈ l, s.size ≤ 9223372036854775807) : Ev (fun k => ref_NamesOk.f k l) (l.all nameB) := by
  have := refNames_go l hl hs l.length 0 (by omega) (by omega)
  rw [List.drop_zero] at this
  exact this

/-! ### lists of numbers -/
theorem ints_go (a b : List Int) (hab : a.length = b.length) (hl : a.length < 9223372036854775807) : ∀ (m i : Nat), a.length - i = m → i ≤ a.length → Ev (fun k => law_ints.l0 k a b (i : Int)) (decide (a.drop i = b.drop i))
  | 0, i, hm, hi => by
    have : i = a.length := by omega
    subst this
    refine Ev.step (f := fun _ => some true) (fun k => by simp only [law_ints.l0]; rw [if_neg (by omega)]) ?_
    have : decide (a.drop a.length = b.drop a.length) = true := by rw [decide_eq_true_eq, List.drop_length, hab, List.drop_length]
    rw [this]; exact Ev.now true
  | m + 1, i, hm, hi => by
    have hlt : i < a.length := by omega
    have hlb : i < b.length := by omega
    refine Ev.step (f := fun k => if a[i] = b[i] then law_ints.l0 k a b ((i + 1 : Nat) : Int) else some false) (fun k => by
      simp only [law_ints.l0]; rw [if_pos (by omega), if_pos (by omega), if_pos (by omega), rd_nat _ _ hlt, rd_nat _ _ hlb, wr i (by omega)]) ?_
    have e : (a.drop i = b.drop i) = (a[i] = b[i] ∧ a.drop (i + 1) = b.drop (i + 1)) := by
      rw [List.drop_eq_getElem_cons hlt, List.drop_eq_getElem_cons hlb, List.cons.injEq]
    simp only [e]
    by_cases h : a[i] = b[i]
    · refine Ev.ite_pos h ?_
      simp only [h, true_and]
      exact ints_go a b hab hl m (i + 1) (by omega) (by omega)
    · refine Ev.ite_neg h ?_
      simp only [h, false_and, decide_false]
      exact Ev.now false
theorem ints_ev (a b : List Int) (hl : a.length < 9223372036854775807) : Ev (fun k => law_ints.f k a b) (decide (a = b)) := by
  unfold law_ints.f
  by_cases h : a.length = b.length
  · refine Ev.ite_pos (by omega) ?_
    have := ints_go a b h hl a.length 0 (by omega) (by omega)
    simpa using this
  · refine Ev.ite_neg (by omega) ?_
    have : decide (a = b) = false := decide_eq_false (fun e => h (by rw [e]))
    rw [this]; exact Ev.now false
theorem ints_same (a : List Int) (hl : a.length < 9223372036854775807) : Ev (fun k => law_ints.f k a a) true := by
  have := ints_ev a a hl
  rwa [decide_eq_true rfl] at this
theorem has_go (l : List Int) (x : Int) (hl : l.length < 9223372036854775807) : ∀ (m i : Nat), l.length - i = m → i ≤ l.length → Ev (fun k => ref_Has.l0 k l x (i : Int)) (decide (x ∈ l.drop i))
  | 0, i, hm, hi => by
    have : i = l.length := by omega
    subst this
    refine Ev.step (f := fun _ => some false) (fun k => by simp only [ref_Has.l0]; rw [if_neg (by omega)]) ?_
    rw [List.drop_length]; simp only [List.not_mem_nil, decide_false]; exact Ev.now false
  | m + 1, i, hm, hi => by
    have hlt : i < l.length := by omega
    refine Ev.step (f := fun k => if l[i] = x then some true else ref_Has.l0 k l x ((i + 1 : Nat) : Int)) (fun k => by
      simp only [ref_Has.l0]; rw [if_pos (by omega), if_pos (by omega), rd_nat _ _ hlt, wr i (by omega)]) ?_
    rw [List.drop_eq_getElem_cons hlt]
    by_cases h : l[i] = x
    · refine Ev.ite_pos h ?_
      rw [decide_eq_true (show x ∈ l[i] :: l.drop (i + 1) by rw [h]; exact List.mem_cons_self)]; exact Ev.now true
    · refine Ev.ite_neg h ?_
      have e : decide (x ∈ l[i] :: l.drop (i + 1)) = decide (x ∈ l.drop (i + 1)) := decide_eq_decide.2 ⟨fun m => by
        rcases List.mem_cons.1 m with m | m
        · exact absurd m.symm h
        · exact m, List.mem_cons_of_mem _⟩
      rw [e]; exact has_go l x hl m (i + 1) (by omega) (by omega)
theorem has_ev (l : List Int) (x : Int) (hl : l.length < 9223372036854775807) : Ev (fun k => ref_Has.f k l x) (decide (x ∈ l)) := by
  have := has_go l x hl l.length 0 (by omega) (by omega)
  rw [List.drop_zero] at this
  exact this

/-! ### ByNames, in one line -/
theorem byNames_eq (l0 l1 : List ByteArray) (h0 : ∀ s ∈ l0, s.size ≤ 9223372036854775807) (h1 : ∀ s ∈ l1, s.size ≤ 9223372036854775807) : arrange_ByNames.f l0 l1 =
    some (if l0.length > 200 then ([], 2, -1) else if l0.all nameB = false then ([], 12, -1) else if l1.length > 40 then ([], 2, -2) else if l1.all nameB = false then ([], 12, -2) else (wantedOrder l0 l1, 0, 0)) := by
  have a0 : l0.all (fun s => decide (s.size ≤ 9223372036854775807)) = true := by rw [List.all_eq_true]; intro s hs; simpa using h0 s hs
  have a1 : l1.all (fun s => decide (s.size ≤ 9223372036854775807)) = true := by rw [List.all_eq_true]; intro s hs; simpa using h1 s hs
  have n0 : arrange_names.f l0 200 (-1) = some (if l0.length > 200 then (2, -1) else if l0.all nameB = true then (0, 0) else (12, -1)) := by
    unfold arrange_names.f
    rw [if_pos a0]
    have : ((l0.length : Int) > 200) = (l0.length > 200) := propext (by omega)
    simp only [this]
  have n1 : arrange_names.f l1 40 (-2) = some (if l1.length > 40 then (2, -2) else if l1.all nameB = true then (0, 0) else (12, -2)) := by
    unfold arrange_names.f
    rw [if_pos a1]
    have : ((l1.length : Int) > 40) = (l1.length > 40) := propext (by omega)
    simp only [this]
  unfold arrange_ByNames.f
  rw [n0, n1]
  by_cases c1 : l0.length > 200
  · simp [c1]
  · by_cases c2 : l1.length > 40
    · cases b1 : l0.all nameB <;> simp [c1, c2]
    · have hw : arrange_Wanted.f l0 l1 = some (wantedOrder l0 l1) := by unfold arrange_Wanted.f; rw [if_pos (by omega)]
      rw [hw]
      cases b1 : l0.all nameB <;> cases b2 : l1.all nameB <;> simp [c1, c2]
end Go.Proofs.Ytoegghjhepkfkaa.Pure
