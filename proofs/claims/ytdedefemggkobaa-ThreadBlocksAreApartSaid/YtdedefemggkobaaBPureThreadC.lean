/- A module is looked at: an answer comes; with the answer 0 its sections and symbols are as they should be. No condition. -/
import Derived.Test.YtdedefemggkobaaBPureThreadB
namespace Go.Proofs.Ytdedefemggkobaa.Pure
open Go.RowKit Go.Proofs.YtdedefemggkobaaW.PrintWords Go.Proofs.YtdedefemggkobaaW.PrintLast Go.Proofs.YtdedefemggkobaaW.PrintMore Go.Proofs.Ytdedefemggkobaa.PThread
set_option linter.unusedVariables false
def RelOk (s : S46) (n : Int) : Prop := ∀ j : Int, 0 ≤ j → j < (s.f6.length : Int) → 0 ≤ (D90 s.f6 j).f2 ∧ (D90 s.f6 j).f2 < n
structure SecOk (s : S46) (n : Int) : Prop where
  kind : 1 ≤ s.f1 ∧ s.f1 ≤ 5
  align : 1 ≤ s.f2 ∧ s.f2 ≤ 256
  pow : Go.bits .and .i64 s.f2 (wrap64 (s.f2 - 1)) = 0
  size : 0 ≤ s.f4 ∧ s.f4 ≤ 1500
  zero : s.f1 = 4 → s.f3.length = 0
  data : s.f1 ≠ 4 → (s.f3.length : Int) = s.f4
  rel : RelOk s n
structure SymOk (s : S77) (n : Int) : Prop where
  bind : 1 ≤ s.f4 ∧ s.f4 ≤ 3
  sec : -2 ≤ s.f5 ∧ s.f5 < n
  undef : s.f5 = -1 → s.f4 ≠ 1
structure ModOk (m : S53) : Prop where
  nsec : m.f1.length ≤ 16
  nsym : m.f2.length ≤ 60
  secs : ∀ i : Int, 0 ≤ i → i < (m.f1.length : Int) → SecOk (D46 m.f1 i) (m.f2.length : Int)
  syms : ∀ i : Int, 0 ≤ i → i < (m.f2.length : Int) → SymOk (D77 m.f2 i) (m.f1.length : Int)
theorem section_fin (a0 : ByteArray) (l1 : List S46) (l2 : List S77) (l3 : List S81) (l4 : List ByteArray) (l5 : List S86) (h1 : l1.length ≤ 9223372036854775807) (h2 : l2.length ≤ 9223372036854775807) (h4 : l4.length ≤ 9223372036854775807) (hg : ∀ y ∈ l1, G46 y)
    (i : Int) (i0 : 0 ≤ i) (i1 : i < (l1.length : Int)) : Fin (fun k => object_section.f k a0 l1 l2 l3 l4 l5 i) (fun r => r = 0 → SecOk (D46 l1 i) (l2.length : Int)) := by
  have hs : G46 (D46 l1 i) := hg _ (mem_rd i0 i1)
  unfold object_section.f
  refine Fin.ite (fun _ => ?_) (fun h => absurd i0 h)
  refine Fin.ite (fun _ => ?_) (fun h => absurd i1 h)
  generalize D46 l1 i = s at hs
  obtain ⟨g0, g1, g2, ⟨g3, g3'⟩, g4, _, ⟨g6, g6'⟩, ⟨g7, g7'⟩, ⟨g8, g8'⟩⟩ := hs
  have k3 : Fin (fun k => object_section.j3 k a0 l1 l2 l3 l4 l5 s.f0 s.f1 s.f2 s.f3 s.f4 s.f5 s.f6 s.f7 s.f8) (fun r => r = 0 → RelOk s (l2.length : Int)) := by
    refine Fin.step (fun k => by simp only [object_section.j3]; rfl) ?_
    refine Fin.bind (relocs_fin _ _ _ _ _ _ _ _ _ _ g6 (by omega)) (fun r hr => ?_)
    refine Fin.ite (fun hz => ?_) (fun hz => Fin.some (fun h => absurd h hz))
    refine Fin.bind (rows_fin _ _ _ _ _ _ _ _ _ _ g7 g8) (fun r2 _ => Fin.some (fun _ => hr hz))
  have k2 : ∀ b : Bool, Fin (fun k => object_section.j2 k b a0 l1 l2 l3 l4 l5 s.f0 s.f1 s.f2 s.f3 s.f4 s.f5 s.f6 s.f7 s.f8) (fun r => r = 0 → RelOk s (l2.length : Int)) := by
    intro b
    refine Fin.step (fun k => by simp only [object_section.j2]; rfl) ?_
    repeat' first
      | exact Fin.err rfl
      | exact k3
      | refine Fin.ite (fun _ => ?_) (fun _ => ?_)
  have k1 : ∀ b : Bool, Fin (fun k => object_section.j1 k b a0 l1 l2 l3 l4 l5 s.f0 s.f1 s.f2 s.f3 s.f4 s.f5 s.f6 s.f7 s.f8) (fun r => r = 0 → b = false ∧ RelOk s (l2.length : Int)) := by
    intro b
    refine Fin.step (fun k => by simp only [object_section.j1]; rfl) ?_
    refine Fin.ite (fun _ => Fin.err rfl) (fun hb => ?_)
    have hb : b = false := by simpa using hb
    repeat' first
      | exact Fin.mono (k2 _) (fun r hr h => ⟨hb, hr h⟩)
      | refine Fin.ite (fun _ => ?_) (fun _ => ?_)
  have k0 : ∀ b : Bool, Fin (fun k => object_section.j0 k b a0 l1 l2 l3 l4 l5 s.f0 s.f1 s.f2 s.f3 s.f4 s.f5 s.f6 s.f7 s.f8) (fun r => r = 0 → b = false ∧ (s.f1 = 4 → s.f3.length = 0) ∧ (s.f1 ≠ 4 → (s.f3.length : Int) = s.f4) ∧ RelOk s (l2.length : Int)) := by
    intro b
    refine Fin.step (fun k => by simp only [object_section.j0]; rfl) ?_
    refine Fin.ite (fun _ => Fin.err rfl) (fun hb => ?_)
    have hb : b = false := by simpa using hb
    refine Fin.ite (fun h4 => Fin.ite (fun hl => ?_) (fun hl => ?_)) (fun h4 => ?_)
    · exact Fin.mono (k1 true) (fun r hr h => absurd (hr h).1 (by simp))
    · exact Fin.mono (k1 false) (fun r hr h => ⟨hb, fun _ => by omega, fun h => absurd h4 h, (hr h).2⟩)
    · exact Fin.mono (k1 _) (fun r hr h => ⟨hb, fun h => absurd h h4, fun _ => by have := (hr h).1; simpa using this, (hr h).2⟩)
  have dead : ∀ {Q : Prop}, Fin (fun k => object_section.j0 k true a0 l1 l2 l3 l4 l5 s.f0 s.f1 s.f2 s.f3 s.f4 s.f5 s.f6 s.f7 s.f8) (fun r => r = 0 → Q) := fun {Q} => Fin.mono (k0 true) (fun r hr h => absurd (hr h).1 (by simp))
  refine Fin.bind (isName_fin _ g0) (fun _ _ => ?_)
  refine Fin.ite (fun _ => ?_) (fun _ => Fin.err rfl)
  refine Fin.ite (fun _ => ?_) (fun h => absurd (Int.le_of_lt i1) h)
  refine Fin.bind (cf37_fin _ _) (fun _ _ => ?_)
  refine Fin.ite (fun _ => Fin.err rfl) (fun _ => ?_)
  refine Fin.bind (within_fin _ _ _) (fun t1 e1 => ?_)
  refine Fin.ite (fun b1 => ?_) (fun _ => Fin.err rfl)
  refine Fin.bind (within_fin _ _ _) (fun t2 e2 => ?_)
  refine Fin.ite (fun b2 => ?_) (fun _ => dead)
  refine Fin.ite (fun b3 => ?_) (fun _ => dead)
  refine Fin.bind (within_fin _ _ _) (fun t4 e4 => ?_)
  rw [e1] at b1
  rw [e2] at b2
  refine Fin.mono (k0 _) (fun r hr h => ?_)
  obtain ⟨c1, c2, c3, c4⟩ := hr h
  rw [e4] at c1
  exact ⟨by simpa using b1, by simpa using b2, b3, by simpa using c1, c2, c3, c4⟩
theorem symbol_fin (a0 : ByteArray) (l1 : List S46) (l2 : List S77) (l3 : List S81) (l4 : List ByteArray) (l5 : List S86) (h1 : l1.length ≤ 9223372036854775807) (h2 : l2.length ≤ 9223372036854775807) (hg : ∀ y ∈ l2, G77 y)
    (i : Int) (i0 : 0 ≤ i) (i1 : i < (l2.length : Int)) : Fin (fun k => object_symbol.f k a0 l1 l2 l3 l4 l5 i) (fun r => r = 0 → SymOk (D77 l2 i) (l1.length : Int)) := by
  have hs : G77 (D77 l2 i) := hg _ (mem_rd i0 i1)
  have hw : wrap64 ((l1.length : Int) - 1) = (l1.length : Int) - 1 := by unfold wrap64; omega
  unfold object_symbol.f
  refine Fin.ite (fun _ => ?_) (fun h => absurd i0 h)
  refine Fin.ite (fun _ => ?_) (fun h => absurd i1 h)
  generalize D77 l2 i = s at hs
  obtain ⟨g0, g1, _, _, g4, g5, g6, g7, g8⟩ := hs
  have k3 : ∀ b : Bool, s.f5 < (l1.length : Int) → Fin (fun k => object_symbol.j3 k b a0 l1 l2 l3 l4 l5 s.f0 s.f1 s.f2 s.f3 s.f4 s.f5 s.f6 s.f7 s.f8) (fun _ => True) := by
    intro b hlt
    refine Fin.step (fun k => by simp only [object_symbol.j3]; rfl) ?_
    repeat' first
      | exact Fin.some trivial
      | refine Fin.ite (fun _ => ?_) (fun _ => ?_)
      | (refine Fin.dead ?_; omega)
  have k2 : ∀ b : Bool, s.f5 < (l1.length : Int) → Fin (fun k => object_symbol.j2 k b a0 l1 l2 l3 l4 l5 s.f0 s.f1 s.f2 s.f3 s.f4 s.f5 s.f6 s.f7 s.f8) (fun r => r = 0 → b = false) := by
    intro b hlt
    refine Fin.step (fun k => by simp only [object_symbol.j2]; rfl) ?_
    refine Fin.ite (fun _ => Fin.err rfl) (fun hb => ?_)
    have hb : b = false := by simpa using hb
    repeat' first
      | exact Fin.mono (k3 _ hlt) (fun r hr h => hb)
      | refine Fin.ite (fun _ => ?_) (fun _ => ?_)
      | refine Fin.bind (within_fin _ _ _) (fun _ _ => ?_)
      | (refine Fin.dead ?_; omega)
  have k1 : ∀ b : Bool, (b = false → s.f5 < (l1.length : Int)) → Fin (fun k => object_symbol.j1 k b a0 l1 l2 l3 l4 l5 s.f0 s.f1 s.f2 s.f3 s.f4 s.f5 s.f6 s.f7 s.f8) (fun r => r = 0 → b = false ∧ (s.f5 = -1 → s.f4 ≠ 1)) := by
    intro b hlt
    refine Fin.step (fun k => by simp only [object_symbol.j1]; rfl) ?_
    refine Fin.ite (fun _ => Fin.err rfl) (fun hb => ?_)
    have hb : b = false := by simpa using hb
    have hlt := hlt hb
    refine Fin.ite (fun h5 => Fin.ite (fun h4 => ?_) (fun h4 => ?_)) (fun h5 => ?_)
    · exact Fin.mono (k2 true hlt) (fun r hr h => absurd (hr h) (by simp))
    · repeat' first
        | exact Fin.mono (k2 _ hlt) (fun r hr h => ⟨hb, fun _ => h4⟩)
        | refine Fin.ite (fun _ => ?_) (fun _ => ?_)
    · exact Fin.mono (k2 _ hlt) (fun r hr h => ⟨hb, fun h => absurd h h5⟩)
  have dead : ∀ {Q : Prop}, Fin (fun k => object_symbol.j1 k true a0 l1 l2 l3 l4 l5 s.f0 s.f1 s.f2 s.f3 s.f4 s.f5 s.f6 s.f7 s.f8) (fun r => r = 0 → Q) := fun {Q} => Fin.mono (k1 true (fun h => absurd h (by simp))) (fun r hr h => absurd (hr h).1 (by simp))
  have k0 : ∀ b : Bool, Fin (fun k => object_symbol.j0 k i b a0 l1 l2 l3 l4 l5 s.f0 s.f1 s.f2 s.f3 s.f4 s.f5 s.f6 s.f7 s.f8) (fun r => r = 0 → SymOk s (l1.length : Int)) := by
    intro b
    refine Fin.step (fun k => by simp only [object_symbol.j0]; rfl) ?_
    refine Fin.ite (fun _ => Fin.err rfl) (fun _ => ?_)
    refine Fin.ite (fun _ => ?_) (fun h => absurd i0 h)
    refine Fin.ite (fun _ => ?_) (fun h => absurd (Int.le_of_lt i1) h)
    refine Fin.bind (cf42_fin _ _) (fun _ _ => ?_)
    refine Fin.ite (fun _ => Fin.err rfl) (fun _ => ?_)
    refine Fin.bind (within_fin _ _ _) (fun t1 e1 => ?_)
    refine Fin.ite (fun b1 => ?_) (fun _ => Fin.err rfl)
    rw [hw]
    refine Fin.bind (within_fin _ _ _) (fun t2 e2 => ?_)
    refine Fin.ite (fun b2 => ?_) (fun _ => dead)
    rw [e1] at b1
    rw [e2] at b2
    have b2 : -2 ≤ s.f5 ∧ s.f5 ≤ (l1.length : Int) - 1 := by simpa using b2
    have b1 : 1 ≤ s.f4 ∧ s.f4 ≤ 3 := by simpa using b1
    repeat' first
      | exact dead
      | exact Fin.mono (k1 _ (fun _ => Int.lt_of_le_sub_one b2.2)) (fun r hr h => ⟨b1, ⟨b2.1, Int.lt_of_le_sub_one b2.2⟩, (hr h).2⟩)
      | refine Fin.ite (fun _ => ?_) (fun _ => ?_)
      | refine Fin.bind (within_fin _ _ _) (fun _ _ => ?_)
  refine Fin.bind (isName_fin _ g0) (fun _ _ => ?_)
  repeat' first
    | exact k0 _
    | refine Fin.ite (fun _ => ?_) (fun _ => ?_)
    | refine Fin.bind (isName_fin _ g1) (fun _ _ => ?_)
theorem group_fin (a0 : ByteArray) (l1 : List S46) (l2 : List S77) (l3 : List S81) (l4 : List ByteArray) (l5 : List S86) (h3 : l3.length ≤ 9223372036854775807) (hg : ∀ y ∈ l3, G81 y)
    (i : Int) (i0 : 0 ≤ i) (i1 : i < (l3.length : Int)) (u : List Bool) (hu : u.length = l1.length) : Fin (fun k => object_group.f k a0 l1 l2 l3 l4 l5 i u) (fun r => r.2.length = l1.length) := by
  have hs : G81 (D81 l3 i) := hg _ (mem_rd i0 i1)
  unfold object_group.f
  refine Fin.ite (fun _ => ?_) (fun h => absurd i0 h)
  refine Fin.ite (fun _ => ?_) (fun h => absurd i1 h)
  generalize D81 l3 i = s at hs
  obtain ⟨g0, g1, g2⟩ := hs
  have key := upto (n := (s.f1.length : Int)) (P := fun j => ∀ (u : List Bool) (e : Int), u.length = l1.length → -1 ≤ e → Fin (fun k => object_group.l0 k u e s.f1 (s.f1.length : Int) j a0 l1 l2 l3 l4 l5) (fun r => r.2.length = l1.length)) (fun j j0 j1 ih u e hu he => by
    have k1 : j < (s.f1.length : Int) → ∀ (x : Int) (b : Bool), (b = false → 0 ≤ x ∧ x < (l1.length : Int)) → Fin (fun k => object_group.j1 k u x s.f1 (s.f1.length : Int) j b a0 l1 l2 l3 l4 l5) (fun r => r.2.length = l1.length) := by
      intro hlt x b hb
      refine Fin.step (fun k => by simp only [object_group.j1]; rfl) ?_
      rw [wr j0 hlt (by omega)]
      refine Fin.ite (fun _ => Fin.some hu) (fun hf => ?_)
      have hb := hb (by simpa using hf)
      refine Fin.ite (fun _ => ?_) (fun h => absurd hb.1 h)
      refine Fin.ite (fun _ => Fin.ite (fun _ => Fin.some hu) (fun _ => ?_)) (fun h => absurd hb.2 (by omega))
      exact ih hlt _ _ (by rw [List.length_set]; exact hu) (by omega)
    refine Fin.step (fun k => by simp only [object_group.l0]; rfl) ?_
    refine Fin.ite (fun hlt => ?_) (fun _ => Fin.some hu)
    refine Fin.ite (fun _ => ?_) (fun h => absurd j0 h)
    refine Fin.ite (fun _ => ?_) (fun h => absurd hlt h)
    refine Fin.ite (fun _ => k1 hlt _ true (fun h => by cases h)) (fun hne => k1 hlt _ _ (fun h => ?_))
    simp at h
    omega)
  refine Fin.bind (isName_fin _ g0) (fun _ _ => ?_)
  refine Fin.ite (fun _ => ?_) (fun _ => Fin.some hu)
  refine Fin.ite (fun _ => ?_) (fun h => absurd (Int.le_of_lt i1) h)
  refine Fin.bind (cf44_fin _ _) (fun _ _ => ?_)
  refine Fin.ite (fun _ => Fin.some hu) (fun _ => key 0 (by omega) (by omega) _ _ hu (by omega))
theorem eachP_fin (C : Nat → Int → Option Int) (Q : Int → Prop) (n base : Int) (n0 : 0 ≤ n) (hn : n ≤ 9223372036854775807) (hC : ∀ i, 0 ≤ i → i < n → Fin (fun k => C k i) (fun r => r = 0 → Q i)) :
    Fin (fun k => eachP (C k) n base k 0) (fun r => (r.1 = 0 → r = (0, 0) ∧ ∀ j, 0 ≤ j → j < n → Q j)) := by
  have key := upto (n := n) (P := fun i => (∀ j, 0 ≤ j → j < i → Q j) → ∃ r : Int × Int, (r.1 = 0 → r = (0, 0) ∧ ∀ j, 0 ≤ j → j < n → Q j) ∧ ∃ K, ∀ k, K ≤ k → ∀ k', K ≤ k' → eachP (C k) n base k' i = some r) (fun i h0 h1 ih hq => by
    by_cases hlt : i < n
    · obtain ⟨t, ht, K, hK⟩ := hC i h0 hlt
      have hK : ∀ k, K ≤ k → C k i = some t := hK
      by_cases hz : t = 0
      · obtain ⟨r, hr, L, hL⟩ := ih hlt (fun j j0 j1 => by
          by_cases e : j = i
          · subst e; exact ht hz
          · exact hq j j0 (by omega))
        refine ⟨r, hr, max K L + 1, fun k hk k' hk' => ?_⟩
        obtain ⟨m, rfl⟩ : ∃ m, k' = m + 1 := ⟨k' - 1, by omega⟩
        simp only [eachP]
        rw [if_pos hlt, hK k (by omega)]
        simp only [Option.bind_some]
        rw [if_pos hz, wr h0 hlt hn]
        exact hL k (by omega) m (by omega)
      · refine ⟨(t, wrap64 (base + i)), fun h => absurd h hz, K + 1, fun k hk k' hk' => ?_⟩
        obtain ⟨m, rfl⟩ : ∃ m, k' = m + 1 := ⟨k' - 1, by omega⟩
        simp only [eachP]
        rw [if_pos hlt, hK k (by omega)]
        simp only [Option.bind_some]
        rw [if_neg hz]
    · refine ⟨(0, 0), fun _ => ⟨rfl, fun j j0 j1 => hq j j0 (by omega)⟩, 1, fun k hk k' hk' => ?_⟩
      obtain ⟨m, rfl⟩ : ∃ m, k' = m + 1 := ⟨k' - 1, by omega⟩
      simp only [eachP]
      rw [if_neg hlt])
  obtain ⟨r, hr, K, hK⟩ := key 0 (by omega) n0 (fun j j0 j1 => absurd j1 (by omega))
  exact ⟨r, hr, K, fun k hk => hK k hk k hk⟩
theorem eachL_fin {σ : Type} (C : Nat → Int → σ → Option (Int × σ)) (I : σ → Prop) (n base : Int) (n0 : 0 ≤ n) (hn : n ≤ 9223372036854775807) (s : σ) (hs : I s) (hC : ∀ i s, 0 ≤ i → i < n → I s → Fin (fun k => C k i s) (fun r => I r.2)) :
    Fin (fun k => eachL (C k) n base k 0 s) (fun r => (r.1 = 0 → r.2.1 = 0)) := by
  have key := upto (n := n) (P := fun i => ∀ s, I s → ∃ r : Int × Int × σ, (r.1 = 0 → r.2.1 = 0) ∧ ∃ K, ∀ k, K ≤ k → ∀ k', K ≤ k' → eachL (C k) n base k' i s = some r) (fun i h0 h1 ih s hs => by
    by_cases hlt : i < n
    · obtain ⟨t, ht, K, hK⟩ := hC i s h0 hlt hs
      have hK : ∀ k, K ≤ k → C k i s = some t := hK
      by_cases hz : t.1 = 0
      · obtain ⟨r, hr, L, hL⟩ := ih hlt t.2 ht
        refine ⟨r, hr, max K L + 1, fun k hk k' hk' => ?_⟩
        obtain ⟨m, rfl⟩ : ∃ m, k' = m + 1 := ⟨k' - 1, by omega⟩
        simp only [eachL]
        rw [if_pos hlt, hK k (by omega)]
        simp only [Option.bind_some]
        rw [if_pos hz, wr h0 hlt hn]
        exact hL k (by omega) m (by omega)
      · refine ⟨(t.1, wrap64 (base + i), t.2), fun h => absurd h hz, K + 1, fun k hk k' hk' => ?_⟩
        obtain ⟨m, rfl⟩ : ∃ m, k' = m + 1 := ⟨k' - 1, by omega⟩
        simp only [eachL]
        rw [if_pos hlt, hK k (by omega)]
        simp only [Option.bind_some]
        rw [if_neg hz]
    · refine ⟨(0, 0, s), fun _ => rfl, 1, fun k hk k' hk' => ?_⟩
      obtain ⟨m, rfl⟩ : ∃ m, k' = m + 1 := ⟨k' - 1, by omega⟩
      simp only [eachL]
      rw [if_neg hlt])
  obtain ⟨r, hr, K, hK⟩ := key 0 (by omega) n0 s hs
  exact ⟨r, hr, K, fun k hk => hK k hk k hk⟩
theorem tooMany_fin (a0 : ByteArray) (l1 : List S46) (l2 : List S77) (l3 : List S81) (l4 : List ByteArray) (l5 : List S86) : Fin (fun _ => object_tooMany.f a0 l1 l2 l3 l4 l5) (fun r => r = false → l1.length ≤ 16 ∧ l2.length ≤ 60) := by
  unfold object_tooMany.f
  refine Fin.ite (fun _ => Fin.some (fun h => by cases h)) (fun _ => Fin.ite (fun _ => Fin.some (fun h => by cases h)) (fun _ => Fin.ite (fun _ => Fin.some (fun h => by cases h)) (fun _ => Fin.some (fun _ => by omega))))
theorem validate_fin (m : S53) (hg : G53 m) : Fin (fun k => object_Validate.f k m.f0 m.f1 m.f2 m.f3 m.f4 m.f5) (fun r => r.1 = 0 → r = (0, 0) ∧ ModOk m) := by
  obtain ⟨g0, ⟨g1, g1'⟩, ⟨g2, g2'⟩, ⟨g3, g3'⟩, ⟨g4, g4'⟩, ⟨g5, g5'⟩⟩ := hg
  unfold object_Validate.f
  refine Fin.bind (isName_fin _ g0) (fun _ _ => ?_)
  refine Fin.ite (fun _ => ?_) (fun _ => Fin.some (fun h => absurd h (by decide)))
  refine Fin.bind (tooMany_fin _ _ _ _ _ _) (fun t ht => ?_)
  refine Fin.ite (fun _ => Fin.some (fun h => absurd h (by decide))) (fun hf => ?_)
  have hm := ht (by simpa using hf)
  have key := upto (n := (m.f4.length : Int)) (P := fun i => Fin (fun k => object_Validate.l0 k m.f4 (m.f4.length : Int) i m.f0 m.f1 m.f2 m.f3 m.f4 m.f5) (fun r => r.1 = 0 → r = (0, 0) ∧ ModOk m)) (fun i h0 h1 ih => by
    refine Fin.step (fun k => by simp only [object_Validate.l0]; rfl) ?_
    refine Fin.ite (fun hlt => ?_) (fun hge => ?_)
    · refine Fin.ite (fun _ => ?_) (fun h => absurd h0 h)
      refine Fin.ite (fun _ => ?_) (fun h => absurd hlt h)
      refine Fin.bind (isName_fin _ (g4' _ (mem_rd h0 hlt))) (fun _ _ => ?_)
      refine Fin.ite (fun _ => ?_) (fun _ => Fin.some (fun h => absurd h (show ¬ (12 : Int) = 0 by decide)))
      refine Fin.ite (fun _ => ?_) (fun h => absurd h1 h)
      refine Fin.bind (contains_fin _ _ (by rw [List.length_take]; omega)) (fun _ _ => ?_)
      refine Fin.ite (fun _ => Fin.some (fun h => absurd h (show ¬ (12 : Int) = 0 by decide))) (fun _ => ?_)
      rw [wr h0 hlt (by omega)]
      exact ih hlt
    · refine Fin.bind (recValidate_fin _ g5 g5') (fun r hr => ?_)
      refine Fin.ite (fun hb => Fin.some (fun h => ?_)) (fun hb => ?_)
      · rw [hr h] at hb
        simp at hb
      · refine Fin.bind (eachP_fin (fun k i => object_section.f k m.f0 m.f1 m.f2 m.f3 m.f4 m.f5 i) (fun i => SecOk (D46 m.f1 i) (m.f2.length : Int)) _ _ (by omega) (by omega) (fun i i0 i1 => section_fin _ _ _ _ _ _ g1 g2 g4 g1' i i0 i1)) (fun r1 hr1 => ?_)
        refine Fin.ite (fun hz1 => ?_) (fun hz1 => Fin.some (fun h => ?_))
        · have hz1 : r1.1 = 0 := by simp at hz1; exact hz1.1
          obtain ⟨_, hsec⟩ := hr1 hz1
          refine Fin.bind (eachP_fin (fun k i => object_symbol.f k m.f0 m.f1 m.f2 m.f3 m.f4 m.f5 i) (fun i => SymOk (D77 m.f2 i) (m.f1.length : Int)) _ _ (by omega) (by omega) (fun i i0 i1 => symbol_fin _ _ _ _ _ _ g1 g2 g2' i i0 i1)) (fun r2 hr2 => ?_)
          refine Fin.ite (fun hz2 => ?_) (fun hz2 => Fin.some (fun h => ?_))
          · have hz2 : r2.1 = 0 := by simp at hz2; exact hz2.1
            obtain ⟨_, hsym⟩ := hr2 hz2
            refine Fin.ite (fun _ => ?_) (fun h => absurd (Int.natCast_nonneg _) h)
            refine Fin.ite (fun _ => ?_) (fun h => absurd (show ((m.f1.length : Int)).toNat ≤ 281474976710656 by omega) h)
            refine Fin.bind (Fin.map (f := fun t : Int × Int × List Bool => (t.1, t.2.1)) (P := fun r : Int × Int => r.1 = 0 → r.2 = 0) (eachL_fin (fun k i s => object_group.f k m.f0 m.f1 m.f2 m.f3 m.f4 m.f5 i s) (fun u => u.length = m.f1.length) _ _ (by omega) (by omega) _ (by simp) (fun i s i0 i1 hs => group_fin _ _ _ _ _ _ g3 g3' i i0 i1 s hs))) (fun r3 hr3 => Fin.some (fun h => ?_))
            exact ⟨Prod.ext h (hr3 h), ⟨hm.1, hm.2, hsec, hsym⟩⟩
          · rw [(hr2 h).1] at hz2
            simp at hz2
        · rw [(hr1 h).1] at hz1
          simp at hz1)
  exact key 0 (by omega) (by omega)
/-- What the look at a module answers. -/
noncomputable def V (m : S53) : Int × Int := open Classical in if hg : G53 m then (validate_fin m hg).choose else (0, 0)
theorem V_spec (m : S53) (hg : G53 m) : ((V m).1 = 0 → V m = (0, 0) ∧ ModOk m) ∧ Ev (fun k => object_Validate.f k m.f0 m.f1 m.f2 m.f3 m.f4 m.f5) (V m) := by
  unfold V
  rw [dif_pos hg]
  exact (validate_fin m hg).choose_spec
end Go.Proofs.Ytdedefemggkobaa.Pure
