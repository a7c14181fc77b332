/- The functions that look at records and modules come to an answer; what the answer 0 says. No condition. -/
import Derived.Test.YtdedefemggkobaaBPureThreadA
namespace Go.Proofs.Ytdedefemggkobaa.Pure
open Go.RowKit Go.Proofs.YtdedefemggkobaaW.PrintWords Go.Proofs.YtdedefemggkobaaW.PrintLast Go.Proofs.YtdedefemggkobaaW.PrintMore Go.Proofs.Ytdedefemggkobaa.PThread
set_option linter.unusedVariables false
theorem mem_rd {α : Type} {l : List α} {z : α} {i : Int} (h0 : 0 ≤ i) (h1 : i < (l.length : Int)) : l.getD i.toNat z ∈ l := by
  have h : i.toNat < l.length := by omega
  rw [List.getD_eq_getElem?_getD, List.getElem?_eq_getElem h]
  exact List.getElem_mem h
theorem g86_at {l : List S86} (hl : ∀ y ∈ l, G86 y) {i : Int} (h0 : 0 ≤ i) (h1 : i < (l.length : Int)) : G86 (D86 l i) := hl _ (mem_rd h0 h1)
theorem g98_at {l : List S98} (hl : ∀ y ∈ l, G98 y) {i : Int} (h0 : 0 ≤ i) (h1 : i < (l.length : Int)) : G98 (D98 l i) := hl _ (mem_rd h0 h1)
theorem cf51_fin (l : List S98) (a : ByteArray) : Fin (fun _ => cf51_52.f l a) (fun _ => True) := by unfold cf51_52.f; exact Fin.some trivial
theorem cf37_fin (l : List S46) (a : ByteArray) : Fin (fun _ => cf37_38.f l a) (fun _ => True) := by unfold cf37_38.f; exact Fin.some trivial
theorem cf42_fin (l : List S77) (a : ByteArray) : Fin (fun _ => cf42_43.f l a) (fun _ => True) := by unfold cf42_43.f; exact Fin.some trivial
theorem cf44_fin (l : List S81) (a : ByteArray) : Fin (fun _ => cf44_45.f l a) (fun _ => True) := by unfold cf44_45.f; exact Fin.some trivial
/-- field k of record i: with the answer 0 its type lies ahead of i. -/
theorem recField_fin (l : List S86) (hl : l.length ≤ 9223372036854775807) (hg : ∀ y ∈ l, G86 y) (i j : Int) (h0 : 0 ≤ i) (h1 : i < (l.length : Int)) (h2 : 0 ≤ j) (h3 : j < ((D86 l i).f5.length : Int))
    (hp : 0 < j → 0 ≤ (D98 (D86 l i).f5 (j - 1)).f1 ∧ (D98 (D86 l i).f5 (j - 1)).f1 < i) :
    Fin (fun k => records_field.f k l i j) (fun r => r = 0 → 0 ≤ (D98 (D86 l i).f5 j).f1 ∧ (D98 (D86 l i).f5 j).f1 < i) := by
  have hgi := g86_at hg h0 h1
  have hgj := g98_at hgi.2.2.2.2.2.2 h2 h3
  have hlen := hgi.2.2.2.2.2.1
  have hn := isName_fin _ hgj.1
  have k1 : ∀ (x9 : Int) (b : Bool) (a0 : Int) (a1 : ByteArray) (a2 a3 a4 : Int) (a5 : List S98) (b0 : ByteArray) (b1 b2 : Int), (b = false → 0 ≤ b1 ∧ b1 < i) →
      Fin (fun k => records_field.j1 k l x9 b a0 a1 a2 a3 a4 a5 b0 b1 b2) (fun r => r = 0 → 0 ≤ b1 ∧ b1 < i) := by
    intro x9 b a0 a1 a2 a3 a4 a5 b0 b1 b2 hb
    refine Fin.step (fun k => by simp only [records_field.j1]; rfl) ?_
    refine Fin.ite (fun _ => Fin.err rfl) (fun hb2 => ?_)
    have hb := hb (by simpa using hb2)
    repeat' first
      | exact Fin.err rfl
      | exact Fin.some (fun _ => hb)
      | refine Fin.ite (fun _ => ?_) (fun _ => ?_)
      | (refine Fin.dead ?_; omega)
  have k0 : ∀ (x9 : Int) (a0 : Int) (a1 : ByteArray) (a2 a3 a4 : Int),
      Fin (fun k => records_field.j0 k l i j x9 a0 a1 a2 a3 a4 (D86 l i).f5 (D98 (D86 l i).f5 j).f0 (D98 (D86 l i).f5 j).f1 (D98 (D86 l i).f5 j).f2) (fun r => r = 0 → 0 ≤ (D98 (D86 l i).f5 j).f1 ∧ (D98 (D86 l i).f5 j).f1 < i) := by
    intro x9 a0 a1 a2 a3 a4
    refine Fin.step (fun k => by simp only [records_field.j0]; rfl) ?_
    refine Fin.bind hn (fun _ _ => ?_)
    repeat' first
      | exact Fin.err rfl
      | refine Fin.ite (fun _ => ?_) (fun _ => ?_)
      | refine Fin.bind (cf51_fin _ _) (fun _ _ => ?_)
      | (refine k1 _ _ _ _ _ _ _ _ _ _ _ ?_; intro hh; first | (cases hh; done) | (simp at hh; omega))
      | (refine Fin.dead ?_; omega)
  unfold records_field.f
  by_cases hj : j > 0
  · have hw : wrap64 (j - 1) = j - 1 := by unfold wrap64; omega
    have hp := hp hj
    rw [hw]
    repeat' first
      | exact k0 _ _ _ _ _ _
      | refine Fin.ite (fun _ => ?_) (fun _ => ?_)
      | (refine Fin.dead ?_; omega)
  · repeat' first
      | exact k0 _ _ _ _ _ _
      | (refine Fin.ite (fun _ => Fin.dead (by omega)) (fun _ => ?_))
      | refine Fin.ite (fun _ => ?_) (fun _ => ?_)
      | (refine Fin.dead ?_; omega)
theorem recCheck_fin (l : List S86) (hl : l.length ≤ 9223372036854775807) (hg : ∀ y ∈ l, G86 y) (i : Int) (h0 : 0 ≤ i) (h1 : i < (l.length : Int)) : Fin (fun k => records_check.f k l i) (fun _ => True) := by
  have hgi := g86_at hg h0 h1
  have hlen := hgi.2.2.2.2.2.1
  have hn := isName_fin _ hgi.2.1
  have loop : ∀ n : Int, n = ((D86 l i).f5.length : Int) → Fin (fun k => records_check.l0 k l i n 0) (fun _ => True) := by
    intro n hn
    have key := upto (n := n) (P := fun j => (0 < j → 0 ≤ (D98 (D86 l i).f5 (j - 1)).f1 ∧ (D98 (D86 l i).f5 (j - 1)).f1 < i) → Fin (fun k => records_check.l0 k l i n j) (fun _ => True)) (fun j j0 j1 ih hp => by
      refine Fin.step (fun k => by simp only [records_check.l0]; rfl) ?_
      refine Fin.ite (fun hlt => ?_) (fun _ => Fin.some trivial)
      refine Fin.bind (recField_fin l hl hg i j h0 h1 j0 (by omega) hp) (fun r hr => ?_)
      refine Fin.ite (fun hz => ?_) (fun _ => Fin.some trivial)
      rw [wr j0 hlt (by omega)]
      refine ih hlt (fun _ => ?_)
      rw [show j + 1 - 1 = j by omega]
      exact hr hz)
    exact key 0 (by omega) (by omega) (fun h => absurd h (by omega))
  have k6 : ∀ (b : Bool) (a0 : Int) (a1 : ByteArray) (a2 a3 a4 : Int), Fin (fun k => records_check.j6 k l i b a0 a1 a2 a3 a4 (D86 l i).f5) (fun _ => True) := by
    intro b a0 a1 a2 a3 a4
    refine Fin.step (fun k => by simp only [records_check.j6]; rfl) ?_
    refine Fin.ite (fun _ => Fin.some trivial) (fun _ => Fin.ite (fun _ => Fin.some trivial) (fun _ => loop _ rfl))
  have k5 : ∀ (b : Bool) (a0 : Int) (a1 : ByteArray) (a2 a3 a4 : Int), (0 ≤ a3 ∧ a3 < (l.length : Int)) → Fin (fun k => records_check.j5 k l i b a0 a1 a2 a3 a4 (D86 l i).f5) (fun _ => True) := by
    intro b a0 a1 a2 a3 a4 ha
    refine Fin.step (fun k => by simp only [records_check.j5]; rfl) ?_
    repeat' first
      | exact Fin.some trivial
      | exact k6 _ _ _ _ _ _
      | refine Fin.ite (fun _ => ?_) (fun _ => ?_)
      | (refine Fin.dead ?_; omega)
  have k4 : ∀ (b : Bool) (a0 : Int) (a1 : ByteArray) (a2 a3 a4 : Int), (0 ≤ a3 ∧ a3 < (l.length : Int)) → Fin (fun k => records_check.j4 k l i b a0 a1 a2 a3 a4 (D86 l i).f5) (fun _ => True) := by
    intro b a0 a1 a2 a3 a4 ha
    refine Fin.step (fun k => by simp only [records_check.j4]; rfl) ?_
    repeat' first
      | exact Fin.some trivial
      | exact k5 _ _ _ _ _ _ ha
      | refine Fin.ite (fun _ => ?_) (fun _ => ?_)
  have k3 : ∀ (b : Bool) (a0 : Int) (a1 : ByteArray) (a2 a3 a4 : Int), (0 ≤ a3 ∧ a3 < (l.length : Int)) → Fin (fun k => records_check.j3 k l i b a0 a1 a2 a3 a4 (D86 l i).f5) (fun _ => True) := by
    intro b a0 a1 a2 a3 a4 ha
    refine Fin.step (fun k => by simp only [records_check.j3]; rfl) ?_
    repeat' first
      | exact Fin.some trivial
      | exact k4 _ _ _ _ _ _ ha
      | refine Fin.ite (fun _ => ?_) (fun _ => ?_)
  have k2 : ∀ (b : Bool) (a0 : Int) (a1 : ByteArray) (a2 a3 a4 : Int), (b = false → 0 ≤ a3 ∧ a3 < (l.length : Int)) → Fin (fun k => records_check.j2 k l i b a0 a1 a2 a3 a4 (D86 l i).f5) (fun _ => True) := by
    intro b a0 a1 a2 a3 a4 ha
    refine Fin.step (fun k => by simp only [records_check.j2]; rfl) ?_
    refine Fin.ite (fun _ => Fin.some trivial) (fun hb => ?_)
    have ha := ha (by simpa using hb)
    repeat' first
      | exact Fin.some trivial
      | exact k3 _ _ _ _ _ _ ha
      | refine Fin.ite (fun _ => ?_) (fun _ => ?_)
  have k1 : ∀ (b : Bool) (a0 : Int) (a1 : ByteArray) (a2 a3 a4 : Int), Fin (fun k => records_check.j1 k l i b a0 a1 a2 a3 a4 (D86 l i).f5) (fun _ => True) := by
    intro b a0 a1 a2 a3 a4
    refine Fin.step (fun k => by simp only [records_check.j1]; rfl) ?_
    repeat' first
      | exact Fin.some trivial
      | (refine k2 _ _ _ _ _ _ ?_; intro hh; first | (cases hh; done) | (simp at hh; omega))
      | refine Fin.ite (fun _ => ?_) (fun _ => ?_)
  have k0 : ∀ (b : Bool) (a0 : Int) (a2 a3 a4 : Int), Fin (fun k => records_check.j0 k l i b a0 (D86 l i).f1 a2 a3 a4 (D86 l i).f5) (fun _ => True) := by
    intro b a0 a2 a3 a4
    refine Fin.step (fun k => by simp only [records_check.j0]; rfl) ?_
    repeat' first
      | exact Fin.some trivial
      | exact k1 _ _ _ _ _ _
      | refine Fin.ite (fun _ => ?_) (fun _ => ?_)
      | refine Fin.bind hn (fun _ _ => ?_)
  unfold records_check.f
  repeat' first
    | exact k0 _ _ _ _ _
    | refine Fin.ite (fun _ => ?_) (fun _ => ?_)
    | (refine Fin.dead ?_; omega)
theorem recValidate_fin (l : List S86) (hl : l.length ≤ 9223372036854775807) (hg : ∀ y ∈ l, G86 y) : Fin (fun k => records_Validate.f k l) (fun r => r.1 = 0 → r = (0, 0)) := by
  have key := upto (n := (l.length : Int)) (P := fun i => Fin (fun k => records_Validate.l0 k l (l.length : Int) i) (fun r => r.1 = 0 → r = (0, 0))) (fun i h0 h1 ih => by
    refine Fin.step (fun k => by simp only [records_Validate.l0]; rfl) ?_
    refine Fin.ite (fun hlt => ?_) (fun _ => Fin.some (fun _ => rfl))
    refine Fin.bind (recCheck_fin l hl hg i h0 hlt) (fun r _ => ?_)
    refine Fin.ite (fun _ => ?_) (fun hr => Fin.some (fun h => absurd h hr))
    rw [wr h0 hlt (by omega)]
    exact ih hlt)
  unfold records_Validate.f
  exact Fin.ite (fun _ => Fin.some (fun h => absurd h (by decide))) (fun _ => key 0 (by omega) (by omega))
/-- The relocations of a section: with the answer 0 their symbols exist. -/
theorem relocs_fin (a0 : ByteArray) (a1 a2 : Int) (a3 : List Int) (a4 : Int) (a5 : Bool) (l : List S90) (l7 : List S92) (l8 : List S94) (n : Int) (hl : l.length ≤ 9223372036854775807) (hn : 0 ≤ n ∧ n ≤ 9223372036854775807) :
    Fin (fun k => object_relocs.f k a0 a1 a2 a3 a4 a5 l l7 l8 n) (fun r => r = 0 → ∀ j : Int, 0 ≤ j → j < (l.length : Int) → 0 ≤ (D90 l j).f2 ∧ (D90 l j).f2 < n) := by
  have hw : wrap64 (n - 1) = n - 1 := by unfold wrap64; omega
  have key := upto (n := (l.length : Int)) (P := fun i => (∀ j : Int, 0 ≤ j → j < i → 0 ≤ (D90 l j).f2 ∧ (D90 l j).f2 < n) → ∀ e : Int, Fin (fun k => object_relocs.l0 k n e l (l.length : Int) i a0 a1 a2 a3 a4 a5 l l7 l8) (fun r => r = 0 → ∀ j : Int, 0 ≤ j → j < (l.length : Int) → 0 ≤ (D90 l j).f2 ∧ (D90 l j).f2 < n)) (fun i h0 h1 ih hp e => by
    have k1 : i < (l.length : Int) → ∀ (s : Int) (b : Bool), Fin (fun k => object_relocs.j1 k n s l (l.length : Int) i b a0 a1 a2 a3 a4 a5 l l7 l8 (D90 l i).f0 (D90 l i).f1 (D90 l i).f2 (D90 l i).f3) (fun r => r = 0 → ∀ j : Int, 0 ≤ j → j < (l.length : Int) → 0 ≤ (D90 l j).f2 ∧ (D90 l j).f2 < n) := by
      intro hlt s b
      refine Fin.step (fun k => by simp only [object_relocs.j1]; rfl) ?_
      rw [hw, wr h0 hlt (by omega)]
      refine Fin.ite (fun _ => Fin.err rfl) (fun _ => ?_)
      refine Fin.bind (within_fin _ _ _) (fun t ht => ?_)
      refine Fin.ite (fun htt => ?_) (fun _ => Fin.err rfl)
      have hs : 0 ≤ (D90 l i).f2 ∧ (D90 l i).f2 ≤ n - 1 := by rw [ht] at htt; simpa using htt
      have hp' : ∀ j : Int, 0 ≤ j → j < i + 1 → 0 ≤ (D90 l j).f2 ∧ (D90 l j).f2 < n := by
        intro j hj hj2
        by_cases e : j = i
        · subst e; omega
        · exact hp j hj (by omega)
      refine Fin.bind (within_fin _ _ _) (fun t ht => ?_)
      repeat' first
        | exact Fin.err rfl
        | exact ih hlt hp' _
        | refine Fin.ite (fun _ => ?_) (fun _ => ?_)
    refine Fin.step (fun k => by simp only [object_relocs.l0]; rfl) ?_
    refine Fin.ite (fun hlt => ?_) (fun hge => Fin.some (fun _ j hj hj2 => hp j hj (by omega)))
    repeat' first
      | exact Fin.err rfl
      | exact k1 hlt _ _
      | refine Fin.ite (fun _ => ?_) (fun _ => ?_)
      | refine Fin.bind (field_fin _) (fun _ _ => ?_)
      | (refine Fin.dead ?_; omega))
  exact key 0 (by omega) (by omega) (fun j hj hj2 => absurd hj2 (by omega)) 0
theorem rows_fin (a0 : ByteArray) (a1 a2 : Int) (a3 : List Int) (a4 : Int) (a5 : Bool) (l6 : List S90) (l7 : List S92) (l8 : List S94) (n : Int) (h7 : l7.length ≤ 9223372036854775807) (h8 : l8.length ≤ 9223372036854775807) :
    Fin (fun k => object_rows.f k a0 a1 a2 a3 a4 a5 l6 l7 l8 n) (fun _ => True) := by
  have key2 := upto (n := (l8.length : Int)) (P := fun i => ∀ e : Int, Fin (fun k => object_rows.l1 k e l8 (l8.length : Int) i a0 a1 a2 a3 a4 a5 l6 l7 l8) (fun _ => True)) (fun i h0 h1 ih e => by
    have k3 : i < (l8.length : Int) → ∀ (b : Bool) (b0 b1 b2 b3 : Int), Fin (fun k => object_rows.j3 k l8 (l8.length : Int) i b a0 a1 a2 a3 a4 a5 l6 l7 l8 b0 b1 b2 b3) (fun _ => True) := by
      intro hlt b b0 b1 b2 b3
      refine Fin.step (fun k => by simp only [object_rows.j3]; rfl) ?_
      rw [wr h0 hlt (by omega)]
      repeat' first
        | exact Fin.some trivial
        | exact ih hlt _
        | refine Fin.ite (fun _ => ?_) (fun _ => ?_)
        | refine Fin.bind (within_fin _ _ _) (fun _ _ => ?_)
    refine Fin.step (fun k => by simp only [object_rows.l1]; rfl) ?_
    repeat' first
      | exact Fin.some trivial
      | (refine k3 ?_ _ _ _ _ _; assumption)
      | refine Fin.ite (fun _ => ?_) (fun _ => ?_)
      | (refine Fin.dead ?_; omega))
  have key := upto (n := (l7.length : Int)) (P := fun i => ∀ e : Int, Fin (fun k => object_rows.l0 k n e l7 (l7.length : Int) i a0 a1 a2 a3 a4 a5 l6 l7 l8) (fun _ => True)) (fun i h0 h1 ih e => by
    have k1 : i < (l7.length : Int) → ∀ (b : Bool) (b0 b1 b2 : Int), Fin (fun k => object_rows.j1 k n l7 (l7.length : Int) i b a0 a1 a2 a3 a4 a5 l6 l7 l8 b0 b1 b2) (fun _ => True) := by
      intro hlt b b0 b1 b2
      refine Fin.step (fun k => by simp only [object_rows.j1]; rfl) ?_
      rw [wr h0 hlt (by omega)]
      repeat' first
        | exact Fin.some trivial
        | exact ih hlt _
        | refine Fin.ite (fun _ => ?_) (fun _ => ?_)
        | refine Fin.bind (within_fin _ _ _) (fun _ _ => ?_)
    refine Fin.step (fun k => by simp only [object_rows.l0]; rfl) ?_
    repeat' first
      | exact Fin.some trivial
      | (refine k1 ?_ _ _ _ _; assumption)
      | (refine key2 0 ?_ ?_ _ <;> omega)
      | refine Fin.ite (fun _ => ?_) (fun _ => ?_)
      | (refine Fin.dead ?_; omega))
  exact key 0 (by omega) (by omega) _
end Go.Proofs.Ytdedefemggkobaa.Pure
