/- Lemmas on printed functions that want rounds: such a function comes to an answer with a property, step by step; the functions on names, records and lists of modules. No condition. -/
import Derived.Test.YtdedefemggkobaaBPThreadx12
import Derived.Test.YtdedefemggkobaaBPThreadx13
import Derived.Test.YtdedefemggkobaaBPThreadx14
import Derived.Test.YtdedefemggkobaaBPThreadx15
import Derived.Test.YtdedefemggkobaaBPThreadx16
import Derived.Test.YtdedefemggkobaaBPThreadx17
namespace Go.Proofs.Ytdedefemggkobaa.Pure
open Go.RowKit Go.Proofs.YtdedefemggkobaaW.PrintWords Go.Proofs.YtdedefemggkobaaW.PrintLast Go.Proofs.YtdedefemggkobaaW.PrintMore Go.Proofs.Ytdedefemggkobaa.PThread
set_option linter.unusedVariables false
/-- With enough rounds g comes to some r with the property P. -/
def Fin {β : Type} (g : Nat → Option β) (P : β → Prop) : Prop := ∃ r, P r ∧ Ev g r
theorem Fin.some {β : Type} {P : β → Prop} {r : β} (h : P r) : Fin (fun _ => Option.some r) P := ⟨r, h, Ev.now r⟩
theorem Fin.ite {β : Type} {c : Prop} [Decidable c] {g h : Nat → Option β} {P : β → Prop} (a : c → Fin g P) (b : ¬ c → Fin h P) : Fin (fun k => if c then g k else h k) P := by
  by_cases hc : c
  · obtain ⟨r, hp, e⟩ := a hc
    exact ⟨r, hp, Ev.congr (fun k => if_pos hc) e⟩
  · obtain ⟨r, hp, e⟩ := b hc
    exact ⟨r, hp, Ev.congr (fun k => if_neg hc) e⟩
theorem Fin.bind {α β : Type} {g : Nat → Option α} {f : Nat → α → Option β} {Q : α → Prop} {P : β → Prop} (h : Fin g Q) (k : ∀ r, Q r → Fin (fun n => f n r) P) : Fin (fun n => (g n).bind (f n)) P := by
  obtain ⟨r, hq, e⟩ := h
  obtain ⟨s, hp, e2⟩ := k r hq
  exact ⟨s, hp, Ev.bind e e2⟩
theorem Fin.step {β : Type} {g f : Nat → Option β} {P : β → Prop} (h : ∀ k, g (k + 1) = f k) (k : Fin f P) : Fin g P := by
  obtain ⟨r, hp, e⟩ := k
  exact ⟨r, hp, Ev.step h e⟩
theorem Fin.mono {β : Type} {g : Nat → Option β} {P Q : β → Prop} (h : Fin g P) (k : ∀ r, P r → Q r) : Fin g Q := by
  obtain ⟨r, hp, e⟩ := h
  exact ⟨r, k r hp, e⟩
theorem Fin.dead {β : Type} {g : Nat → Option β} {P : β → Prop} (h : False) : Fin g P := h.elim
theorem Fin.err {r : Int} {Q : Prop} (h : (r == 0) = false) : Fin (fun _ => Option.some r) (fun r => r = 0 → Q) := Fin.some (fun e => by subst e; simp at h)
theorem Fin.map {α β : Type} {g : Nat → Option α} {f : α → β} {P : β → Prop} (h : Fin g (fun r => P (f r))) : Fin (fun n => (g n).map f) P := by
  obtain ⟨r, hp, K, e⟩ := h
  exact ⟨f r, hp, K, fun k hk => by show Option.map f (g k) = _; rw [e k hk]; rfl⟩
/-- Upwards to n. -/
theorem upto {P : Int → Prop} {n : Int} (h : ∀ i, 0 ≤ i → i ≤ n → (i < n → P (i + 1)) → P i) : ∀ i, 0 ≤ i → i ≤ n → P i := by
  have key : ∀ (d : Nat) (i : Int), 0 ≤ i → i ≤ n → n - i = d → P i := by
    intro d
    induction d with
    | zero => intro i h0 h1 hd; exact h i h0 h1 (fun hlt => by omega)
    | succ d ih => intro i h0 h1 hd; exact h i h0 h1 (fun hlt => ih (i + 1) (by omega) (by omega) (by omega))
  intro i h0 h1
  exact key (n - i).toNat i h0 h1 (by omega)
theorem wr {i n : Int} (h0 : 0 ≤ i) (h : i < n) (hn : n ≤ 9223372036854775807) : wrap64 (i + 1) = i + 1 := by unfold wrap64; omega
theorem wid {i : Int} (h0 : -9223372036854775808 ≤ i) (h : i ≤ 9223372036854775807) : wrap64 i = i := by unfold wrap64; omega
theorem digit_fin (c : Int) : Fin (fun _ => token_isDigit.f c) (fun _ => True) := by
  unfold token_isDigit.f
  refine Fin.ite (fun _ => Fin.some trivial) (fun _ => Fin.some trivial)
theorem nameByte_fin (c : Int) : Fin (fun _ => token_isNameByte.f c) (fun _ => True) := by
  unfold token_isNameByte.f
  repeat' first
    | exact Fin.some trivial
    | refine Fin.ite (fun _ => ?_) (fun _ => ?_)
    | refine Fin.bind (digit_fin _) (fun _ _ => ?_)
theorem isName_fin (x : ByteArray) (hx : x.size ≤ 9223372036854775807) : Fin (fun k => token_IsName.f k x) (fun _ => True) := by
  have key := upto (n := (x.size : Int)) (P := fun i => Fin (fun k => token_IsName.l0 k x (x.size : Int) i) (fun _ => True)) (fun i h0 h1 ih => by
    refine Fin.step (fun k => by simp only [token_IsName.l0]; rfl) ?_
    have step : i < (x.size : Int) → Fin (fun k => token_IsName.l0 k x (x.size : Int) (wrap64 (i + 1))) (fun _ => True) := fun hlt => by rw [wr h0 hlt (by omega)]; exact ih hlt
    repeat' first
      | exact Fin.some trivial
      | refine Fin.ite (fun _ => ?_) (fun _ => ?_)
      | refine Fin.bind (nameByte_fin _) (fun _ _ => ?_)
      | refine Fin.bind (digit_fin _) (fun _ _ => ?_)
      | (refine step ?_; assumption)
      | (refine Fin.dead ?_; omega))
  exact key 0 (by omega) (by omega)
theorem within_fin (a b c : Int) : Fin (fun _ => object_within.f a b c) (fun r => r = decide (b ≤ a ∧ a ≤ c)) := by
  unfold object_within.f
  refine Fin.ite (fun h => Fin.some ?_) (fun h => Fin.some ?_)
  · by_cases h2 : a ≤ c <;> simp [h2] <;> omega
  · symm; simp; omega
theorem field_fin (a : Int) : Fin (fun _ => object_Field.f a) (fun r => 0 ≤ r ∧ r ≤ 4) := by
  unfold object_Field.f
  repeat' first
    | (refine Fin.some ?_; decide)
    | refine Fin.ite (fun _ => ?_) (fun _ => ?_)
theorem index_fin (l : List ByteArray) (a : ByteArray) (hl : l.length ≤ 9223372036854775807) : Fin (fun k => slices_Index_string_string.f k l a) (fun _ => True) := by
  have key := upto (n := (l.length : Int)) (P := fun i => Fin (fun k => slices_Index_string_string.l0 k l a (l.length : Int) i) (fun _ => True)) (fun i h0 h1 ih => by
    refine Fin.step (fun k => by simp only [slices_Index_string_string.l0]; rfl) ?_
    have step : i < (l.length : Int) → Fin (fun k => slices_Index_string_string.l0 k l a (l.length : Int) (wrap64 (i + 1))) (fun _ => True) := fun hlt => by rw [wr h0 hlt (by omega)]; exact ih hlt
    repeat' first
      | exact Fin.some trivial
      | refine Fin.ite (fun _ => ?_) (fun _ => ?_)
      | (refine step ?_; assumption)
      | (refine Fin.dead ?_; omega))
  exact key 0 (by omega) (by omega)
theorem contains_fin (l : List ByteArray) (a : ByteArray) (hl : l.length ≤ 9223372036854775807) : Fin (fun k => slices_Contains_string_string.f k l a) (fun _ => True) := by
  unfold slices_Contains_string_string.f
  exact Fin.bind (index_fin l a hl) (fun _ _ => Fin.some trivial)
end Go.Proofs.Ytdedefemggkobaa.Pure
