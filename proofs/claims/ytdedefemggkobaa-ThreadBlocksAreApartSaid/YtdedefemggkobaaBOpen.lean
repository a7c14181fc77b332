/- A Go value that a row reads as data is of a kind of the print's words: what a call takes it for. Lemmas for integers, bools, strings, slices and structs; no condition. -/
import Derived.Test.YtdedefemggkobaaBTWords
import Derived.Test.YtdedefemggkobaaBTLast
import Derived.Test.YtdedefemggkobaaBTMore
import Derived.ProofKit
import Derived.OpenShut
import Derived.Deep.Slices
import Derived.SizedLaws
import Derived.ChangeArms
namespace Go.Proofs.Ytdedefemggkobaa.Opens
open Go.Deep Go.ChangeShapes Go.WideShapes Go.RowKit Go.Proofs.YtdedefemggkobaaW.PrintWords Go.Proofs.YtdedefemggkobaaW.PrintLast Go.Proofs.YtdedefemggkobaaW.PrintMore
set_option linter.unusedVariables false

/-- Cells that are read at type t are those of a value of the kind d, of which G holds. -/
def Rds {α : Type} (P : Program) (d : Kd α) (t : TypeId) (G : α → Prop) : Prop :=
  ∀ (H : Type) (enc : TypeId × Value → H) (w : World) (base : Nat) (sp : Nat → Bool) (held : Bool) (fuel : Nat) (cs : List Value) (x : DataW H × List MemPlace),
    DataW.trod enc P w base sp held fuel t cs = some x → ∃ a, d.K w a cs ∧ G a

theorem op_int {P : Program} {t : TypeId} (k : IntKind) (ht : P.underlying t = some (.int k)) : Rds P (Kd.int k) t (fun n => (Lit.int k n).wf = true) := by
  intro H enc w base sp held fuel cs x h
  cases fuel with
  | zero => simp [DataW.trod] at h
  | succ n =>
    unfold DataW.trod at h
    rw [ht] at h
    split at h
    all_goals first | (simp_all; done) | skip
    rename_i k' m heq
    split at h
    · rename_i hk
      obtain ⟨rfl, hw⟩ := hk
      simp at heq
      subst heq
      exact ⟨_, rfl, hw⟩
    · cases h

theorem op_bool {P : Program} {t : TypeId} (ht : P.underlying t = some .bool) : Rds P Kd.bool t (fun _ => True) := by
  intro H enc w base sp held fuel cs x h
  cases fuel with
  | zero => simp [DataW.trod] at h
  | succ n =>
    unfold DataW.trod at h
    rw [ht] at h
    split at h
    all_goals first | (simp_all; done) | skip
    exact ⟨_, rfl, trivial⟩

theorem op_string {P : Program} {t : TypeId} (ht : P.underlying t = some .string) : Rds P Kd.string t (fun s => s.size ≤ 9223372036854775807) := by
  intro H enc w base sp held fuel cs x h
  cases fuel with
  | zero => simp [DataW.trod] at h
  | succ n =>
    unfold DataW.trod at h
    rw [ht] at h
    split at h
    all_goals first | (simp_all; done) | skip
    split at h
    · rename_i hs
      exact ⟨_, rfl, by simpa [maxLen] using hs⟩
    · cases h

theorem choose_list {α : Type} {n : Nat} {p : Nat → α → Prop} (h : ∀ i, i < n → ∃ x, p i x) : ∃ l : List α, l.length = n ∧ ∀ i x, l[i]? = some x → p i x := by
  induction n with
  | zero => exact ⟨[], rfl, fun i x hx => by simp at hx⟩
  | succ n ih =>
    obtain ⟨l, hl, hp⟩ := ih (fun i hi => h i (by omega))
    obtain ⟨x, hx⟩ := h n (by omega)
    refine ⟨l ++ [x], by simp [hl], fun i y hy => ?_⟩
    rcases Nat.lt_or_ge i l.length with hi | hi
    · rw [List.getElem?_append_left hi] at hy
      exact hp i y hy
    · rw [List.getElem?_append_right hi] at hy
      have h0 : i - l.length = 0 := by
        rcases Nat.eq_zero_or_pos (i - l.length) with h0 | h0
        · exact h0
        · rw [List.getElem?_eq_none (by simp; omega)] at hy
          cases hy
      rw [h0] at hy
      simp at hy
      subst hy
      have : i = n := by omega
      subst this
      exact hx

/-- What is read of a slice: its value, and that its elements are of the kind d. -/
theorem open_slice_kd {α : Type} {P : Program} {d : Kd α} {t e : TypeId} {G : α → Prop} (hd : Rds P d e G) (ht : P.underlying t = some (.slice e)) (hsz : P.cellsOf e = d.sz)
    {H : Type} {enc : TypeId × Value → H} {w : World} {base : Nat} {sp : Nat → Bool} {held : Bool} {fuel : Nat} {cs : List Value} {x : DataW H × List MemPlace} (h : DataW.trod enc P w base sp held fuel t cs = some x) :
    ∃ (A : Option Addr) (c : Nat) (l : List α), cs = [.slice A l.length c] ∧ l.length ≤ c ∧ d.C w A l.length l ∧ ∀ y ∈ l, G y := by
  rcases open_slice ht h with ⟨rfl, _⟩ | ⟨a, len, cap, m, n, D, Pl, rfl, hb, hl, hm, hmm, rfl, hx⟩
  · exact ⟨none, 0, [], rfl, Nat.le_refl _, ⟨rfl, by simp, fun h => absurd h (by simp)⟩, by simp⟩
  · have hle : len ≤ m := by rw [hmm]; split <;> omega
    obtain ⟨l, hll, hp⟩ := choose_list (n := len) (p := fun i y => G y ∧ ∃ cs', w.cells? base (a.add (i * P.cellsOf e)) (P.cellsOf e) = some cs' ∧ d.K w y cs') (fun i hi => by
      obtain ⟨cs', h1, h2⟩ := hx i (by omega)
      obtain ⟨y, hk, hg⟩ := hd _ _ _ _ _ _ _ _ _ h2
      exact ⟨y, hg, cs', h1, hk⟩)
    subst hll
    refine ⟨some a, cap, l, rfl, hl, ⟨rfl, by simp only [maxLen] at hm; omega, fun _ => ⟨a, rfl, fun j y hy => ?_⟩⟩, fun y hy => ?_⟩
    · obtain ⟨_, cs', h1, hk⟩ := hp j y hy
      obtain ⟨_, hlen, hc⟩ := World.cells?_some h1
      refine ⟨cs', by rw [hlen, hsz], hk, fun i u hu => ?_⟩
      have hi : i < P.cellsOf e := by
        rw [← hlen]
        exact (List.getElem?_eq_some_iff.1 hu).1
      have := hc i hi
      rw [hu, Go.Deep.add_add] at this
      rw [← hsz]
      exact this
    · obtain ⟨j, hj, rfl⟩ := List.mem_iff_getElem.1 hy
      exact (hp j _ (List.getElem?_eq_getElem hj)).1

theorem op_slice {α : Type} {P : Program} {d : Kd α} {t e : TypeId} {G : α → Prop} (hd : Rds P d e G) (ht : P.underlying t = some (.slice e)) (hsz : P.cellsOf e = d.sz) :
    Rds P (Kd.slice e d) t (fun l => l.length ≤ 9223372036854775807 ∧ ∀ y ∈ l, G y) := by
  intro H enc w base sp held fuel cs x h
  obtain ⟨A, c, l, rfl, hl, hC, hg⟩ := open_slice_kd hd ht hsz h
  exact ⟨l, ⟨A, c, rfl, hl, hC⟩, hC.2.1, hg⟩

/-- The fields of a struct from the one at 'off' on. -/
def RdsF {α : Type} (P : Program) (d : Kd α) (fs : List Field) (off : Nat) (G : α → Prop) : Prop :=
  ∀ (H : Type) (enc : TypeId × Value → H) (w : World) (base : Nat) (sp : Nat → Bool) (held : Bool) (fuel : Nat) (cs : List Value) (xs : List (DataW H × List MemPlace)),
    (fs.mapM fun f => DataW.trod enc P w base sp held fuel f.type ((cs.drop f.offset).take (P.cellsOf f.type))) = some xs → ∃ a, d.K w a ((cs.drop off).take d.sz) ∧ G a

theorem opf_one {α : Type} {P : Program} {d : Kd α} {f : Field} {off : Nat} {G : α → Prop} (hd : Rds P d f.type G) (ho : f.offset = off) (hsz : P.cellsOf f.type = d.sz) : RdsF P d [f] off G := by
  intro H enc w base sp held fuel cs xs h
  simp only [List.mapM_cons, List.mapM_nil] at h
  obtain ⟨y, hy, h⟩ := Option.bind_eq_some_iff.1 h
  obtain ⟨a, hk, hg⟩ := hd _ _ _ _ _ _ _ _ _ hy
  rw [ho, hsz] at hk
  exact ⟨a, hk, hg⟩

theorem opf_cons {α β : Type} {P : Program} {d : Kd α} {d2 : Kd β} {f : Field} {fs : List Field} {off off2 : Nat} {G : α → Prop} {G2 : β → Prop} (hd : Rds P d f.type G) (ho : f.offset = off) (hsz : P.cellsOf f.type = d.sz)
    (hr : RdsF P d2 fs off2 G2) (h2 : off2 = off + d.sz) : RdsF P (Kd.pair d d2) (f :: fs) off (fun p => G p.1 ∧ G2 p.2) := by
  intro H enc w base sp held fuel cs xs h
  simp only [List.mapM_cons] at h
  obtain ⟨y, hy, h⟩ := Option.bind_eq_some_iff.1 h
  obtain ⟨ys, hys, h⟩ := Option.bind_eq_some_iff.1 h
  obtain ⟨a, hk, hg⟩ := hd _ _ _ _ _ _ _ _ _ hy
  obtain ⟨b, hk2, hg2⟩ := hr _ _ _ _ _ _ _ _ _ hys
  rw [ho, hsz] at hk
  subst h2
  refine ⟨(a, b), ⟨_, _, ?_, hk, hk2⟩, hg, hg2⟩
  show List.take (d.sz + d2.sz) (List.drop off cs) = _
  rw [List.take_add, List.drop_drop]

theorem op_struct {α β : Type} {P : Program} {d : Kd α} {f : β → α} {g : α → β} {t : TypeId} {fs : Array Field} {G : α → Prop} (hf : RdsF P d fs.toList 0 G) (ht : P.underlying t = some (.struct fs)) (hsz : P.cellsOf t = d.sz) (hfg : ∀ a, f (g a) = a) :
    Rds P (Kd.iso d f) t (fun y => G (f y)) := by
  intro H enc w base sp held fuel cs x h
  obtain ⟨xs, m, _, _, hlen, hm⟩ : ∃ (xs : List (DataW H × List MemPlace)) (m : Nat), fuel = m + 1 ∧ True ∧ cs.length = P.cellsOf t ∧ (fs.toList.mapM fun f => DataW.trod enc P w base sp held m f.type ((cs.drop f.offset).take (P.cellsOf f.type))) = some xs := by
    cases fuel with
    | zero => simp [DataW.trod] at h
    | succ n =>
      unfold DataW.trod at h
      rw [ht] at h
      simp only at h
      split at h
      · rename_i hl
        cases hm : (fs.toList.mapM fun f => DataW.trod enc P w base sp held n f.type ((cs.drop f.offset).take (P.cellsOf f.type))) with
        | none => rw [hm] at h; cases h
        | some xs => exact ⟨xs, n, rfl, trivial, hl, hm⟩
      · cases h
  obtain ⟨a, hk, hg⟩ := hf _ _ _ _ _ _ _ _ _ hm
  have hall : (cs.drop 0).take d.sz = cs := by
    rw [List.drop_zero, List.take_of_length_le (by rw [hlen, hsz]; exact Nat.le_refl _)]
  rw [hall] at hk
  refine ⟨g a, ?_, by show G (f (g a)); rw [hfg]; exact hg⟩
  show d.K w (f (g a)) cs
  rw [hfg]
  exact hk

/-- A row's slice is no longer than its weight allows. -/
theorem sized_row {H : Type} {enc : TypeId × Value → H} {P : Program} {W : World} {base : Nat} {spare : Nat → Bool} {held : Bool} {t e : TypeId} {a : Option Addr} {len cap : Nat} {d : DataW H} {ps : List MemPlace} {ts : List TypeId} {ds : List (DataW H)} {j : Nat}
    (hsz : (DataW.weightsEach P ts ds).all (· ≤ reachBytes) = true) (ht : ts[j]? = some t) (hd : ds[j]? = some d) (hu : P.underlying t = some (.slice e)) {B : Nat} (hB : P.bytesOf e = B)
    (h : DataW.Trod enc P W base spare held t (.slice a len cap) d ps) : len * B ≤ 140737488351232 := by
  obtain ⟨fuel, hf⟩ := h
  rcases open_slice hu hf with ⟨hcs, _⟩ | ⟨x, l, c, m, n, D, Pl, hcs, hb, hl, hm, hmm, hx, _⟩
  · simp [Value.cells] at hcs
    obtain ⟨rfl, rfl, rfl⟩ := hcs
    simp
  · simp [Value.cells] at hcs
    obtain ⟨rfl, rfl, rfl⟩ := hcs
    obtain ⟨hx, _⟩ := Prod.mk.inj hx
    subst hx
    have z := sized_slice hsz ht hd hu
    rw [hB] at z
    refine Nat.le_trans (Nat.mul_le_mul_right _ ?_) z
    simp

end Go.Proofs.Ytdedefemggkobaa.Opens
