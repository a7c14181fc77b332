/- What package script and its reference compute of a script: whether its outputs and rules are valid, and which fault it has; both are one plain function. Condition: sizes below 2^63, as Go's own are. -/
import Derived.Test.YtnbeamaoblmbhaaPPlacex4
import Derived.Test.YtnbeamaoblmbhaaPPlacex9
import Derived.Lib.IndexBytes
namespace Go.Proofs.Ytnbeamaoblmbhaa.PurePlace
open Go.RowKit Go.Proofs.Ytnbeamaoblmbhaa.PPlace Go.Proofs.YtnbeamaoblmbhaaW.PrintWords Go.Proofs.YtnbeamaoblmbhaaW.PrintMore

theorem w64 {n : Int} (h0 : -9223372036854775808 ≤ n) (h1 : n ≤ 9223372036854775807) : wrap64 n = n := by unfold wrap64; omega
theorem i64_wf {y : Int} : (Lit.int .i64 y).wf = true ↔ -9223372036854775808 ≤ y ∧ y ≤ 9223372036854775807 := by
  simp [Lit.wf, IntKind.min, IntKind.max, IntKind.signed, IntKind.bits]
theorem ref_in (a b c : Int) : ref_In.f a b c = some (decide (b ≤ a ∧ a ≤ c)) := by
  unfold ref_In.f
  by_cases h : b ≤ a
  · rw [if_pos h]; simp [h]
  · rw [if_neg h]; simp [h]
theorem ref_at (a b : Int) : ref_At.f a b = some (a, b) := rfl
theorem Ev.if_pos' {α : Type} {c : Prop} [Decidable c] {g f : Nat → Option α} {r : α} (hc : c) (h : Ev g r) : Ev (fun k => if c then g k else f k) r := by
  simp only [if_pos hc]; exact h
theorem Ev.if_neg' {α : Type} {c : Prop} [Decidable c] {g f : Nat → Option α} {r : α} (hc : ¬ c) (h : Ev f r) : Ev (fun k => if c then g k else f k) r := by
  simp only [if_neg hc]; exact h

/-! Names. -/
def okc (c i : Int) : Bool := decide (97 ≤ c ∧ c ≤ 122) || (decide (65 ≤ c ∧ c ≤ 90) || (decide (c = 46) || (decide (c = 95) || (decide (c = 36) || (decide (0 < i) && decide (48 ≤ c ∧ c ≤ 57))))))
def nmF (s : ByteArray) : Nat → Int → Bool
  | 0, _ => decide (1 ≤ (s.size : Int) ∧ (s.size : Int) ≤ 16)
  | d + 1, i => if okc (bt s i) i = true then nmF s d (i + 1) else false
def nameB (s : ByteArray) : Bool := nmF s s.size 0

theorem ref_name_step (s : ByteArray) (i : Int) (hs : s.size ≤ 9223372036854775807) (h0 : 0 ≤ i) (h1 : i < (s.size : Int)) (k : Nat) :
    ref_NameOk.l0 (k + 1) s i = if okc (bt s i) i = true then ref_NameOk.l0 k s (i + 1) else some false := by
  have hb := bt_range s i
  simp only [ref_NameOk.l0, ref_in, Option.bind_some]
  rw [if_pos h1, if_pos h0, w64 (n := bt s i) (by omega) (by omega), w64 (n := i + 1) (by omega) (by omega)]
  generalize bt s i = c
  unfold okc
  by_cases c1 : 97 ≤ c ∧ c ≤ 122
  · simp [c1]
  · by_cases c2 : 65 ≤ c ∧ c ≤ 90
    · simp [c1, c2]
    · by_cases c3 : c = 46
      · simp [c3]
      · by_cases c4 : c = 95
        · simp [c4]
        · by_cases c5 : c = 36
          · simp [c5]
          · by_cases c6 : 0 < i
            · by_cases c7 : 48 ≤ c ∧ c ≤ 57
              · simp [c1, c2, c3, c4, c5, c6, c7]
              · simp [c1, c2, c3, c4, c5, c6, c7]
            · simp [c1, c2, c3, c4, c5, c6]
theorem script_name_step (s : ByteArray) (i : Int) (hs : s.size ≤ 9223372036854775807) (h0 : 0 ≤ i) (h1 : i < (s.size : Int)) (k : Nat) :
    script_IsName.l0 (k + 1) s (s.size : Int) i = if okc (bt s i) i = true then script_IsName.l0 k s (s.size : Int) (i + 1) else some false := by
  have hb := bt_range s i
  simp only [script_IsName.l0]
  rw [if_pos h1, if_pos h0, if_pos h1, w64 (n := i + 1) (by omega) (by omega)]
  generalize bt s i = c
  unfold okc
  by_cases c1 : 97 ≤ c ∧ c ≤ 122
  · simp [c1]
  · by_cases c2 : 65 ≤ c ∧ c ≤ 90
    · have : ¬ 97 ≤ c := by omega
      simp [c2, this]
    · by_cases c3 : c = 46
      · subst c3; simp
      · by_cases c4 : c = 95
        · subst c4; simp
        · by_cases c5 : c = 36
          · subst c5; simp
          · have e : (if i = 0 then (some false) else (if c < 48 then (some false) else (if c > 57 then (some false) else (script_IsName.l0 k s (s.size : Int) (i + 1))))) = if (decide (0 < i) && decide (48 ≤ c ∧ c ≤ 57)) = true then script_IsName.l0 k s (s.size : Int) (i + 1) else some false := by
              by_cases c6 : i = 0
              · subst c6; simp
              · rw [if_neg c6]
                have : 0 < i := by omega
                by_cases c7 : c < 48
                · rw [if_pos c7, if_neg (by simp; omega)]
                · rw [if_neg c7]
                  by_cases c8 : c > 57
                  · rw [if_pos c8, if_neg (by simp; omega)]
                  · rw [if_neg c8, if_pos (by simp; omega)]
            simp only [c3, c4, c5, if_false, e, ge_iff_le]
            have c1' : decide (97 ≤ c ∧ c ≤ 122) = false := decide_eq_false c1
            have c2' : decide (65 ≤ c ∧ c ≤ 90) = false := decide_eq_false c2
            simp only [c1', c2', decide_false, Bool.false_or]
            by_cases d1 : 97 ≤ c
            · have d2 : ¬ c ≤ 122 := by omega
              have d3 : 65 ≤ c := by omega
              have d4 : ¬ c ≤ 90 := by omega
              simp only [d1, d2, d3, d4, if_true, if_false]
            · simp only [d1, if_false]
              by_cases d3 : 65 ≤ c
              · have d4 : ¬ c ≤ 90 := by omega
                simp only [d3, d4, if_true, if_false]
              · simp only [d3, if_false]

theorem ref_name (s : ByteArray) (hs : s.size ≤ 9223372036854775807) (d : Nat) : ∀ i : Int, 0 ≤ i → i + d = s.size → Ev (fun k => ref_NameOk.l0 k s i) (nmF s d i) := by
  induction d with
  | zero =>
    intro i h0 hi
    refine Ev.step (f := fun _ => some (nmF s 0 i)) (fun k => ?_) (Ev.now _)
    simp only [ref_NameOk.l0, ref_in, Option.bind_some]
    rw [if_neg (by omega)]
    rfl
  | succ d ih =>
    intro i h0 hi
    refine Ev.step (ref_name_step s i hs h0 (by omega)) ?_
    unfold nmF
    by_cases c : okc (bt s i) i = true
    · simp only [if_pos c]
      exact ih (i + 1) (by omega) (by omega)
    · simp only [if_neg c]
      exact Ev.now _
theorem ref_nameB (s : ByteArray) (hs : s.size ≤ 9223372036854775807) : Ev (fun k => ref_NameOk.f k s) (nameB s) := ref_name s hs s.size 0 (by omega) (by omega)

theorem script_name (s : ByteArray) (hs : s.size ≤ 9223372036854775807) (d : Nat) : ∀ i : Int, 0 ≤ i → i + d = s.size → Ev (fun k => script_IsName.l0 k s (s.size : Int) i) (nmF s d i) := by
  induction d with
  | zero =>
    intro i h0 hi
    refine Ev.step (f := fun _ => some (nmF s 0 i)) (fun k => ?_) (Ev.now _)
    simp only [script_IsName.l0]
    rw [if_neg (by omega)]
    unfold nmF
    by_cases c : (s.size : Int) ≥ 1
    · rw [if_pos c]; simp; omega
    · rw [if_neg c]; simp; omega
  | succ d ih =>
    intro i h0 hi
    refine Ev.step (script_name_step s i hs h0 (by omega)) ?_
    unfold nmF
    by_cases c : okc (bt s i) i = true
    · simp only [if_pos c]
      exact ih (i + 1) (by omega) (by omega)
    · simp only [if_neg c]
      exact Ev.now _
theorem script_nameB (s : ByteArray) (hs : s.size ≤ 9223372036854775807) : Ev (fun k => script_IsName.f k s) (nameB s) := script_name s hs s.size 0 (by omega) (by omega)

/-! Patterns. -/
def patB (s : ByteArray) : Bool := if 0 < s.size ∧ bt s ((s.size : Int) - 1) = 42 then (if s.size = 1 then true else nameB (s.extract 0 (s.size - 1))) else nameB s

theorem ref_patB (s : ByteArray) (hs : s.size ≤ 9223372036854775807) : Ev (fun k => ref_PatternOk.f k s) (patB s) := by
  have he : (s.extract 0 (s.size - 1)).size ≤ 9223372036854775807 := by rw [ByteArray.size_extract]; omega
  unfold ref_PatternOk.f patB
  by_cases h0 : (s.size : Int) > 0
  · refine Ev.if_pos' h0 ?_
    rw [w64 (n := (s.size : Int) - 1) (by omega) (by omega)]
    refine Ev.if_pos' (by omega) (Ev.if_pos' (by omega) ?_)
    by_cases h1 : bt s ((s.size : Int) - 1) = 42
    · rw [if_pos ⟨by omega, h1⟩, h1]
      by_cases h2 : s.size = 1
      · rw [if_pos h2]
        refine Ev.step (f := fun _ => some true) (fun k => ?_) (Ev.now _)
        simp only [ref_PatternOk.j0]
        rw [if_pos (by decide), if_pos (by omega)]
      · rw [if_neg h2]
        refine Ev.step (f := fun k => (ref_NameOk.f k (s.extract 0 (s.size - 1))).bind fun t => some t) (fun k => ?_) (Ev.bind (ref_nameB _ he) (Ev.now _))
        simp only [ref_PatternOk.j0]
        rw [if_pos (by decide), if_neg (by omega), w64 (n := (s.size : Int) - 1) (by omega) (by omega), if_pos (by omega), if_pos (by omega), show ((s.size : Int) - 1).toNat = s.size - 1 by omega]
    · rw [if_neg (by omega)]
      refine Ev.step (f := fun k => (ref_NameOk.f k s).bind fun t => some t) (fun k => ?_) (Ev.bind (ref_nameB _ hs) (Ev.now _))
      simp only [ref_PatternOk.j0]
      rw [if_neg (by simpa using h1)]
  · refine Ev.if_neg' h0 ?_
    rw [if_neg (by omega)]
    refine Ev.step (f := fun k => (ref_NameOk.f k s).bind fun t => some t) (fun k => ?_) (Ev.bind (ref_nameB _ hs) (Ev.now _))
    simp only [ref_PatternOk.j0]
    rw [if_neg (by decide)]

theorem last_of (s : ByteArray) (h : 0 < s.size) : (s.extract (s.size - 1) s.size).toList = [s[s.size - 1]'(by omega)] := by
  rw [Lib.toList_data, Lib.extract_to_end]
  have hl : s.data.toList.length = s.size := rfl
  rw [List.drop_eq_getElem_cons (by rw [hl]; omega), List.drop_eq_nil_of_le (by rw [hl]; omega)]
  rfl
theorem u8_nat (a b : UInt8) : a = b ↔ a.toNat = b.toNat := ⟨fun h => by rw [h], fun h => UInt8.toNat_inj.1 h⟩
theorem last_is (s : ByteArray) (h : 0 < s.size) : ((s.extract (s.size - 1) s.size).toList = ([42] : List UInt8)) ↔ bt s ((s.size : Int) - 1) = 42 := by
  have e : ((s.size : Int) - 1).toNat = s.size - 1 := by omega
  have hb := bt_at s ((s.size : Int) - 1) (by omega)
  simp only [e] at hb
  rw [last_of s h, ← hb]
  constructor
  · intro q
    have q' : s[s.size - 1] = 42 := by simpa using q
    rw [q']; rfl
  · intro q
    have q' : (s[s.size - 1]).toNat = 42 := by omega
    have : s[s.size - 1] = 42 := (u8_nat _ _).2 q'
    rw [this]
theorem star_size : (⟨#[42]⟩ : ByteArray).size = 1 := rfl
theorem star_list : (⟨#[42]⟩ : ByteArray).toList = ([42] : List UInt8) := by rw [Lib.toList_data]
theorem has_star (s : ByteArray) (hs : s.size ≤ 9223372036854775807) : stringslite_HasSuffix.f s ⟨#[42]⟩ = some (decide (0 < s.size ∧ bt s ((s.size : Int) - 1) = 42)) := by
  unfold stringslite_HasSuffix.f
  rw [star_size, star_list]
  by_cases h : 0 < s.size
  · rw [if_pos (by omega), w64 (n := (s.size : Int) - ((1 : Nat) : Int)) (by omega) (by omega), if_pos (by omega), if_pos (by omega), show ((s.size : Int) - ((1 : Nat) : Int)).toNat = s.size - 1 by omega]
    have := last_is s h
    congr 1
    by_cases c : bt s ((s.size : Int) - 1) = 42
    · rw [this.2 c]; simp [h, c]
    · have c' := fun q => c (this.1 q)
      simp only [h, c, and_false, decide_false]
      exact beq_eq_false_iff_ne.2 c'
  · rw [if_neg (by omega)]
    simp [h]
theorem is_star (s : ByteArray) : s.toList = ([42] : List UInt8) ↔ s.size = 1 ∧ bt s ((s.size : Int) - 1) = 42 := by
  have hl : s.toList.length = s.size := by rw [Lib.toList_data]; rfl
  constructor
  · intro h
    have h1 : s.size = 1 := by rw [← hl, h]; rfl
    refine ⟨h1, ?_⟩
    rw [← last_is s (by omega), h1, Lib.toList_data]
    have : (s.extract 0 1) = s := by rw [← h1]; exact ByteArray.extract_zero_size
    rw [show (1 : Nat) - 1 = 0 by rfl, this, ← Lib.toList_data, h]
  · intro ⟨h1, h2⟩
    have := (last_is s (by omega)).2 h2
    rw [h1] at this
    have e : (s.extract 0 1) = s := by rw [← h1]; exact ByteArray.extract_zero_size
    rw [show (1 : Nat) - 1 = 0 by rfl, e] at this
    exact this
theorem script_patB (s : ByteArray) (hs : s.size ≤ 9223372036854775807) : Ev (fun k => script_isPattern.f k s) (patB s) := by
  have he : (s.extract 0 (s.size - 1)).size ≤ 9223372036854775807 := by rw [ByteArray.size_extract]; omega
  unfold script_isPattern.f strings_TrimSuffix.f stringslite_TrimSuffix.f
  rw [has_star s hs]
  by_cases c : s.toList = ([42] : List UInt8)
  · obtain ⟨c1, c2⟩ := (is_star s).1 c
    have e : patB s = true := by unfold patB; rw [if_pos ⟨by omega, c2⟩, if_pos c1]
    rw [e]
    exact Ev.if_pos' c (Ev.now _)
  · refine Ev.if_neg' c ?_
    simp only [Option.bind_some, star_size]
    by_cases h : 0 < s.size ∧ bt s ((s.size : Int) - 1) = 42
    · have h1 : s.size ≠ 1 := fun q => c ((is_star s).2 ⟨q, h.2⟩)
      have e : patB s = nameB (s.extract 0 (s.size - 1)) := by unfold patB; rw [if_pos h, if_neg h1]
      rw [e, if_pos (by simpa using h), w64 (n := (s.size : Int) - ((1 : Nat) : Int)) (by omega) (by omega), if_pos (by omega), if_pos (by omega), show ((s.size : Int) - ((1 : Nat) : Int)).toNat = s.size - 1 by omega]
      exact Ev.bind (g := fun k => script_IsName.f k (s.extract 0 (s.size - 1))) (script_nameB _ he) (Ev.now _)
    · have e : patB s = nameB s := by unfold patB; rw [if_neg h]
      rw [e, if_neg (by simpa using h)]
      exact Ev.bind (g := fun k => script_IsName.f k s) (script_nameB s hs) (Ev.now _)

/-! Powers of two. -/
def pw (n m : Int) : Bool := decide (1 ≤ n ∧ n ≤ m) && (Go.bits .and .i64 n (n - 1) == 0)
theorem pow_list : ∀ b : Fin 65, ∀ c : Fin 64, ((b.val * 64 + c.val) &&& (b.val * 64 + c.val - 1) = 0) → (b.val * 64 + c.val) ∈ [0, 1, 2, 4, 8, 16, 32, 64, 128, 256, 512, 1024, 2048, 4096] := by decide +kernel
theorem bits_pw (n : Int) (h1 : 1 ≤ n) (h2 : n ≤ 4096) : Go.bits .and .i64 n (n - 1) = 0 ↔ (n = 1 ∨ n = 2 ∨ n = 4 ∨ n = 8 ∨ n = 16 ∨ n = 32 ∨ n = 64 ∨ n = 128 ∨ n = 256 ∨ n = 512 ∨ n = 1024 ∨ n = 2048 ∨ n = 4096) := by
  obtain ⟨a, rfl⟩ : ∃ a : Nat, n = a := ⟨n.toNat, by omega⟩
  have hb := (bits_nat .i64 32 (by decide) (fun n h0 h1 => by rw [IntKind.wrap_i64]; omega) a (a - 1) (by omega) (by omega)).1
  rw [show ((a : Int) - 1) = ((a - 1 : Nat) : Int) by omega, hb]
  constructor
  · intro h
    have e : a / 64 * 64 + a % 64 = a := by omega
    have := pow_list ⟨a / 64, by omega⟩ ⟨a % 64, by omega⟩
    simp only [e] at this
    replace this := this (by exact_mod_cast h)
    simp only [List.mem_cons, List.not_mem_nil, or_false] at this
    omega
  · intro h
    have : ∀ x ∈ [1, 2, 4, 8, 16, 32, 64, 128, 256, 512, 1024, 2048, 4096], (x &&& (x - 1)) = 0 := by decide
    have := this a (by simp only [List.mem_cons, List.not_mem_nil, or_false]; omega)
    exact_mod_cast this
theorem ref_pow_step (n m p : Int) (hp : 1 ≤ p) (hq : p ≤ 8192) (k : Nat) : ref_Power.l0 (k + 1) n m p = if p ≤ m then (if p = n then some true else ref_Power.l0 k n m (p * 2)) else some false := by
  simp only [ref_Power.l0]
  rw [w64 (n := p * 2) (by omega) (by omega)]
theorem ref_pw (n m : Int) (hm : m = 4096 ∨ m = 256) : Ev (fun k => ref_Power.f k n m) (pw n m) := by
  unfold ref_Power.f
  have e : pw n m = decide ((n = 1 ∨ n = 2 ∨ n = 4 ∨ n = 8 ∨ n = 16 ∨ n = 32 ∨ n = 64 ∨ n = 128 ∨ n = 256 ∨ n = 512 ∨ n = 1024 ∨ n = 2048 ∨ n = 4096) ∧ n ≤ m) := by
    unfold pw
    by_cases h : 1 ≤ n ∧ n ≤ m
    · have := bits_pw n h.1 (by omega)
      simp only [h, and_self, decide_true, Bool.true_and, and_true]
      exact Bool.eq_iff_iff.2 (by simpa using this)
    · simp only [h, decide_false, Bool.false_and]
      symm
      rw [decide_eq_false_iff_not]
      omega
  rw [e]
  rcases hm with rfl | rfl
  · iterate 13
      refine Ev.step (ref_pow_step _ _ _ (by omega) (by omega)) (Ev.if_pos' (by omega) ?_)
      refine (if h : _ = n then Ev.if_pos' h ?_ else Ev.if_neg' h ?_)
      · rw [decide_eq_true (by omega)]
        exact Ev.now _
    refine Ev.step (ref_pow_step _ _ _ (by omega) (by omega)) (Ev.if_neg' (by omega) ?_)
    rw [decide_eq_false (by omega)]
    exact Ev.now _
  · iterate 9
      refine Ev.step (ref_pow_step _ _ _ (by omega) (by omega)) (Ev.if_pos' (by omega) ?_)
      refine (if h : _ = n then Ev.if_pos' h ?_ else Ev.if_neg' h ?_)
      · rw [decide_eq_true (by omega)]
        exact Ev.now _
    refine Ev.step (ref_pow_step _ _ _ (by omega) (by omega)) (Ev.if_neg' (by omega) ?_)
    rw [decide_eq_false (by omega)]
    exact Ev.now _
end Go.Proofs.Ytnbeamaoblmbhaa.PurePlace
