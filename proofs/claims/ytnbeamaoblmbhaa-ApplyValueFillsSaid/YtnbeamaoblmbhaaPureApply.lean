/- What the functions of package apply and their references compute, in plain words: widths, faults, numbers, the bytes of a field. Conditions: the ranges that each lemma names. -/
import Derived.Test.YtnbeamaoblmbhaaPApplyx6
namespace Go.Proofs.Ytnbeamaoblmbhaa.Pure
open Go.RowKit Go.Proofs.Ytnbeamaoblmbhaa.PApply Go.Proofs.YtnbeamaoblmbhaaW.PrintWords Go.Proofs.YtnbeamaoblmbhaaW.PrintMore

def wd (kind : Int) : Int := if kind = 1 ∨ kind = 4 ∨ kind = 5 then 4 else if kind = 2 then 2 else if kind = 3 then 1 else 0
theorem w64 {n : Int} (h0 : -9223372036854775808 ≤ n) (h1 : n ≤ 9223372036854775807) : wrap64 n = n := by unfold wrap64; omega

theorem wd_cases (kind : Int) : (wd kind = 4 ∧ kind ≠ 2 ∧ kind ≠ 3) ∨ (wd kind = 2 ∧ kind = 2) ∨ (wd kind = 1 ∧ kind = 3) ∨ (wd kind = 0 ∧ kind ≠ 2 ∧ kind ≠ 3) := by
  unfold wd
  split
  · omega
  · split
    · omega
    · split <;> omega

theorem apply_width (k : Nat) (a : Int) : apply_Width.f (k + 1) a = some (wd a) := by
  unfold apply_Width.f wd
  simp only [apply_Width.j0]
  by_cases h1 : a = 1
  · subst h1; simp
  · by_cases h4 : a = 4
    · subst h4; simp
    · by_cases h5 : a = 5
      · subst h5; simp
      · simp [h1, h4, h5]
        split
        · rfl
        · split <;> rfl

theorem ref_width (k : Nat) (a : Int) : ref_Width.f (k + 1) a = some (wd a) := by
  unfold ref_Width.f wd
  simp only [ref_Width.j0]
  by_cases h1 : a = 1
  · subst h1; simp
  · by_cases h4 : a = 4
    · subst h4; simp
    · by_cases h5 : a = 5
      · subst h5; simp
      · simp [h1, h4, h5]
        split
        · rfl
        · split <;> rfl

/-- The fault of a field. -/
def chk (n off kind add p : Int) : Int × Int :=
  if n > 1500 then (2, -1) else if wd kind = 0 then (4, -2) else if off < 0 ∨ n - wd kind < off then (3, -2) else if add < -1048576 ∨ 1048576 < add then (3, -2) else if p < 0 ∨ 1048576 ≤ p then (3, -4) else (0, 0)

theorem ref_in (a b c : Int) : ref_In.f a b c = some (decide (b ≤ a ∧ a ≤ c)) := by
  unfold ref_In.f
  by_cases h : b ≤ a
  · rw [if_pos h]; simp [h]
  · rw [if_neg h]; simp [h]

theorem ref_at (a b : Int) : ref_At.f a b = some (a, b) := rfl

theorem ref_fault (k : Nat) (l : List Int) (off kind sym add p : Int) : ref_FieldFault.f (k + 1) l off kind sym add p = some (chk l.length off kind add p) := by
  unfold ref_FieldFault.f chk
  by_cases h1 : (l.length : Int) > 1500
  · rw [if_pos h1, if_pos h1]; rfl
  · rw [if_neg h1, if_neg h1, ref_width]
    simp only [Option.bind_some]
    by_cases h2 : wd kind = 0
    · rw [if_pos h2, if_pos h2]; rfl
    · rw [if_neg h2, if_neg h2]
      have hw : 0 ≤ wd kind ∧ wd kind ≤ 4 := by rcases wd_cases kind with h | h | h | h <;> omega
      rw [w64 (by omega) (by omega), ref_in]
      simp only [Option.bind_some]
      by_cases h3 : off < 0 ∨ (l.length : Int) - wd kind < off
      · rw [if_pos h3, if_neg (by simp; omega)]
        simp [ref_FieldFault.j0, ref_at]
      · rw [if_neg h3, if_pos (by simp; omega), ref_in]
        simp only [Option.bind_some, ref_FieldFault.j0]
        by_cases h4 : add < -1048576 ∨ 1048576 < add
        · rw [if_pos h4, if_pos (by simp; omega)]
          rfl
        · rw [if_neg h4, if_neg (by simp; omega), ref_in]
          simp only [Option.bind_some]
          by_cases h5 : p < 0 ∨ 1048576 ≤ p
          · rw [if_pos h5, if_neg (by simp; omega)]; rfl
          · rw [if_neg h5, if_pos (by simp; omega)]

theorem apply_fault (k : Nat) (l : List Int) (off kind sym add p : Int) : apply_check.f (k + 3) l off kind sym add p = some (chk l.length off kind add p) := by
  unfold apply_check.f chk
  by_cases h1 : (l.length : Int) > 1500
  · rw [if_pos h1, if_pos h1]
  · rw [if_neg h1, if_neg h1, apply_width]
    simp only [Option.bind_some]
    by_cases h2 : wd kind = 0
    · rw [if_pos h2, if_pos h2]
    · rw [if_neg h2, if_neg h2]
      have hw : 0 ≤ wd kind ∧ wd kind ≤ 4 := by rcases wd_cases kind with h | h | h | h <;> omega
      rw [w64 (by omega) (by omega)]
      have rest : (if add < -1048576 then (apply_check.j1 (k + 1) p true) else (apply_check.j1 (k + 1) p (decide (add > 1048576)))) = some (if add < -1048576 ∨ 1048576 < add then (3, -2) else if p < 0 ∨ 1048576 ≤ p then (3, -4) else (0, 0)) := by
        simp only [apply_check.j1]
        by_cases h4 : add < -1048576
        · rw [if_pos h4, if_pos (show add < -1048576 ∨ 1048576 < add by omega)]; rfl
        · rw [if_neg h4]
          by_cases h5 : 1048576 < add
          · rw [if_pos (show add < -1048576 ∨ 1048576 < add by omega), if_pos (by simpa using h5)]
          · rw [if_neg (show ¬ (add < -1048576 ∨ 1048576 < add) by omega), if_neg (by simpa using h5)]
            by_cases h6 : p < 0
            · rw [if_pos h6, if_pos (by omega)]
            · rw [if_neg h6]
              by_cases h7 : 1048576 ≤ p
              · rw [if_pos h7, if_pos (by omega)]
              · rw [if_neg h7, if_neg (by omega)]
      by_cases h3 : off < 0
      · rw [if_pos h3, if_pos (Or.inl h3)]
        simp [apply_check.j0]
      · rw [if_neg h3]
        simp only [apply_check.j0]
        by_cases h4 : (l.length : Int) - wd kind < off
        · rw [if_pos (Or.inr h4), if_pos (by simpa using h4)]
        · rw [if_neg (show ¬ (off < 0 ∨ (l.length : Int) - wd kind < off) by omega), if_neg (by simpa using h4)]
          exact rest

theorem chk_ok {n off kind add p : Int} (h : chk n off kind add p = (0, 0)) : n ≤ 1500 ∧ wd kind ≠ 0 ∧ 0 ≤ off ∧ off ≤ n - wd kind ∧ -1048576 ≤ add ∧ add ≤ 1048576 ∧ 0 ≤ p ∧ p < 1048576 := by
  unfold chk at h
  split at h
  · simp at h
  · split at h
    · simp at h
    · split at h
      · simp at h
      · split at h
        · simp at h
        · split at h
          · simp at h
          · omega
theorem chk_one {n off kind add p : Int} (h : (chk n off kind add p).1 = 0) : chk n off kind add p = (0, 0) := by
  unfold chk at h ⊢
  split
  · simp_all
  · split
    · simp_all
    · split
      · simp_all
      · split
        · simp_all
        · split
          · simp_all
          · rfl
theorem chk_of {n off kind add p : Int} (h1 : n ≤ 1500) (h2 : wd kind ≠ 0) (h3 : 0 ≤ off) (h4 : off ≤ n - wd kind) (h5 : -1048576 ≤ add) (h6 : add ≤ 1048576) (h7 : 0 ≤ p) (h8 : p < 1048576) : chk n off kind add p = (0, 0) := by
  unfold chk
  rw [if_neg (by omega), if_neg h2, if_neg (by omega), if_neg (by omega), if_neg (by omega)]

/-- The number of a field. -/
def rel (kind s add p : Int) : Int := if kind = 2 ∨ kind = 3 then s + add - (p + wd kind) else s + add
def low (kind : Int) : Int := if kind = 2 then -32768 else if kind = 3 then -128 else 0
def high (kind : Int) : Int := if kind = 2 then 32767 else if kind = 3 then 127 else 4294967295
def fits (kind n : Int) : Bool := decide (low kind ≤ n ∧ n ≤ high kind)

theorem bounds_eq (kind : Int) : apply_bounds.f kind = some (low kind, high kind) := by
  unfold apply_bounds.f low high
  split
  · rfl
  · split <;> rfl

theorem apply_number (k : Nat) (kind s add p : Int) (hs0 : -10000000000 ≤ s) (hs : s ≤ 10000000000) (ha0 : -10000000000 ≤ add) (ha : add ≤ 10000000000) (hp0 : -10000000000 ≤ p) (hp : p ≤ 10000000000) :
    apply_Number.f (k + 2) kind s add p = some (rel kind s add p, fits kind (rel kind s add p)) := by
  have hw : 0 ≤ wd kind ∧ wd kind ≤ 4 := by rcases wd_cases kind with h | h | h | h <;> omega
  have fin : ∀ n : Int, (if n ≥ low kind then (some (n, decide (n ≤ high kind))) else (some (n, false))) = some (n, fits kind n) := by
    intro n
    unfold fits
    by_cases h : low kind ≤ n
    · rw [if_pos h]; simp [h]
    · rw [if_neg h]; simp [h]
  unfold apply_Number.f
  rw [w64 (n := s + add) (by omega) (by omega)]
  by_cases h2 : kind = 2
  · rw [if_pos h2]
    simp only [apply_Number.j0, if_true, apply_width, Option.bind_some, bounds_eq]
    rw [w64 (n := p + wd kind) (by omega) (by omega), w64 (by omega) (by omega), fin]
    unfold rel
    rw [if_pos (Or.inl h2)]
  · rw [if_neg h2]
    by_cases h3 : kind = 3
    · simp only [apply_Number.j0, apply_width, Option.bind_some, bounds_eq]
      rw [if_pos (by simpa using h3), w64 (n := p + wd kind) (by omega) (by omega), w64 (by omega) (by omega), fin]
      unfold rel
      rw [if_pos (Or.inr h3)]
    · simp only [apply_Number.j0, Option.bind_some, bounds_eq]
      rw [if_neg (by simpa using h3), fin]
      unfold rel
      rw [if_neg (by omega)]

theorem ref_number (kind s add p : Int) (hs0 : -10000000000 ≤ s) (hs : s ≤ 10000000000) (ha0 : -10000000000 ≤ add) (ha : add ≤ 10000000000) (hp0 : -10000000000 ≤ p) (hp : p ≤ 10000000000) :
    ref_Number.f kind s add p = some (rel kind s add p, fits kind (rel kind s add p)) := by
  unfold ref_Number.f rel fits low high
  rw [w64 (n := s + add) (by omega) (by omega), w64 (n := s + add - p) (by omega) (by omega), w64 (n := s + add - p - 2) (by omega) (by omega), w64 (n := s + add - p - 1) (by omega) (by omega)]
  by_cases h2 : kind = 2
  · subst h2
    simp [ref_in, wd]
    refine ⟨by omega, by rw [Int.sub_sub]⟩
  · rw [if_neg h2]
    by_cases h3 : kind = 3
    · subst h3
      simp [ref_in, wd]
      refine ⟨by omega, by rw [Int.sub_sub]⟩
    · rw [if_neg h3, ref_in]
      simp [h2, h3]

/-! The bytes of a field. -/
def byteOf (n : Int) (j : Int) : Int := n / 2 ^ (8 * j).toNat % 256
def put (l : List Int) (off w n : Int) : List Int :=
  if w = 1 then l.set off.toNat (n % 256)
  else if w = 2 then (l.set off.toNat (n % 256)).set (off + 1).toNat (n / 256 % 256)
  else (((l.set off.toNat (n % 256)).set (off + 1).toNat (n / 256 % 256)).set (off + 2).toNat (n / 65536 % 256)).set (off + 3).toNat (n / 16777216 % 256)
theorem put_length (l : List Int) (off w n : Int) : (put l off w n).length = l.length := by
  unfold put
  split
  · simp
  · split <;> simp

theorem put_round (k : Nat) (l : List Int) (off n w i q : Int) (hi : i < w) (h0 : 0 ≤ i) (hw : w ≤ 4) (ho : 0 ≤ off) (hl : off + w ≤ l.length) (hl2 : (l.length : Int) ≤ 1500) (hq : (2 : Int) ^ min (8 * i).toNat IntKind.i64.bits = q) :
    apply_Put.l0 (k + 1) l off n w i = apply_Put.l0 k (l.set (off + i).toNat (n / q % 256)) off n w (i + 1) := by
  simp only [apply_Put.l0]
  rw [if_pos hi, w64 (n := 8 * i) (by omega) (by omega), w64 (n := off + i) (by omega) (by omega), w64 (n := i + 1) (by omega) (by omega), if_pos (by omega), if_pos (by omega), if_pos (by omega)]
  unfold shr
  rw [hq]
theorem put_end (k : Nat) (l : List Int) (off n w i : Int) (hi : ¬ i < w) : apply_Put.l0 (k + 1) l off n w i = some l := by
  simp only [apply_Put.l0]
  rw [if_neg hi]

theorem apply_put (k : Nat) (l : List Int) (off w n : Int) (hw : w = 1 ∨ w = 2 ∨ w = 4) (ho : 0 ≤ off) (hl : off + w ≤ l.length) (hl2 : (l.length : Int) ≤ 1500) : apply_Put.f (k + 5) l off w n = some (put l off w n) := by
  unfold apply_Put.f put
  rcases hw with rfl | rfl | rfl
  · rw [put_round (k + 4) _ _ _ _ _ 1 (by omega) (by omega) (by omega) ho hl hl2 rfl, put_end _ _ _ _ _ _ (by omega)]
    simp
  · rw [put_round (k + 4) _ _ _ _ _ 1 (by omega) (by omega) (by omega) ho hl hl2 rfl, put_round (k + 3) _ _ _ _ _ 256 (by omega) (by omega) (by omega) ho (by simpa using hl) (by simpa using hl2) rfl, put_end _ _ _ _ _ _ (by omega)]
    simp
  · rw [put_round (k + 4) _ _ _ _ _ 1 (by omega) (by omega) (by omega) ho hl hl2 rfl, put_round (k + 3) _ _ _ _ _ 256 (by omega) (by omega) (by omega) ho (by simpa using hl) (by simpa using hl2) rfl,
      put_round (k + 2) _ _ _ _ _ 65536 (by omega) (by omega) (by omega) ho (by simpa using hl) (by simpa using hl2) rfl, put_round (k + 1) _ _ _ _ _ 16777216 (by omega) (by omega) (by omega) ho (by simpa using hl) (by simpa using hl2) rfl, put_end _ _ _ _ _ _ (by omega)]
    simp

/-- The number that the bytes of a field are. -/
def num (l : List Int) (off w : Int) : Int :=
  if w = 1 then rd l off
  else if w = 2 then rd l off + rd l (off + 1) * 256
  else rd l off + rd l (off + 1) * 256 + rd l (off + 2) * 65536 + rd l (off + 3) * 16777216
def bytes (l : List Int) : Prop := ∀ y ∈ l, (Lit.int .u8 y).wf = true
theorem byte_wf {y : Int} : (Lit.int .u8 y).wf = true ↔ 0 ≤ y ∧ y ≤ 255 := by
  simp [Lit.wf, IntKind.min, IntKind.max, IntKind.signed, IntKind.bits]
theorem rd_byte {l : List Int} (h : bytes l) (i : Int) : 0 ≤ rd l i ∧ rd l i ≤ 255 := by
  unfold rd
  rw [List.getD_eq_getElem?_getD]
  by_cases hi : i.toNat < l.length
  · rw [List.getElem?_eq_getElem hi]
    exact byte_wf.1 (h _ (List.getElem_mem hi))
  · rw [List.getElem?_eq_none (by omega)]; simp
theorem num_range {l : List Int} (h : bytes l) (off w : Int) : 0 ≤ num l off w ∧ num l off w ≤ 4294967295 ∧ (w = 1 → num l off w ≤ 255) ∧ (w = 2 → num l off w ≤ 65535) := by
  have h0 := rd_byte h off
  have h1 := rd_byte h (off + 1)
  have h2 := rd_byte h (off + 2)
  have h3 := rd_byte h (off + 3)
  unfold num
  split
  · omega
  · split <;> omega

theorem or_comm (k : IntKind) (x y : Int) : Go.bits .or k x y = Go.bits .or k y x := by
  simp only [Go.bits, BitVec.or_comm]
theorem or_join (x b q : Int) (i : Nat) (hq : q = 2 ^ i) (hi : i ≤ 32) (h0 : 0 ≤ x) (h1 : x < q) (hb0 : 0 ≤ b) (hb : b ≤ 255) : Go.bits .or .i64 x (b * q) = x + b * q := by
  have hq1 : (1 : Int) ≤ q := by rw [hq]; exact_mod_cast Nat.one_le_two_pow
  have hq2 : q ≤ 4294967296 := by
    rw [hq]
    have h := Int.ofNat_le.mpr (Nat.pow_le_pow_right (n := 2) (by decide) hi)
    rw [Int.natCast_pow, Int.natCast_pow] at h
    exact h
  have hbq : 0 ≤ b * q ∧ b * q ≤ 255 * 4294967296 := ⟨Int.mul_nonneg hb0 (by omega), Int.mul_le_mul hb hq2 (by omega) (by omega)⟩
  rw [or_comm, Go.bits_join .i64 63 (by decide) (fun n hn0 hn1 => by rw [IntKind.wrap_i64]; omega) i (b * q) x hbq.1 (by rw [hq]; exact Int.mul_emod_left _ _) (by omega) h0 (by rw [← hq]; exact h1) (by omega)]
  omega

theorem get_round (k : Nat) (l : List Int) (off kind w acc i q : Int) (hi : i < w) (h0 : 0 ≤ i) (hw : w ≤ 4) (ho : 0 ≤ off) (hl : off + w ≤ l.length) (hl2 : (l.length : Int) ≤ 1500) (hb : bytes l) (hq : (2 : Int) ^ (8 * i).toNat = q) (ha0 : 0 ≤ acc) (ha : acc < q) :
    apply_Get.l0 (k + 1) l off kind w acc w i = apply_Get.l0 k l off kind w (acc + rd l (off + i) * q) w (i + 1) := by
  simp only [apply_Get.l0]
  have hr := rd_byte hb (off + i)
  rw [if_pos hi, w64 (n := off + i) (by omega) (by omega), if_pos (by omega), if_pos (by omega), w64 (n := 8 * i) (by omega) (by omega), if_pos (by omega), w64 (n := i + 1) (by omega) (by omega), w64 (n := rd l (off + i)) (by omega) (by omega)]
  have hmin : min (8 * i).toNat IntKind.i64.bits = (8 * i).toNat := Nat.min_eq_left (by show _ ≤ 64; omega)
  have hq2 : q ≤ 16777216 := by
    rw [← hq]
    have h := Int.ofNat_le.mpr (Nat.pow_le_pow_right (n := 2) (by decide) (show (8 * i).toNat ≤ 24 by omega))
    rw [Int.natCast_pow, Int.natCast_pow] at h
    exact h
  have hm : 0 ≤ rd l (off + i) * q ∧ rd l (off + i) * q ≤ 255 * 16777216 := ⟨Int.mul_nonneg hr.1 (by omega), Int.mul_le_mul hr.2 hq2 (by omega) (by omega)⟩
  unfold shl
  rw [hmin, hq, IntKind.wrap_i64, show (rd l (off + i) * q + 9223372036854775808) % 18446744073709551616 - 9223372036854775808 = rd l (off + i) * q by omega, or_join acc _ q (8 * i).toNat hq.symm (by omega) ha0 ha hr.1 hr.2]

/-- The number as it is read: with its sign, where the field has one. -/
def signed (kind n : Int) : Int := if kind = 2 ∧ n > 32767 then n - 65536 else if kind = 3 ∧ n > 127 then n - 256 else n
theorem get_end (k : Nat) (l : List Int) (off kind n i : Int) (hi : ¬ i < wd kind) (hw : wd kind ≠ 0) (h0 : 0 ≤ n) (h1 : n ≤ 4294967295) : apply_Get.l0 (k + 1) l off kind (wd kind) n (wd kind) i = some (signed kind n) := by
  simp only [apply_Get.l0]
  rw [if_neg hi, bounds_eq]
  simp only [Option.bind_some]
  unfold signed high
  rcases wd_cases kind with h | h | h | h
  · rw [h.1, if_neg (by omega), if_neg (by omega), if_neg (by omega)]
  · obtain ⟨h, rfl⟩ := h
    rw [h, if_pos (by omega)]
    simp only [if_true, true_and]
    by_cases hn : n > 32767
    · rw [if_pos hn, if_pos hn, w64 (n := 8 * 2) (by omega) (by omega), if_pos (by omega), show shl .i64 1 (8 * 2) = 65536 from by decide, w64 (by omega) (by omega)]
    · rw [if_neg hn, if_neg hn, if_neg (by omega)]
  · obtain ⟨h, rfl⟩ := h
    rw [h, if_pos (by omega), if_neg (show ¬ ((3 : Int) = 2) by omega), if_pos rfl, if_neg (show ¬ ((3 : Int) = 2 ∧ n > 32767) by omega)]
    by_cases hn : n > 127
    · rw [if_pos hn, w64 (n := 8 * 1) (by omega) (by omega), if_pos (by omega), if_pos ⟨rfl, hn⟩, show shl .i64 1 (8 * 1) = 256 from by decide, w64 (by omega) (by omega)]
    · rw [if_neg hn, if_neg (by omega)]
  · exact absurd h.1 hw

theorem apply_get (k : Nat) (l : List Int) (off kind : Int) (hw : wd kind ≠ 0) (ho : 0 ≤ off) (hl : off + wd kind ≤ l.length) (hl2 : (l.length : Int) ≤ 1500) (hb : bytes l) : apply_Get.f (k + 5) l off kind = some (signed kind (num l off (wd kind))) := by
  unfold apply_Get.f
  rw [apply_width]
  simp only [Option.bind_some]
  have hr := num_range hb off (wd kind)
  have h0 := rd_byte hb off
  have h1 := rd_byte hb (off + 1)
  have h2 := rd_byte hb (off + 2)
  have h3 := rd_byte hb (off + 3)
  rcases wd_cases kind with h | h | h | h
  · have hn : num l off (wd kind) = rd l off + rd l (off + 1) * 256 + rd l (off + 2) * 65536 + rd l (off + 3) * 16777216 := by unfold num; rw [h.1]; simp
    rw [get_round (k + 4) _ _ _ _ _ _ 1 (by omega) (by omega) (by omega) ho hl hl2 hb rfl (by omega) (by omega)]
    rw [get_round (k + 3) _ _ _ _ _ _ 256 (by omega) (by omega) (by omega) ho hl hl2 hb rfl (by simp; omega) (by simp; omega)]
    rw [get_round (k + 2) _ _ _ _ _ _ 65536 (by omega) (by omega) (by omega) ho hl hl2 hb rfl (by simp; omega) (by simp; omega)]
    rw [get_round (k + 1) _ _ _ _ _ _ 16777216 (by omega) (by omega) (by omega) ho hl hl2 hb rfl (by simp; omega) (by simp; omega)]
    have e : (0 + rd l (off + 0) * 1 + rd l (off + (0 + 1)) * 256 + rd l (off + (0 + 1 + 1)) * 65536 + rd l (off + (0 + 1 + 1 + 1)) * 16777216) = num l off (wd kind) := by rw [hn]; simp
    rw [e, get_end _ _ _ _ _ _ (by omega) hw hr.1 hr.2.1]
  · have hn : num l off (wd kind) = rd l off + rd l (off + 1) * 256 := by unfold num; rw [h.1]; simp
    rw [get_round (k + 4) _ _ _ _ _ _ 1 (by omega) (by omega) (by omega) ho hl hl2 hb rfl (by omega) (by omega)]
    rw [get_round (k + 3) _ _ _ _ _ _ 256 (by omega) (by omega) (by omega) ho hl hl2 hb rfl (by simp; omega) (by simp; omega)]
    have e : (0 + rd l (off + 0) * 1 + rd l (off + (0 + 1)) * 256) = num l off (wd kind) := by rw [hn]; simp
    rw [e, get_end _ _ _ _ _ _ (by omega) hw hr.1 hr.2.1]
  · have hn : num l off (wd kind) = rd l off := by unfold num; rw [h.1]; simp
    rw [get_round (k + 4) _ _ _ _ _ _ 1 (by omega) (by omega) (by omega) ho hl hl2 hb rfl (by omega) (by omega)]
    have e : (0 + rd l (off + 0) * 1) = num l off (wd kind) := by rw [hn]; simp
    rw [e, get_end _ _ _ _ _ _ (by omega) hw hr.1 hr.2.1]
  · exact absurd h.1 hw

/-! Field and Value. -/
def valueOf (l : List Int) (off kind add p : Int) : Int := signed kind (num l off (wd kind)) - add + (if kind = 2 ∨ kind = 3 then p + wd kind else 0)
theorem signed_range {kind n : Int} (h0 : 0 ≤ n) (h1 : n ≤ 4294967295) : -65536 ≤ signed kind n ∧ signed kind n ≤ 4294967295 := by
  unfold signed
  split
  · omega
  · split <;> omega

theorem apply_value (k : Nat) (l : List Int) (off kind sym add p : Int) (hb : bytes l) : apply_Value.f (k + 5) l off kind sym add p = some (if (chk l.length off kind add p).1 = 0 then (valueOf l off kind add p, 0, 0) else (0, chk l.length off kind add p)) := by
  unfold apply_Value.f
  rw [apply_fault (k + 2)]
  simp only [Option.bind_some]
  by_cases hc : (chk l.length off kind add p).1 = 0
  · have h00 := chk_one hc
    have hok := chk_ok h00
    obtain ⟨h1, h2, h3, h4, h5, h6, h7, h8⟩ := hok
    rw [if_neg (by rw [h00]; decide), if_pos hc, apply_get k l off kind h2 h3 (by omega) h1 hb]
    simp only [Option.bind_some, apply_width]
    have hr := num_range hb off (wd kind)
    have hs := signed_range (kind := kind) hr.1 hr.2.1
    have hw : 0 ≤ wd kind ∧ wd kind ≤ 4 := by rcases wd_cases kind with h | h | h | h <;> omega
    unfold valueOf
    rw [w64 (n := signed kind (num l off (wd kind)) - add) (by omega) (by omega), w64 (n := p + wd kind) (by omega) (by omega), w64 (n := signed kind (num l off (wd kind)) - add + (p + wd kind)) (by omega) (by omega)]
    by_cases k2 : kind = 2
    · rw [if_pos k2, if_pos (Or.inl k2)]
    · rw [if_neg k2]
      by_cases k3 : kind = 3
      · rw [if_pos k3, if_pos (Or.inr k3)]
      · rw [if_neg k3, if_neg (by omega)]; simp
  · rw [if_neg hc, if_pos (by simp [hc])]

theorem apply_field (k : Nat) (l : List Int) (off kind sym add s p : Int) :
    apply_Field.f (k + 6) l off kind sym add s p = some (if (chk l.length off kind add p).1 = 0 then (if 0 ≤ s ∧ s ≤ 4294967295 then (if fits kind (rel kind s add p) = true then (put l off (wd kind) (rel kind s add p), 0, 0) else ([], 16, off)) else ([], 3, -3)) else ([], chk l.length off kind add p)) := by
  unfold apply_Field.f
  rw [apply_fault (k + 3)]
  simp only [Option.bind_some]
  by_cases hc : (chk l.length off kind add p).1 = 0
  · have h00 := chk_one hc
    obtain ⟨h1, h2, h3, h4, h5, h6, h7, h8⟩ := chk_ok h00
    have hw : wd kind = 1 ∨ wd kind = 2 ∨ wd kind = 4 := by rcases wd_cases kind with h | h | h | h <;> omega
    rw [if_neg (by rw [h00]; decide), if_pos hc]
    simp only [apply_Field.j0]
    by_cases hs0 : s < 0
    · rw [if_pos hs0, if_neg (show ¬ (0 ≤ s ∧ s ≤ 4294967295) by omega)]; rfl
    · rw [if_neg hs0]
      by_cases hs1 : s > 4294967295
      · rw [if_pos (by simpa using hs1), if_neg (show ¬ (0 ≤ s ∧ s ≤ 4294967295) by omega)]
      · rw [if_neg (by simpa using hs1), if_pos (show 0 ≤ s ∧ s ≤ 4294967295 by omega), apply_number (k + 3) _ _ _ _ (by omega) (by omega) (by omega) (by omega) (by omega) (by omega)]
        simp only [Option.bind_some]
        by_cases hf : fits kind (rel kind s add p) = true
        · rw [if_pos hf, if_pos hf, show slices_Clone_byte_byte.f l = some l from by unfold slices_Clone_byte_byte.f; rw [if_pos (by omega)]]
          simp only [Option.bind_some, apply_width]
          rw [apply_put k _ _ _ _ hw h3 (by omega) h1]
          rfl
        · rw [if_neg hf, if_neg hf]
  · rw [if_neg hc, if_pos (by simp [hc])]

/-! What was put is what is got. -/
theorem rd_set_ne (l : List Int) (i j v : Int) (hi : 0 ≤ i) (hj : 0 ≤ j) (h : i ≠ j) : rd (l.set i.toNat v) j = rd l j := by
  unfold rd
  rw [List.getD_eq_getElem?_getD, List.getD_eq_getElem?_getD, List.getElem?_set_ne (by omega)]
theorem rd_set_eq (l : List Int) (i v : Int) (hi : 0 ≤ i) (h : i < l.length) : rd (l.set i.toNat v) i = v := by
  unfold rd
  rw [List.getD_eq_getElem?_getD, List.getElem?_set_self (by omega)]
  rfl
theorem num_put (l : List Int) (off w n : Int) (hw : w = 1 ∨ w = 2 ∨ w = 4) (ho : 0 ≤ off) (hl : off + w ≤ l.length) : num (put l off w n) off w = n % (if w = 1 then 256 else if w = 2 then 65536 else 4294967296) := by
  unfold num put
  rcases hw with rfl | rfl | rfl
  · simp only [if_true]
    rw [rd_set_eq _ _ _ ho (by omega)]
  · simp only [show ¬ ((2 : Int) = 1) by omega, if_true, if_false]
    rw [rd_set_ne _ _ _ _ (by omega) (by omega) (by omega), rd_set_eq _ _ _ ho (by omega), rd_set_eq _ _ _ (by omega) (by simp; omega)]
    omega
  · simp only [show ¬ ((4 : Int) = 1) by omega, show ¬ ((4 : Int) = 2) by omega, if_false]
    rw [rd_set_ne _ (off + 3) off _ (by omega) (by omega) (by omega), rd_set_ne _ (off + 2) off _ (by omega) (by omega) (by omega), rd_set_ne _ (off + 1) off _ (by omega) (by omega) (by omega), rd_set_eq _ _ _ ho (by omega),
      rd_set_ne _ (off + 3) (off + 1) _ (by omega) (by omega) (by omega), rd_set_ne _ (off + 2) (off + 1) _ (by omega) (by omega) (by omega), rd_set_eq _ (off + 1) _ (by omega) (by simp; omega),
      rd_set_ne _ (off + 3) (off + 2) _ (by omega) (by omega) (by omega), rd_set_eq _ (off + 2) _ (by omega) (by simp; omega), rd_set_eq _ (off + 3) _ (by omega) (by simp; omega)]
    omega

theorem signed_put {kind n : Int} (hk : wd kind ≠ 0) (hf : fits kind n = true) : signed kind (n % (if wd kind = 1 then 256 else if wd kind = 2 then 65536 else 4294967296)) = n := by
  unfold fits low high at hf
  unfold signed
  rcases wd_cases kind with h | h | h | h
  · rw [h.1, if_neg (by omega), if_neg (by omega), if_neg (by omega), if_neg (by omega)]
    rw [if_neg h.2.1, if_neg h.2.2, if_neg h.2.1, if_neg h.2.2] at hf
    simp at hf
    omega
  · obtain ⟨h, rfl⟩ := h
    simp [h] at hf ⊢
    split <;> omega
  · obtain ⟨h, rfl⟩ := h
    simp [h] at hf ⊢
    split <;> omega
  · exact absurd h.1 hk

theorem bytes_set {l : List Int} (h : bytes l) (i : Nat) (v : Int) : bytes (l.set i (v % 256)) := by
  intro y hy
  rcases List.mem_or_eq_of_mem_set hy with hy | rfl
  · exact h y hy
  · exact byte_wf.2 (by omega)
theorem bytes_put {l : List Int} (h : bytes l) (off w n : Int) : bytes (put l off w n) := by
  unfold put
  split
  · exact bytes_set h _ _
  · split
    · exact bytes_set (bytes_set h _ _) _ _
    · exact bytes_set (bytes_set (bytes_set (bytes_set h _ _) _ _) _ _) _ _

theorem set_rd (l : List Int) (i v : Int) (hi : 0 ≤ i) (hl : i < l.length) (hv : v = rd l i) : l.set i.toNat v = l := by
  subst hv
  unfold rd
  apply List.ext_getElem?
  intro j
  rw [List.getElem?_set]
  split
  · rename_i h
    subst h
    rw [if_pos (by omega), List.getD_eq_getElem?_getD, List.getElem?_eq_getElem (by omega)]
    rfl
  · rfl
/-- Putting the number that is there changes nothing. -/
theorem put_num (l : List Int) (off w n m : Int) (hw : w = 1 ∨ w = 2 ∨ w = 4) (ho : 0 ≤ off) (hl : off + w ≤ l.length) (hb : bytes l) (hm : m = if w = 1 then 256 else if w = 2 then 65536 else 4294967296) (hn : n % m = num l off w) : put l off w n = l := by
  have h0 := rd_byte hb off
  have h1 := rd_byte hb (off + 1)
  have h2 := rd_byte hb (off + 2)
  have h3 := rd_byte hb (off + 3)
  unfold num at hn
  unfold put
  subst hm
  rcases hw with rfl | rfl | rfl
  · simp only [if_true] at hn ⊢
    exact set_rd _ _ _ ho (by omega) hn
  · simp only [show ¬ ((2 : Int) = 1) by omega, if_true, if_false] at hn ⊢
    rw [set_rd l off (n % 256) ho (by omega) (by omega)]
    exact set_rd _ _ _ (by omega) (by omega) (by omega)
  · simp only [show ¬ ((4 : Int) = 1) by omega, show ¬ ((4 : Int) = 2) by omega, if_false] at hn ⊢
    rw [set_rd l off (n % 256) ho (by omega) (by omega), set_rd l (off + 1) (n / 256 % 256) (by omega) (by omega) (by omega), set_rd l (off + 2) (n / 65536 % 256) (by omega) (by omega) (by omega)]
    exact set_rd _ _ _ (by omega) (by omega) (by omega)

theorem same_bytes (l : List Int) : ref_SameBytes.f l l = some true := by
  unfold ref_SameBytes.f
  rw [beq_self_eq_true]

theorem fills_true (k : Nat) : law_fills.f (k + 6) = some true := by
  have e1 : apply_Field.f (k + 6) [9, 0, 0] 1 2 0 0 300 257 = some ([9, 41, 0], 0, 0) := by
    rw [apply_field]; decide
  have e2 : apply_Value.f (k + 6) [9, 41, 0] 1 2 0 0 257 = some (300, 0, 0) := by
    rw [apply_value (k + 1) _ _ _ _ _ _ (by intro y hy; simp at hy; rcases hy with rfl | rfl | rfl <;> decide)]; decide
  have e3 : apply_Field.f (k + 6) [9, 0, 0] 1 2 0 0 100000 257 = some ([], 16, 1) := by
    rw [apply_field]; decide
  unfold law_fills.f
  rw [e1, e2, e3]
  simp only [Option.bind_some, same_bytes, if_true, ref_at]
  rfl

theorem i64_wf {y : Int} : (Lit.int .i64 y).wf = true ↔ -9223372036854775808 ≤ y ∧ y ≤ 9223372036854775807 := by
  simp [Lit.wf, IntKind.min, IntKind.max, IntKind.signed, IntKind.bits]
theorem field_at {k : Nat} (hk : 6 ≤ k) (l : List Int) (off kind sym add s p : Int) :
    apply_Field.f k l off kind sym add s p = some (if (chk l.length off kind add p).1 = 0 then (if 0 ≤ s ∧ s ≤ 4294967295 then (if fits kind (rel kind s add p) = true then (put l off (wd kind) (rel kind s add p), 0, 0) else ([], 16, off)) else ([], 3, -3)) else ([], chk l.length off kind add p)) := by
  obtain ⟨m, rfl⟩ : ∃ m, k = m + 6 := ⟨k - 6, by omega⟩
  exact apply_field m l off kind sym add s p
theorem value_at {k : Nat} (hk : 6 ≤ k) (l : List Int) (off kind sym add p : Int) (hb : bytes l) : apply_Value.f k l off kind sym add p = some (if (chk l.length off kind add p).1 = 0 then (valueOf l off kind add p, 0, 0) else (0, chk l.length off kind add p)) := by
  obtain ⟨m, rfl⟩ : ∃ m, k = m + 5 := ⟨k - 5, by omega⟩
  exact apply_value m l off kind sym add p hb
theorem fills_at {k : Nat} (hk : 6 ≤ k) : law_fills.f k = some true := by
  obtain ⟨m, rfl⟩ : ∃ m, k = m + 6 := ⟨k - 6, by omega⟩
  exact fills_true m
theorem refault_at {k : Nat} (hk : 6 ≤ k) (l : List Int) (off kind sym add p : Int) : ref_FieldFault.f k l off kind sym add p = some (chk l.length off kind add p) := by
  obtain ⟨m, rfl⟩ : ∃ m, k = m + 1 := ⟨k - 1, by omega⟩
  exact ref_fault m l off kind sym add p
/-- What is got back from a field that was put. -/
theorem value_put {l : List Int} {off kind add s p : Int} (hc : (chk l.length off kind add p).1 = 0) (hf : fits kind (rel kind s add p) = true) : valueOf (put l off (wd kind) (rel kind s add p)) off kind add p = s := by
  obtain ⟨h1, h2, h3, h4, h5, h6, h7, h8⟩ := chk_ok (chk_one hc)
  have hw : wd kind = 1 ∨ wd kind = 2 ∨ wd kind = 4 := by rcases wd_cases kind with h | h | h | h <;> omega
  unfold valueOf
  rw [num_put l off (wd kind) _ hw h3 (by omega), signed_put h2 hf]
  unfold rel
  split <;> omega
end Go.Proofs.Ytnbeamaoblmbhaa.Pure
