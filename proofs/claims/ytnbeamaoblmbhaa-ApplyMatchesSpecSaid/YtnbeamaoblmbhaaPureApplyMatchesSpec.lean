/- The plain law of ApplyMatchesSpec: what the functions of package apply compute is what the references compute, whatever the input. No condition beyond the ranges of Go's own types. -/
import Derived.Test.YtnbeamaoblmbhaaPApplyx7
import Derived.Test.YtnbeamaoblmbhaaPureApply
namespace Go.Proofs.Ytnbeamaoblmbhaa.Pure
open Go.RowKit Go.Proofs.Ytnbeamaoblmbhaa.PApply Go.Proofs.YtnbeamaoblmbhaaW.PrintWords Go.Proofs.YtnbeamaoblmbhaaW.PrintMore

theorem and255 (x : Int) : Go.bits .and .i64 x 255 = x % 256 := by
  have h : (BitVec.ofInt 64 x &&& BitVec.ofInt 64 255).toNat = (x % 18446744073709551616).toNat % 256 := by
    rw [BitVec.toNat_and, show (BitVec.ofInt 64 255).toNat = 2 ^ 8 - 1 from by decide, Nat.and_two_pow_sub_one_eq_mod, BitVec.toNat_ofInt]
    rfl
  show IntKind.i64.wrap (((BitVec.ofInt 64 x &&& BitVec.ofInt 64 255).toNat : Nat) : Int) = _
  rw [h, IntKind.wrap_i64]
  omega

theorem u64 {n : Int} (h0 : 0 ≤ n) (h1 : n < 18446744073709551616) : IntKind.u64.wrap n = n := by
  simp [IntKind.wrap, IntKind.bits, IntKind.signed]
  omega

theorem ref_byte (n j : Int) (h0 : 0 ≤ j) (h1 : j ≤ 3) : ref_Byte.f n j = some (byteOf n j) := by
  unfold ref_Byte.f byteOf
  rw [w64 (n := 8 * j) (by omega) (by omega), u64 (by omega) (by omega), if_pos (by omega), and255]
  unfold shr
  rw [Nat.min_eq_left (show (8 * j).toNat ≤ IntKind.i64.bits by show _ ≤ 64; omega)]
  congr 1
  omega

/-- Where a field was put: its bytes; elsewhere what was there. -/
theorem put_get (l : List Int) (off w n : Int) (hw : w = 1 ∨ w = 2 ∨ w = 4) (ho : 0 ≤ off) (hl : off + w ≤ l.length) (i : Nat) (hi : i < l.length) :
    (put l off w n)[i]? = some (if off ≤ (i : Int) ∧ (i : Int) ≤ off + w - 1 then byteOf n (i - off) else rd l i) := by
  have e : l[i]? = some (rd l i) := by
    unfold rd
    rw [List.getD_eq_getElem?_getD, Int.toNat_natCast, List.getElem?_eq_getElem hi]
    rfl
  have b0 : byteOf n 0 = n % 256 := by unfold byteOf; simp
  have b1 : byteOf n 1 = n / 256 % 256 := rfl
  have b2 : byteOf n 2 = n / 65536 % 256 := rfl
  have b3 : byteOf n 3 = n / 16777216 % 256 := rfl
  unfold put
  rcases hw with rfl | rfl | rfl
  · simp only [if_true]
    rw [List.getElem?_set]
    split
    · rw [if_pos (by omega), if_pos (by omega), show (i : Int) - off = 0 by omega, b0]
    · rw [e, if_neg (by omega)]
  · simp only [show ¬ ((2 : Int) = 1) by omega, if_true, if_false]
    rw [List.getElem?_set, List.getElem?_set]
    split
    · rw [if_pos (by simp; omega), if_pos (by omega), show (i : Int) - off = 1 by omega, b1]
    · split
      · rw [if_pos (by omega), if_pos (by omega), show (i : Int) - off = 0 by omega, b0]
      · rw [e, if_neg (by omega)]
  · simp only [show ¬ ((4 : Int) = 1) by omega, show ¬ ((4 : Int) = 2) by omega, if_false]
    rw [List.getElem?_set, List.getElem?_set, List.getElem?_set, List.getElem?_set]
    split
    · rw [if_pos (by simp; omega), if_pos (by omega), show (i : Int) - off = 3 by omega, b3]
    · split
      · rw [if_pos (by simp; omega), if_pos (by omega), show (i : Int) - off = 2 by omega, b2]
      · split
        · rw [if_pos (by simp; omega), if_pos (by omega), show (i : Int) - off = 1 by omega, b1]
        · split
          · rw [if_pos (by omega), if_pos (by omega), show (i : Int) - off = 0 by omega, b0]
          · rw [e, if_neg (by omega)]

theorem patched_from (l : List Int) (off w n : Int) (hw : w = 1 ∨ w = 2 ∨ w = 4) (ho : 0 ≤ off) (hl : off + w ≤ l.length) (hl2 : (l.length : Int) ≤ 1500) (d : Nat) :
    ∀ (k i : Nat), i + d = l.length → d < k → ref_Patched.l0 k l off w n ((put l off w n).take i) i = some (put l off w n) := by
  induction d with
  | zero =>
    intro k i hi hk
    obtain ⟨k, rfl⟩ : ∃ m, k = m + 1 := ⟨k - 1, by omega⟩
    simp only [ref_Patched.l0]
    rw [if_neg (by omega), List.take_of_length_le (by rw [put_length]; omega)]
  | succ d ih =>
    intro k i hi hk
    obtain ⟨k, rfl⟩ : ∃ m, k = m + 1 := ⟨k - 1, by omega⟩
    have hil : i < l.length := by omega
    have hg := put_get l off w n hw ho hl i hil
    have hs : (put l off w n).take i ++ [if off ≤ (i : Int) ∧ (i : Int) ≤ off + w - 1 then byteOf n (i - off) else rd l i] = (put l off w n).take (i + 1) := by
      rw [List.take_add_one, hg]
      rfl
    have hlen : ((put l off w n).take i).length < 140737488355328 := by rw [List.length_take, put_length]; omega
    have hnext := ih k (i + 1) (by omega) (by omega)
    simp only [ref_Patched.l0]
    rw [if_pos (by omega), w64 (n := off + w) (by omega) (by omega), w64 (n := off + w - 1) (by omega) (by omega), ref_in, w64 (n := (i : Int) + 1) (by omega) (by omega)]
    simp only [Option.bind_some]
    by_cases c : off ≤ (i : Int) ∧ (i : Int) ≤ off + w - 1
    · rw [if_pos (decide_eq_true c), w64 (n := (i : Int) - off) (by omega) (by omega), ref_byte _ _ (by omega) (by omega)]
      simp only [Option.bind_some]
      rw [if_pos c] at hs
      rw [if_pos hlen, hs]
      exact hnext
    · rw [if_neg (by simpa using c), if_pos (by omega)]
      rw [if_neg c] at hs
      rw [if_pos hlen, hs]
      exact hnext

theorem patched_at {k : Nat} (l : List Int) (off w n : Int) (hw : w = 1 ∨ w = 2 ∨ w = 4) (ho : 0 ≤ off) (hl : off + w ≤ l.length) (hl2 : (l.length : Int) ≤ 1500) (hk : 1600 ≤ k) : ref_Patched.f k l off w n = some (put l off w n) := by
  have := patched_from l off w n hw ho hl hl2 l.length k 0 (by omega) (by omega)
  exact this

theorem width_at {k : Nat} (hk : 6 ≤ k) (a : Int) : ref_Width.f k a = some (wd a) := by
  obtain ⟨m, rfl⟩ : ∃ m, k = m + 1 := ⟨k - 1, by omega⟩
  exact ref_width m a

theorem ApplyMatchesSpec : law_ApplyMatchesSpec.Pure := by
  intro l off kind sym add s p _ _ hb _ ws wp
  rw [i64_wf] at ws wp
  obtain ⟨K, hK⟩ : ∃ K : Nat, 1600 ≤ K := ⟨1600, Nat.le_refl _⟩
  refine ⟨K + 5, ?_⟩
  -- what follows when the reference's fault is (c1, c2), not nothing, and the field says the same
  have bad : ∀ (k : Nat) (x c1 c2 : Int), 6 ≤ k → c1 ≠ 0 → apply_Field.f k l off kind sym add s p = some ([], c1, c2) → law_ApplyMatchesSpec.j4 (k + 1) l s p x off kind sym add c1 c2 = some true := by
    intro k x c1 c2 hk hc h
    simp only [law_ApplyMatchesSpec.j4]
    rw [h]
    simp [hc]
  unfold law_ApplyMatchesSpec.f
  rw [refault_at (by omega), value_at (by omega) _ _ _ _ _ _ hb, fills_at (by omega)]
  simp only [Option.bind_some, if_true]
  by_cases hc : (chk l.length off kind add p).1 = 0
  · have h00 := chk_one hc
    obtain ⟨h1, h2, h3, h4, h5, h6, h7, h8⟩ := chk_ok h00
    have hw : wd kind = 1 ∨ wd kind = 2 ∨ wd kind = 4 := by rcases wd_cases kind with h | h | h | h <;> omega
    rw [if_pos hc, h00]
    rw [if_neg (by simp), if_pos rfl]
    simp only [law_ApplyMatchesSpec.j0]
    rw [if_neg (by decide), if_pos trivial, ref_in]
    simp only [Option.bind_some, law_ApplyMatchesSpec.j1]
    by_cases hs : 0 ≤ s ∧ s ≤ 4294967295
    · rw [if_neg (by simpa using hs)]
      simp only [law_ApplyMatchesSpec.j2]
      rw [if_pos trivial, ref_number _ _ _ _ (by omega) (by omega) (by omega) (by omega) (by omega) (by omega)]
      simp only [Option.bind_some, law_ApplyMatchesSpec.j3]
      by_cases hf : fits kind (rel kind s add p) = true
      · rw [if_pos hf]
        simp only [law_ApplyMatchesSpec.j4]
        rw [field_at (by omega), if_pos hc, if_pos hs, if_pos hf]
        simp only [Option.bind_some]
        rw [if_pos (by simp), if_pos trivial, width_at (by omega)]
        simp only [Option.bind_some]
        rw [patched_at _ _ _ _ hw h3 (by omega) h1 (by omega)]
        simp only [Option.bind_some, same_bytes]
      · rw [if_neg hf]
        simp only [ref_at, Option.bind_some]
        exact bad K _ 16 off (by omega) (by decide) (by rw [field_at (by omega), if_pos hc, if_pos hs, if_neg hf])
    · rw [if_pos (by simp; omega)]
      simp only [ref_at, Option.bind_some, law_ApplyMatchesSpec.j2]
      rw [if_neg (by decide)]
      simp only [law_ApplyMatchesSpec.j3, if_true]
      exact bad K _ 3 (-3) (by omega) (by decide) (by rw [field_at (by omega), if_pos hc, if_neg hs])
  · rw [if_neg hc, if_neg (by simp), if_neg hc]
    simp only [law_ApplyMatchesSpec.j0]
    rw [if_neg (by decide), if_neg hc]
    simp only [law_ApplyMatchesSpec.j1]
    rw [if_neg (by decide)]
    simp only [law_ApplyMatchesSpec.j2]
    rw [if_neg hc]
    simp only [law_ApplyMatchesSpec.j3, if_true]
    exact bad K _ _ _ (by omega) hc (by rw [field_at (by omega), if_neg hc])
end Go.Proofs.Ytnbeamaoblmbhaa.Pure
