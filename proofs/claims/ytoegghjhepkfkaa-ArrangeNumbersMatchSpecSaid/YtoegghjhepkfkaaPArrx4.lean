/- Written by a program of this session, for the law(s) Arr: contracts of the Go functions that the law reaches, each against a plain Lean function. No condition. -/
import Derived.Test.YtoegghjhepkfkaaPArrx0
import Derived.Test.YtoegghjhepkfkaaPArrx3
namespace Go.Proofs.Ytoegghjhepkfkaa.PArr
open Go.RowKit Go.Proofs.YtoegghjhepkfkaaW.PrintWords Go.Proofs.YtoegghjhepkfkaaW.PrintLast Go.Proofs.YtoegghjhepkfkaaW.PrintMore
attribute [local go_sem] max2_int min2_int max_two min_two max_three min_three max_four min_four   -- for this text's walks alone
set_option linter.unusedVariables false
set_option linter.unusedSimpArgs false

/-! ### arrange_names: function 19 -/
/-- a letter, a dot, an underscore, a dollar -/
def okc (c : Int) : Bool := (decide (97 ≤ c) && decide (c ≤ 122)) || ((decide (65 ≤ c) && decide (c ≤ 90)) || (c == 46 || (c == 95 || c == 36)))
def okAt (s : ByteArray) (i : Nat) : Bool := okc (bt s i) || (decide (0 < i) && (decide (48 ≤ bt s i) && decide (bt s i ≤ 57)))
/-- is this a name -/
def nameB (s : ByteArray) : Bool := (List.range s.size).all (okAt s) && (decide (1 ≤ s.size) && decide (s.size ≤ 16))
def arrange_names.f (l0 : List ByteArray) (a1 : Int) (a2 : Int) : Option (Int × Int) :=
  if l0.all (fun s => decide (s.size ≤ 9223372036854775807)) = true then some (if (l0.length : Int) > a1 then (2, a2) else if l0.all nameB = true then (0, 0) else (12, a2)) else none
theorem isName_step (k : Nat) (s : ByteArray) (i : Nat) (hi : i < s.size) (hs : s.size ≤ 9223372036854775807) :
    script_IsName.l0 (k + 1) s (s.size : Int) (i : Int) = if okAt s i = true then script_IsName.l0 k s (s.size : Int) ((i + 1 : Nat) : Int) else some false := by
  have e : wrap64 ((i : Int) + 1) = ((i + 1 : Nat) : Int) := by unfold wrap64; omega
  simp only [script_IsName.l0]
  rw [if_pos (by omega), if_pos (by omega), if_pos (by omega), e]
  clear e
  unfold okAt okc
  generalize script_IsName.l0 k s (s.size : Int) ((i + 1 : Nat) : Int) = R
  generalize bt s (i : Int) = c
  have e0 : ((i : Int) = 0) = (i = 0) := propext (by omega)
  simp only [e0, ge_iff_le, gt_iff_lt]
  by_cases h1 : 97 ≤ c <;> by_cases h2 : c ≤ 122 <;> by_cases h3 : 65 ≤ c <;> by_cases h4 : c ≤ 90 <;> by_cases h5 : c = 46 <;> by_cases h6 : c = 95 <;> by_cases h7 : c = 36 <;> by_cases h8 : i = 0 <;> by_cases h9 : c < 48 <;> by_cases h10 : 57 < c <;>
    first | omega | (simp [h1, h2, h3, h4, h5, h6, h7, h8, h9, h10]; done) | (simp [h1, h2, h3, h4, h5, h6, h7, h8, h9, h10]; omega)
theorem isName_l0 (s : ByteArray) (hs : s.size ≤ 9223372036854775807) : ∀ (m i : Nat), s.size - i = m → i ≤ s.size → (∀ j, j < i → okAt s j = true) → ∀ k, m < k → script_IsName.l0 k s (s.size : Int) (i : Int) = some (nameB s)
  | 0, i, hm, hi, ha, k, hk => by
    obtain ⟨k, rfl⟩ : ∃ q, k = q + 1 := ⟨k - 1, by omega⟩
    have : i = s.size := by omega
    subst this
    simp only [script_IsName.l0]
    rw [if_neg (by omega)]
    have hall : (List.range s.size).all (okAt s) = true := by
      rw [List.all_eq_true]; intro j hj; exact ha j (List.mem_range.1 hj)
    unfold nameB
    rw [hall, Bool.true_and]
    by_cases h1 : 1 ≤ s.size
    · rw [if_pos (by omega), decide_eq_true h1, Bool.true_and]
      congr 1
      exact decide_eq_decide.2 (by omega)
    · rw [if_neg (by omega), decide_eq_false h1, Bool.false_and]
  | m + 1, i, hm, hi, ha, k, hk => by
    obtain ⟨k, rfl⟩ : ∃ q, k = q + 1 := ⟨k - 1, by omega⟩
    rw [isName_step k s i (by omega) hs]
    by_cases h : okAt s i = true
    · rw [if_pos h]
      exact isName_l0 s hs m (i + 1) (by omega) (by omega) (fun j hj => by
        by_cases e : j = i
        · subst e; exact h
        · exact ha j (by omega)) k (by omega)
    · rw [if_neg h]
      have : (List.range s.size).all (okAt s) = false := by
        rw [List.all_eq_false]; exact ⟨i, List.mem_range.2 (by omega), by simpa using h⟩
      unfold nameB
      rw [this, Bool.false_and]
theorem isName_f (s : ByteArray) (hs : s.size ≤ 9223372036854775807) : script_IsName.f (s.size + 1) s = some (nameB s) := by
  unfold script_IsName.f
  exact isName_l0 s hs s.size 0 (by omega) (by omega) (fun j hj => by omega) _ (by omega)
theorem isName_of (s : ByteArray) (hs : s.size ≤ 9223372036854775807) (w : World) : Calls Try.prog 30 #[.string s] w fun e w' => e = .returned (.bool (nameB s)) ∧ Drawn0 w w' := script_IsName.calls _ s _ w (isName_f s hs)

set_option maxHeartbeats 4000000 in
/-- the closure: is this no name -/
theorem noName_calls (s : ByteArray) (hs : s.size ≤ 9223372036854775807) (w : World) : Calls Try.prog 29 #[.string s] w fun e w' => e = .returned (.bool (!nameB s)) ∧ Drawn0 w w' := by
  have c := fun w => isName_of s hs w
  generalize nameB s = b at c ⊢
  go_enter Try.func29, Try.ntmps29
  go_wp2_with (go_at_call 30; refine (c _).mono ?_; rintro e w1 ⟨rfl, hd⟩)
  go_ret
  exact ⟨rfl, hd⟩

/-- where a predicate first holds, or -1 -/
def fidx (p : ByteArray → Bool) (l : List ByteArray) : Int := match l.findIdx? p with | some i => (i : Int) | none => -1
set_option maxHeartbeats 4000000 in
set_option maxRecDepth 100000 in
/-- slices.IndexFunc at whatever function value that tells a predicate of the row's names -/
theorem idx38 (A0 : Option Addr) (c0 : Nat) (l0 : List ByteArray) (gf : Nat) (lb : Array Value) (p : ByteArray → Bool) (w : World) (hr0 : Kd.C Kd.string w A0 l0.length l0)
    (eg : ∀ args w, (callFunc gf args).run Try.prog w = .ok (.enter gf args) w)
    (hp : ∀ (W : World) (x : ByteArray), x ∈ l0 → Calls Try.prog gf (#[.string x] ++ lb) W fun e w' => e = .returned (.bool (p x)) ∧ Drawn0 W w') :
    Calls Try.prog 38 #[.slice A0 l0.length c0, .func (.func gf) #[] lb] w fun e w' => e = .returned (.int .i64 (fidx p l0)) ∧ Drawn0 w w' := by
  have hbig := hr0.2.1
  have HR := Aside0.mk hr0
  have HP := Aside0.mk hp
  clear hr0 hp
  go_enter Try.func38, Try.ntmps38
  go_wp2
  go_loopg [5, 8] l0.length (fun gg _ s8 wr => ∃ kk : Nat, s8 = .int .i64 kk ∧ kk ≤ l0.length ∧ l0.length - kk ≤ gg ∧ Aside0 (Drawn0 w wr) ∧ Aside0 (∀ j y, j < kk → l0[j]? = some y → p y = false))
  case atStart => exact ⟨0, rfl, Nat.zero_le _, by omega, ⟨Drawn0.refl _⟩, ⟨fun j y hj => absurd hj (Nat.not_lt_zero _)⟩⟩
  case round =>
    obtain ⟨kk, rfl, hkk, hg, BW, A⟩ := hrel
    by_cases hlt : kk < l0.length
    · have px : (0 : Int) ≤ (kk : Int) := by omega
      have qx : (kk : Int) < (l0.length : Int) := by omega
      obtain ⟨ad, e, hcx⟩ := Kd.at_string (Kd.C_below HR.out BW.out.below) (kk : Int) px qx
      subst e
      rw [Int.toNat_natCast] at hcx
      have hy : l0[kk]? = some (rdOf ByteArray.empty l0 (kk : Int)) := by unfold rdOf; rw [Int.toNat_natCast, List.getD_eq_getElem?_getD, List.getElem?_eq_getElem hlt]; rfl
      have hmem : rdOf ByteArray.empty l0 (kk : Int) ∈ l0 := List.mem_of_getElem? hy
      have hcall := HP.out wr _ hmem
      generalize rdOf ByteArray.empty l0 (kk : Int) = y at hcx hy hcall
      have HY := Aside0.mk hy
      clear hy hmem
      cases hq : p y with
      | true =>
        rw [hq] at hcall
        have HQ := Aside0.mk hq
        have hidx : l0.findIdx? p = some kk := by
          rw [List.findIdx?_eq_some_iff_getElem]
          obtain ⟨h1, h2⟩ := List.getElem?_eq_some_iff.1 HY.out
          exact ⟨h1, by rw [h2]; exact HQ.out, fun j hj => by rw [A.out j _ hj (List.getElem?_eq_getElem (by omega))]; simp⟩
        have HI := Aside0.mk hidx
        clear hq hidx
        go_wp2_with (go_at_fn gf; refine hcall.mono ?_; rintro e w1 ⟨rfl, ⟨n, rfl⟩⟩)
        go_ret
        exact ⟨by unfold fidx; rw [HI.out]; rfl, BW.out.step n⟩
      | false =>
        rw [hq] at hcall
        have HQ := Aside0.mk hq
        clear hq
        go_wp2_with (go_at_fn gf; refine hcall.mono ?_; rintro e w1 ⟨rfl, ⟨n, rfl⟩⟩)
        go_roundg (l0.length - (kk + 1))
        case measure => omega
        case rel =>
          refine ⟨kk + 1, by go_num, by omega, Nat.le_refl _, ⟨BW.out.step n⟩, ⟨fun j y' hj hy' => ?_⟩⟩
          by_cases e : j = kk
          · subst e
            have := HY.out.symm.trans hy'
            injection this with this
            subst this
            exact HQ.out
          · exact A.out j y' (by omega) hy'
    · have hlti : ¬ (kk : Int) < (l0.length : Int) := by omega
      have : kk = l0.length := by omega
      subst this
      have hidx : l0.findIdx? p = none := by
        rw [List.findIdx?_eq_none_iff]
        intro x hx
        obtain ⟨j, hj, rfl⟩ := List.mem_iff_getElem.1 hx
        exact A.out j _ hj (List.getElem?_eq_getElem hj)
      have HI := Aside0.mk hidx
      clear hidx
      go_wp2
      go_ret
      exact ⟨by unfold fidx; rw [HI.out]; rfl, BW.out⟩
set_option maxHeartbeats 4000000 in
theorem cont28 (A0 : Option Addr) (c0 : Nat) (l0 : List ByteArray) (hs : ∀ s ∈ l0, s.size ≤ 9223372036854775807) (w : World) (hr0 : Kd.C Kd.string w A0 l0.length l0) :
    Calls Try.prog 28 #[.slice A0 l0.length c0, .func (.func 29) #[] #[]] w fun e w' => e = .returned (.bool (!l0.all nameB)) ∧ Drawn0 w w' := by
  have c := idx38 A0 c0 l0 29 #[] (fun s => !nameB s) w hr0 (Go.Proofs.enters_of Try.func29 (by kernel_rfl) rfl) (fun W x hx => noName_calls x (hs x hx) W)
  have hb : decide (0 ≤ fidx (fun s => !nameB s) l0) = !l0.all nameB := by
    unfold fidx
    cases h : l0.findIdx? (fun s => !nameB s) with
    | none =>
      rw [List.findIdx?_eq_none_iff] at h
      have : l0.all nameB = true := by rw [List.all_eq_true]; intro x hx; simpa using h x hx
      rw [this]; rfl
    | some i =>
      obtain ⟨h1, h2, _⟩ := List.findIdx?_eq_some_iff_getElem.1 h
      have : l0.all nameB = false := by rw [List.all_eq_false]; exact ⟨l0[i], List.getElem_mem h1, by simpa using h2⟩
      rw [this]
      exact decide_eq_true (by show (0 : Int) ≤ (i : Int); omega)
  generalize fidx (fun s => !nameB s) l0 = q at c hb
  have HB := Aside0.mk hb
  clear hb hr0
  go_enter Try.func28, Try.ntmps28
  go_wp2_with (go_at_call 38; refine c.mono ?_; rintro e w1 ⟨rfl, hd⟩)
  go_ret
  exact ⟨by rw [← HB.out]; rfl, hd⟩
set_option maxHeartbeats 4000000 in
set_option maxRecDepth 100000 in
theorem arrange_names.calls (A0 : Option Addr) (c0 : Nat) (l0 : List ByteArray) (a1 : Int) (a2 : Int) (r1 : Int) (r2 : Int) (w : World) (hr0 : Kd.C Kd.string w A0 l0.length l0) (hc0 : l0.length ≤ c0) (h : arrange_names.f l0 a1 a2 = some (r1, r2)) :
    Calls Try.prog 19 #[.slice A0 l0.length c0, .int .i64 a1, .int .i64 a2] w fun e w' => e = .returned (.agg #[.int .i64 r1, .int .i64 r2]) ∧ Below w.heap.size w w' := by
  have hu24 := Try.underlying24
  have hs : l0.all (fun s => decide (s.size ≤ 9223372036854775807)) = true := by
    unfold arrange_names.f at h
    split at h
    · assumption
    · cases h
  have H : (if (l0.length : Int) > a1 then ((2 : Int), a2) else if l0.all nameB = true then (0, 0) else (12, a2)) = (r1, r2) := by
    unfold arrange_names.f at h
    rw [if_pos hs] at h
    exact Option.some.inj h
  clear h
  have hs2 : ∀ s ∈ l0, s.size ≤ 9223372036854775807 := fun s hm => by simpa using List.all_eq_true.1 hs s hm
  have hc := fun W (hB : Below w.heap.size w W) => cont28 A0 c0 l0 hs2 W (Kd.C_below hr0 hB)
  have hbig := hr0.2.1
  clear hr0 hs hs2
  by_cases hn : (l0.length : Int) > a1
  · rw [if_pos hn] at H
    simp only [Prod.mk.injEq] at H
    obtain ⟨rfl, rfl⟩ := H
    clear hc
    go_enter Try.func19, Try.ntmps19
    go_wp2
    refine bodyPost_ret (results_single rfl (Vals.cell w.heap.size 24 #[.int .i64 2, .int .i64 a2] (0, 0) _ rfl (blk_new w (.cells #[.int .i64 2, .int .i64 a2] 24)) Try.underlying24 rfl (by kernel_rfl) Vals.nil)) rfl ?_
    exact ⟨rfl, (Below.refl _ w).alloc (Nat.le_refl _) _⟩
  · rw [if_neg hn] at H
    have hc0 := hc (w.alloc (.cells #[.int .i64 0, .int .i64 0] 24)) ((Below.refl _ w).alloc (Nat.le_refl _) _)
    clear hc
    obtain ⟨wA, hwA⟩ : ∃ wA, wA = w.alloc (.cells #[.int .i64 0, .int .i64 0] 24) := ⟨_, rfl⟩
    have hbF : wA.heap[w.heap.size]? = some (.cells #[.int .i64 0, .int .i64 0] 24 (0, 0)) := by rw [hwA]; exact blk_new w _
    have hB : Below w.heap.size w wA := by rw [hwA]; exact (Below.refl _ w).alloc (Nat.le_refl _) _
    rw [← hwA] at hc0
    obtain ⟨f0, f1, z0, z1⟩ := blkC2 hbF
    have BF := Aside0.mk hbF
    have BB := Aside0.mk hB
    clear hbF hB
    have hset : ∀ (a b : Int) (n : Nat), Aside0 ((((wA.drewN n).setCell ⟨w.heap.size, 0, none⟩ (.int .i64 a)).setCell ⟨w.heap.size, 1, none⟩ (.int .i64 b)).heap[w.heap.size]? = some (.cells #[.int .i64 a, .int .i64 b] 24 (0, 0))) := fun a b n => ⟨by
      refine blk_put (cs := #[.int .i64 a, .int .i64 0]) ?_ 1 _ rfl
      refine blk_put (cs := #[.int .i64 0, .int .i64 0]) ?_ 0 _ rfl
      exact blk_drewN BF.out n⟩
    have HS := Aside0.mk hset
    clear hset
    cases hall : l0.all nameB with
    | true =>
      rw [hall, if_pos rfl] at H
      rw [hall] at hc0
      simp only [Prod.mk.injEq] at H
      obtain ⟨rfl, rfl⟩ := H
      clear hall
      go_enter Try.func19, Try.ntmps19
      go_upto_region 3 with fail
      rw [← hwA]
      clear hwA
      go_wp2_with (go_at_call 28; refine hc0.mono ?_; rintro e w1 ⟨rfl, ⟨n, rfl⟩⟩)
      refine bodyPost_ret (results_single rfl (Vals.cell w.heap.size 24 #[.int .i64 0, .int .i64 0] (0, 0) _ rfl (HS.out 0 0 n).out Try.underlying24 rfl (by kernel_rfl) Vals.nil)) rfl ?_
      exact ⟨rfl, below_set (below_set (BB.out.trans (Drawn0.below ⟨n, rfl⟩ |>.mono BB.out.size)) (Nat.le_refl _)) (Nat.le_refl _)⟩
    | false =>
      rw [hall, if_neg (by simp)] at H
      rw [hall] at hc0
      simp only [Prod.mk.injEq] at H
      obtain ⟨rfl, rfl⟩ := H
      clear hall
      go_enter Try.func19, Try.ntmps19
      go_upto_region 3 with fail
      rw [← hwA]
      clear hwA
      go_wp2_with (go_at_call 28; refine hc0.mono ?_; rintro e w1 ⟨rfl, ⟨n, rfl⟩⟩)
      refine bodyPost_ret (results_single rfl (Vals.cell w.heap.size 24 #[.int .i64 12, .int .i64 a2] (0, 0) _ rfl (HS.out 12 a2 n).out Try.underlying24 rfl (by kernel_rfl) Vals.nil)) rfl ?_
      exact ⟨rfl, below_set (below_set (BB.out.trans (Drawn0.below ⟨n, rfl⟩ |>.mono BB.out.size)) (Nat.le_refl _)) (Nat.le_refl _)⟩

end Go.Proofs.Ytoegghjhepkfkaa.PArr
