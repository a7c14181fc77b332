/- The plain theory of a stable sort that merges in place (blocks sorted by insertion, then merged by rotations): what each part does to an array. No condition. -/
import Derived.Sort.LotA
namespace Go.Proofs.Ytoegghjhepkfkaa.Srt
open Go.Sort
variable {α : Type} [Inhabited α]

/-! ### two rows exchanged, a rotation -/
/-- d' is d with the rows [a, m) and [m, b) exchanged. -/
structure Rot (d : Array α) (a m b : Nat) (d' : Array α) : Prop where
  size : d'.size = d.size
  out : ∀ k, k < a ∨ b ≤ k → d'[k]! = d[k]!
  lo : ∀ k, a ≤ k → k < a + (b - m) → d'[k]! = d[k + (m - a)]!
  hi : ∀ k, a + (b - m) ≤ k → k < b → d'[k]! = d[k - (b - m)]!

/-- n places from a exchanged with n places from b. -/
def swR (a b : Nat) : Nat → Array α → Array α
  | 0, d => d
  | n + 1, d => swp (swR a b n d) (a + n) (b + n)

theorem swR_size (a b n : Nat) (d : Array α) : (swR a b n d).size = d.size := by
  induction n with
  | zero => rfl
  | succ n ih => show (swp _ _ _).size = _; rw [size_swp, ih]

theorem swR_perm (x y a b : Nat) (d : Array α) : ∀ n, x ≤ a → x ≤ b → a + n ≤ y → b + n ≤ y → y ≤ d.size → PermIn x y d (swR a b n d)
  | 0, _, _, _, _, _ => permIn_refl d x y
  | n + 1, h1, h2, h3, h4, h5 => permIn_trans _ _ _ _ _ (swR_perm x y a b d n h1 h2 (by omega) (by omega) h5)
      (swp_permIn _ x y (a + n) (b + n) (by omega) (by omega) (by omega) (by omega) (by rw [swR_size]; exact h5))

theorem swR_get (a b : Nat) (d : Array α) : ∀ n, a + n ≤ b → b + n ≤ d.size →
    (∀ k, k < n → (swR a b n d)[a + k]! = d[b + k]!) ∧ (∀ k, k < n → (swR a b n d)[b + k]! = d[a + k]!) ∧ (∀ k, (k < a ∨ a + n ≤ k) → (k < b ∨ b + n ≤ k) → (swR a b n d)[k]! = d[k]!)
  | 0, _, _ => ⟨fun k h => by omega, fun k h => by omega, fun k _ _ => rfl⟩
  | n + 1, h1, h2 => by
    obtain ⟨p, q, r⟩ := swR_get a b d n (by omega) (by omega)
    have g := swp_get (swR a b n d) (i := a + n) (j := b + n) (by rw [swR_size]; omega) (by rw [swR_size]; omega)
    refine ⟨fun k hk => ?_, fun k hk => ?_, fun k hk hk' => ?_⟩ <;> show (swp _ _ _)[_]! = _ <;> rw [g]
    · rw [if_neg (by omega)]
      by_cases e : k = n
      · subst e; rw [if_pos rfl]; exact r _ (by omega) (by omega)
      · rw [if_neg (by omega)]; exact p k (by omega)
    · by_cases e : k = n
      · subst e; rw [if_pos rfl]; exact r _ (by omega) (by omega)
      · rw [if_neg (by omega), if_neg (by omega)]; exact q k (by omega)
    · rw [if_neg (by omega), if_neg (by omega)]; exact r k (by omega) (by omega)

/-- The rotation's last step: the rows are of one length. -/
theorem Rot.last (d : Array α) (m i : Nat) (hi : i ≤ m) (hs : m + i ≤ d.size) : Rot d (m - i) m (m + i) (swR (m - i) m i d) := by
  obtain ⟨p, q, r⟩ := swR_get (m - i) m d i (by omega) hs
  refine ⟨swR_size _ _ _ _, fun k hk => r k (by omega) (by omega), fun k h1 h2 => ?_, fun k h1 h2 => ?_⟩
  · have := p (k - (m - i)) (by omega)
    rw [show m - i + (k - (m - i)) = k by omega] at this
    rw [this]; congr 1; omega
  · have := q (k - m) (by omega)
    rw [show m + (k - m) = k by omega] at this
    rw [this]; congr 1; omega

/-- The rotation's step where the left row is the longer one. -/
theorem Rot.left (d d' : Array α) (m i j : Nat) (hj : j < i) (hi : i ≤ m) (hs : m + j ≤ d.size) (h : Rot (swR (m - i) m j d) (m - (i - j)) m (m + j) d') : Rot d (m - i) m (m + j) d' := by
  obtain ⟨p, q, r⟩ := swR_get (m - i) m d j (by omega) hs
  refine ⟨h.size.trans (swR_size _ _ _ _), fun k hk => ?_, fun k h1 h2 => ?_, fun k h1 h2 => ?_⟩
  · rw [h.out k (by omega)]; exact r k (by omega) (by omega)
  · rw [h.out k (by omega)]
    have := p (k - (m - i)) (by omega)
    rw [show m - i + (k - (m - i)) = k by omega] at this
    rw [this]; congr 1; omega
  · by_cases hk : k < m - (i - j) + (m + j - m)
    · rw [h.lo k (by omega) hk]
      have := q (k + (m - (m - (i - j))) - m) (by omega)
      rw [show m + (k + (m - (m - (i - j))) - m) = k + (m - (m - (i - j))) by omega] at this
      rw [this]; congr 1; omega
    · rw [h.hi k (by omega) (by omega), r _ (by omega) (by omega)]

/-- The rotation's step where the right row is the longer one. -/
theorem Rot.right (d d' : Array α) (m i j : Nat) (hij : i < j) (hi : i ≤ m) (hs : m + j ≤ d.size) (h : Rot (swR (m - i) (m + j - i) i d) (m - i) m (m + (j - i)) d') : Rot d (m - i) m (m + j) d' := by
  obtain ⟨p, q, r⟩ := swR_get (m - i) (m + j - i) d i (by omega) (by omega)
  refine ⟨h.size.trans (swR_size _ _ _ _), fun k hk => ?_, fun k h1 h2 => ?_, fun k h1 h2 => ?_⟩
  · rw [h.out k (by omega)]; exact r k (by omega) (by omega)
  · by_cases hk : k < m - i + (m + (j - i) - m)
    · rw [h.lo k (by omega) hk, r _ (by omega) (by omega)]
    · rw [h.hi k (by omega) (by omega)]
      have := p (k - (m + (j - i) - m) - (m - i)) (by omega)
      rw [show m - i + (k - (m + (j - i) - m) - (m - i)) = k - (m + (j - i) - m) by omega] at this
      rw [this]; congr 1; omega
  · by_cases hk : k < m + (j - i)
    · rw [h.hi k (by omega) hk]
      have := p (k - (m + (j - i) - m) - (m - i)) (by omega)
      rw [show m - i + (k - (m + (j - i) - m) - (m - i)) = k - (m + (j - i) - m) by omega] at this
      rw [this]; congr 1; omega
    · rw [h.out k (by omega)]
      have := q (k - (m + j - i)) (by omega)
      rw [show m + j - i + (k - (m + j - i)) = k by omega] at this
      rw [this]; congr 1; omega

theorem Rot.none (d : Array α) (a m b : Nat) (h : a = m ∧ m ≤ b ∨ m = b ∧ a ≤ m) : Rot d a m b d := by
  rcases h with ⟨rfl, h⟩ | ⟨rfl, h⟩
  · exact ⟨rfl, fun _ _ => rfl, fun k _ _ => by congr 1; omega, fun k _ _ => by omega⟩
  · exact ⟨rfl, fun _ _ => rfl, fun k _ _ => by omega, fun k _ _ => by congr 1; omega⟩

/-! ### one element moved through a row -/
/-- 'swap k, k+1' for n places from a: d[a] goes to a + n. -/
def bup (a : Nat) : Nat → Array α → Array α
  | 0, d => d
  | n + 1, d => swp (bup a n d) (a + n) (a + n + 1)
/-- 'swap k, k-1' for n places down from m: d[m] goes to m - n. -/
def bdn (m : Nat) : Nat → Array α → Array α
  | 0, d => d
  | n + 1, d => swp (bdn m n d) (m - n) (m - n - 1)
theorem bup_size (a n : Nat) (d : Array α) : (bup a n d).size = d.size := by
  induction n with
  | zero => rfl
  | succ n ih => show (swp _ _ _).size = _; rw [size_swp, ih]
theorem bdn_size (a n : Nat) (d : Array α) : (bdn a n d).size = d.size := by
  induction n with
  | zero => rfl
  | succ n ih => show (swp _ _ _).size = _; rw [size_swp, ih]
theorem bup_perm (x y a : Nat) (d : Array α) : ∀ n, x ≤ a → a + n < y → y ≤ d.size → PermIn x y d (bup a n d)
  | 0, _, _, _ => permIn_refl d x y
  | n + 1, h1, h2, h3 => permIn_trans _ _ _ _ _ (bup_perm x y a d n h1 (by omega) h3) (swp_permIn _ x y _ _ (by omega) (by omega) (by omega) (by omega) (by rw [bup_size]; exact h3))
theorem bdn_perm (x y m : Nat) (d : Array α) : ∀ n, x + n ≤ m → m < y → y ≤ d.size → PermIn x y d (bdn m n d)
  | 0, _, _, _ => permIn_refl d x y
  | n + 1, h1, h2, h3 => permIn_trans _ _ _ _ _ (bdn_perm x y m d n (by omega) h2 h3) (swp_permIn _ x y _ _ (by omega) (by omega) (by omega) (by omega) (by rw [bdn_size]; exact h3))
theorem bup_get (a : Nat) (d : Array α) : ∀ n, a + n < d.size →
    (∀ k, a ≤ k → k < a + n → (bup a n d)[k]! = d[k + 1]!) ∧ (bup a n d)[a + n]! = d[a]! ∧ (∀ k, (k < a ∨ a + n < k) → (bup a n d)[k]! = d[k]!)
  | 0, _ => ⟨fun k h1 h2 => by omega, rfl, fun _ _ => rfl⟩
  | n + 1, h => by
    obtain ⟨p, q, r⟩ := bup_get a d n (by omega)
    have g := swp_get (bup a n d) (i := a + n) (j := a + n + 1) (by rw [bup_size]; omega) (by rw [bup_size]; omega)
    refine ⟨fun k h1 h2 => ?_, ?_, fun k hk => ?_⟩ <;> show (swp _ _ _)[_]! = _ <;> rw [g]
    · rw [if_neg (by omega)]
      by_cases e : k = a + n
      · subst e; rw [if_pos rfl]; exact r _ (by omega)
      · rw [if_neg e]; exact p k h1 (by omega)
    · rw [if_pos (by omega)]; exact q
    · rw [if_neg (by omega), if_neg (by omega)]; exact r k (by omega)
theorem bdn_get (m : Nat) (d : Array α) : ∀ n, n ≤ m → m < d.size →
    (∀ k, m - n < k → k ≤ m → (bdn m n d)[k]! = d[k - 1]!) ∧ (bdn m n d)[m - n]! = d[m]! ∧ (∀ k, (k < m - n ∨ m < k) → (bdn m n d)[k]! = d[k]!)
  | 0, _, _ => ⟨fun k h1 h2 => by omega, rfl, fun _ _ => rfl⟩
  | n + 1, h, hm => by
    obtain ⟨p, q, r⟩ := bdn_get m d n (by omega) hm
    have g := swp_get (bdn m n d) (i := m - n) (j := m - n - 1) (by rw [bdn_size]; omega) (by rw [bdn_size]; omega)
    refine ⟨fun k h1 h2 => ?_, ?_, fun k hk => ?_⟩ <;> show (swp _ _ _)[_]! = _ <;> rw [g]
    · rw [if_neg (by omega)]
      by_cases e : k = m - n
      · subst e; rw [if_pos rfl]; exact r _ (by omega)
      · rw [if_neg e]; exact p k (by omega) h2
    · rw [if_pos (by omega)]; exact q
    · rw [if_neg (by omega), if_neg (by omega)]; exact r k (by omega)

/-! ### what a merge is given, and what it gives -/
/-- two ascending rows side by side; of an element of the right and one of the left 'ltk' says what the full order says. -/
structure Mg (lt ltk : α → α → Bool) (a m b : Nat) (d : Array α) : Prop where
  l : SortedIn lt a m d
  r : SortedIn lt m b d
  c : ∀ i j, a ≤ i → i < m → m ≤ j → j < b → ltk d[j]! d[i]! = lt d[j]! d[i]!
/-- a merge's answer -/
structure Mgd (lt : α → α → Bool) (a b : Nat) (d d' : Array α) : Prop where
  p : PermIn a b d d'
  s : SortedIn lt a b d'
variable {lt ltk : α → α → Bool}

/-- m - a = 1: the place i before which d[a] belongs was found in [m, b]. -/
theorem Mg.one (hS : SWO lt) {a b i : Nat} {d : Array α} (h : Mg lt ltk a (a + 1) b d) (h1 : a + 1 ≤ i) (h2 : i ≤ b) (hb : b ≤ d.size) (hlo : i = a + 1 ∨ ltk d[i - 1]! d[a]! = true) (hhi : i = b ∨ ltk d[i]! d[a]! = false) :
    Mgd lt a b d (bup a (i - 1 - a) d) := by
  obtain ⟨p, q, r⟩ := bup_get a d (i - 1 - a) (by omega)
  have low : ∀ k, a + 1 ≤ k → k < i → lt d[k]! d[a]! = true := fun k k1 k2 => by
    rcases hlo with e | e
    · omega
    · rw [h.c a (i - 1) (Nat.le_refl _) (by omega) (by omega) (by omega)] at e
      cases hx : lt d[k]! d[a]! with
      | true => rfl
      | false =>
        by_cases ek : k = i - 1
        · rw [ek] at hx; rw [hx] at e; exact e
        · have := hS.ntrans _ _ _ (h.r k (i - 1) k1 (by omega) (by omega)) hx
          rw [this] at e; exact e
  have high : ∀ k, i ≤ k → k < b → lt d[k]! d[a]! = false := fun k k1 k2 => by
    rcases hhi with e | e
    · omega
    · rw [h.c a i (Nat.le_refl _) (by omega) (by omega) (by omega)] at e
      by_cases ek : k = i
      · rw [ek]; exact e
      · exact hS.ntrans _ _ _ (h.r i k (by omega) (by omega) k2) e
  refine ⟨bup_perm a b a d _ (Nat.le_refl _) (by omega) hb, fun x y hx hxy hy => ?_⟩
  have e : a + (i - 1 - a) = i - 1 := by omega
  rw [e] at p q r
  by_cases x1 : x < i - 1
  · rw [p x hx x1]
    by_cases y1 : y < i - 1
    · rw [p y (by omega) y1]; exact h.r _ _ (by omega) (by omega) (by omega)
    · by_cases y2 : y = i - 1
      · subst y2; rw [q]; exact hS.asymmA (low _ (by omega) (by omega))
      · rw [r y (by omega)]; exact h.r _ _ (by omega) (by omega) hy
  · rw [r y (by omega)]
    by_cases x2 : x = i - 1
    · subst x2; rw [q]; exact high y (by omega) hy
    · rw [r x (by omega)]; exact h.r _ _ (by omega) hxy hy

/-- b - m = 1: the place i before which d[m] belongs was found in [a, m]. -/
theorem Mg.last (hS : SWO lt) {a m i : Nat} {d : Array α} (h : Mg lt ltk a m (m + 1) d) (h1 : a ≤ i) (h2 : i ≤ m) (hb : m < d.size) (hlo : i = a ∨ ltk d[m]! d[i - 1]! = false) (hhi : i = m ∨ ltk d[m]! d[i]! = true) :
    Mgd lt a (m + 1) d (bdn m (m - i) d) := by
  obtain ⟨p, q, r⟩ := bdn_get m d (m - i) (by omega) hb
  have low : ∀ k, a ≤ k → k < i → lt d[m]! d[k]! = false := fun k k1 k2 => by
    rcases hlo with e | e
    · omega
    · rw [h.c (i - 1) m (by omega) (by omega) (by omega) (by omega)] at e
      by_cases ek : k = i - 1
      · rw [ek]; exact e
      · exact hS.ntrans _ _ _ e (h.l k (i - 1) k1 (by omega) (by omega))
  have high : ∀ k, i ≤ k → k < m → lt d[m]! d[k]! = true := fun k k1 k2 => by
    rcases hhi with e | e
    · omega
    · rw [h.c i m (by omega) (by omega) (by omega) (by omega)] at e
      cases hx : lt d[m]! d[k]! with
      | true => rfl
      | false =>
        by_cases ek : k = i
        · rw [ek] at hx; rw [hx] at e; exact e
        · have := hS.ntrans _ _ _ hx (h.l i k (by omega) (by omega) k2)
          rw [this] at e; exact e
  have e : m - (m - i) = i := by omega
  rw [e] at p q r
  refine ⟨bdn_perm a (m + 1) m d _ (by omega) (by omega) hb, fun x y hx hxy hy => ?_⟩
  by_cases y1 : i < y
  · rw [p y y1 (by omega)]
    by_cases x1 : i < x
    · rw [p x x1 (by omega)]; exact h.l _ _ (by omega) (by omega) (by omega)
    · by_cases x2 : x = i
      · subst x2; rw [q]; exact hS.asymmA (high _ (by omega) (by omega))
      · rw [r x (by omega)]; exact h.l _ _ hx (by omega) (by omega)
  · rw [r x (by omega)]
    by_cases y2 : y = i
    · subst y2; rw [q]; exact low x hx (by omega)
    · rw [r y (by omega)]; exact h.l _ _ hx hxy (by omega)

/-- WHAT THE GREAT STEP KNOWS, the split s having been found: mid = s + (e - m). -/
structure Split (lt : α → α → Bool) (a m b s e : Nat) (d : Array α) : Prop where
  as : a ≤ s
  sm : s ≤ m
  me : m ≤ e
  eb : e ≤ b
  h1 : ∀ i j, a ≤ i → i < s → e ≤ j → j < b → lt d[j]! d[i]! = false
  h2 : ∀ i j, s ≤ i → i < m → m ≤ j → j < e → lt d[j]! d[i]! = true

theorem Mg.split (hS : SWO lt) {a m b s e : Nat} {d : Array α} (h : Mg lt ltk a m b d) (as : a ≤ s) (sm : s ≤ m) (me : m ≤ e) (eb : e ≤ b)
    (hlo : s = a ∨ e = b ∨ ltk d[e]! d[s - 1]! = false) (hhi : s = m ∨ e = m ∨ ltk d[e - 1]! d[s]! = true) : Split lt a m b s e d := by
  refine ⟨as, sm, me, eb, fun i j i1 i2 j1 j2 => ?_, fun i j i1 i2 j1 j2 => ?_⟩
  · rcases hlo with x | x | x
    · omega
    · omega
    · rw [h.c (s - 1) e (by omega) (by omega) (by omega) (by omega)] at x
      have x1 : lt d[j]! d[s - 1]! = false := by
        by_cases ej : j = e
        · rw [ej]; exact x
        · exact hS.ntrans _ _ _ (h.r e j (by omega) (by omega) j2) x
      by_cases ei : i = s - 1
      · rw [ei]; exact x1
      · exact hS.ntrans _ _ _ x1 (h.l i (s - 1) i1 (by omega) (by omega))
  · rcases hhi with x | x | x
    · omega
    · omega
    · rw [h.c s (e - 1) (by omega) (by omega) (by omega) (by omega)] at x
      cases hx : lt d[j]! d[i]! with
      | true => rfl
      | false =>
        have x1 : lt d[e - 1]! d[i]! = false := by
          by_cases ej : j = e - 1
          · rw [← ej]; exact hx
          · exact hS.ntrans _ _ _ (h.r j (e - 1) j1 (by omega) (by omega)) hx
        have x2 : lt d[e - 1]! d[s]! = false := by
          by_cases ei : i = s
          · rw [← ei]; exact x1
          · exact hS.ntrans _ _ _ x1 (h.l s i as (by omega) i2)
        rw [x2] at x; exact x

/-- behind the rotation: the left half is to be merged -/
theorem Split.left {a m b s e mid : Nat} {d d1 : Array α} (h : Mg lt ltk a m b d) (S : Split lt a m b s e d) (hm : mid = s + (e - m)) (R : Rot d s m e d1) : Mg lt ltk a s mid d1 := by
  have := S.as; have := S.sm; have := S.me; have := S.eb
  have o : ∀ k, k < s → d1[k]! = d[k]! := fun k hk => R.out k (by omega)
  have o' : ∀ k, s ≤ k → k < mid → d1[k]! = d[k + (m - s)]! := fun k k1 k2 => R.lo k k1 (by omega)
  refine ⟨fun i j i1 ij j2 => ?_, fun i j i1 ij j2 => ?_, fun i j i1 i2 j1 j2 => ?_⟩
  · rw [o i (by omega), o j (by omega)]; exact h.l i j i1 ij (by omega)
  · rw [o' i i1 (by omega), o' j (by omega) j2]; exact h.r _ _ (by omega) (by omega) (by omega)
  · rw [o i i2, o' j j1 j2]; exact h.c _ _ i1 (by omega) (by omega) (by omega)
/-- .. and the right half, whatever has been done to the left one -/
theorem Split.right {a m b s e mid : Nat} {d d1 d2 : Array α} (h : Mg lt ltk a m b d) (S : Split lt a m b s e d) (hm : mid = s + (e - m)) (R : Rot d s m e d1) (P : PermIn a mid d1 d2) : Mg lt ltk mid e b d2 := by
  have := S.as; have := S.sm; have := S.me; have := S.eb
  have o : ∀ k, e ≤ k → d2[k]! = d[k]! := fun k hk => by rw [P.2.1 k (by omega)]; exact R.out k (by omega)
  have o' : ∀ k, mid ≤ k → k < e → d2[k]! = d[k - (e - m)]! := fun k k1 k2 => by rw [P.2.1 k (by omega)]; exact R.hi k (by omega) k2
  refine ⟨fun i j i1 ij j2 => ?_, fun i j i1 ij j2 => ?_, fun i j i1 i2 j1 j2 => ?_⟩
  · rw [o' i i1 (by omega), o' j (by omega) j2]; exact h.l _ _ (by omega) (by omega) (by omega)
  · rw [o i i1, o j (by omega)]; exact h.r _ _ (by omega) (by omega) (by omega)
  · rw [o' i i1 i2, o j j1]; exact h.c _ _ (by omega) (by omega) (by omega) (by omega)

/-- where nothing is to be done on the left -/
theorem Split.left_none {a m b s e mid : Nat} {d d1 : Array α} (h : Mg lt ltk a m b d) (S : Split lt a m b s e d) (hm : mid = s + (e - m)) (R : Rot d s m e d1) (hn : ¬ (a < s ∧ s < mid)) : Mgd lt a mid d1 d1 := by
  refine ⟨permIn_refl _ _ _, ?_⟩
  have M := Split.left h S hm R
  have := S.as; have := S.sm; have := S.me; have := S.eb
  by_cases e1 : a = s
  · subst e1; exact M.r
  · have : s = mid := by omega
    rw [← this]; exact M.l
theorem Split.right_none {a m b s e mid : Nat} {d d1 d2 : Array α} (h : Mg lt ltk a m b d) (S : Split lt a m b s e d) (hm : mid = s + (e - m)) (R : Rot d s m e d1) (P : PermIn a mid d1 d2) (hn : ¬ (mid < e ∧ e < b)) : Mgd lt mid b d2 d2 := by
  refine ⟨permIn_refl _ _ _, ?_⟩
  have M := Split.right h S hm R P
  have := S.as; have := S.sm; have := S.me; have := S.eb
  by_cases e1 : mid = e
  · rw [e1]; rw [e1] at M; exact M.r
  · have : e = b := by omega
    rw [← this]; exact M.l

/-- THE WHOLE -/
theorem Split.whole (hS : SWO lt) {a m b s e mid : Nat} {d d1 d2 d3 : Array α} (h : Mg lt ltk a m b d) (S : Split lt a m b s e d) (hm : mid = s + (e - m)) (hb : b ≤ d.size) (R : Rot d s m e d1) (P : PermIn a b d d1)
    (L : Mgd lt a mid d1 d2) (Q : Mgd lt mid b d2 d3) : Mgd lt a b d d3 := by
  have as := S.as; have sm := S.sm; have me := S.me; have eb := S.eb
  have z1 : d1.size = d.size := P.1
  have z2 : d2.size = d.size := L.p.1.trans z1
  have b1 : ∀ i j, a ≤ i → i < mid → mid ≤ j → j < b → lt d1[j]! d1[i]! = false := fun i j i1 i2 j1 j2 => by
    by_cases is : i < s
    · rw [R.out i (by omega)]
      by_cases je : j < e
      · rw [R.hi j (by omega) je]; exact h.l _ _ i1 (by omega) (by omega)
      · rw [R.out j (by omega)]; exact S.h1 i j i1 is (by omega) j2
    · rw [R.lo i (by omega) (by omega)]
      by_cases je : j < e
      · rw [R.hi j (by omega) je]; exact hS.asymmA (S.h2 _ _ (by omega) (by omega) (by omega) (by omega))
      · rw [R.out j (by omega)]; exact h.r _ _ (by omega) (by omega) j2
  have b2 : ∀ j, mid ≤ j → j < b → ∀ i, a ≤ i → i < mid → lt d2[j]! d2[i]! = false := fun j j1 j2 =>
    permIn_all d1 d2 a mid (fun x => lt d2[j]! x = false) (by omega) L.p (fun i i1 i2 => by rw [L.p.2.1 j (by omega)]; exact b1 i j i1 i2 j1 j2)
  have b3 : ∀ i, a ≤ i → i < mid → ∀ j, mid ≤ j → j < b → lt d3[j]! d3[i]! = false := fun i i1 i2 =>
    permIn_all d2 d3 mid b (fun x => lt x d3[i]! = false) (by omega) Q.p (fun j j1 j2 => by rw [Q.p.2.1 i (by omega)]; exact b2 j j1 j2 i i1 i2)
  refine ⟨permIn_trans _ _ _ _ _ P (permIn_trans _ _ _ _ _ (permIn_mono _ _ a mid a b (Nat.le_refl _) (by omega) (by omega) L.p) (permIn_mono _ _ mid b a b (by omega) (Nat.le_refl _) (by omega) Q.p)), fun i j i1 ij j2 => ?_⟩
  by_cases jm : j < mid
  · rw [Q.p.2.1 i (by omega), Q.p.2.1 j (by omega)]; exact L.s i j i1 ij jm
  · by_cases im : i < mid
    · exact b3 i i1 im j (by omega) j2
    · exact Q.s i j (by omega) ij j2

/-! ### the whole sort: blocks -/
section
variable (key : α → Int) (idx : α → Nat)
/-- the full order: by key; equal keys by what they were counted by -/
def full {β : Type} (key : β → Int) (idx : β → Nat) (x y : β) : Bool := decide (key x < key y ∨ key x = key y ∧ idx x < idx y)
theorem full_swo {β : Type} (key : β → Int) (idx : β → Nat) : SWO (full key idx) where
  irrefl x := by simp [full]
  trans x y z h1 h2 := by simp only [full, decide_eq_true_eq] at *; omega
  ntrans x y z h1 h2 := by simp only [full, decide_eq_false_iff_not] at *; omega
/-- a block that holds what was counted from lo to hi, ascending -/
structure Gd (lo hi : Nat) (d : Array α) : Prop where
  m : ∀ k, lo ≤ k → k < hi → lo ≤ idx d[k]! ∧ idx d[k]! < hi
  s : SortedIn (full key idx) lo hi d
variable {key idx}
theorem Gd.keep {lo hi a b : Nat} {d d' : Array α} (h : Gd key idx lo hi d) (P : PermIn a b d d') (o : hi ≤ a ∨ b ≤ lo) : Gd key idx lo hi d' := by
  have e : ∀ k, lo ≤ k → k < hi → d'[k]! = d[k]! := fun k k1 k2 => P.2.1 k (by omega)
  exact ⟨fun k k1 k2 => by rw [e k k1 k2]; exact h.m k k1 k2, fun i j i1 ij j2 => by rw [e i i1 (by omega), e j (by omega) j2]; exact h.s i j i1 ij j2⟩
theorem Gd.mg (ltk : α → α → Bool) (hk : ∀ x y, ltk x y = decide (key x < key y)) {a m b : Nat} {d : Array α} (h : Gd key idx a m d) (g : Gd key idx m b d) : Mg (full key idx) ltk a m b d :=
  ⟨h.s, g.s, fun i j i1 i2 j1 j2 => by
    have := h.m i i1 i2; have := g.m j j1 j2
    rw [hk]; unfold full; congr 1; apply propext; omega⟩
theorem Gd.mgd {a m b : Nat} {d d' : Array α} (h : Gd key idx a m d) (g : Gd key idx m b d) (am : a ≤ m) (mb : m ≤ b) (hb : b ≤ d.size) (M : Mgd (full key idx) a b d d') : Gd key idx a b d' :=
  ⟨permIn_all d d' a b (fun x => a ≤ idx x ∧ idx x < b) hb M.p (fun k k1 k2 => by
    by_cases km : k < m
    · have := h.m k k1 km; omega
    · have := g.m k (by omega) k2; omega), M.s⟩
theorem insInner_full (ltk : α → α → Bool) (hk : ∀ x y, ltk x y = decide (key x < key y)) (a : Nat) : ∀ (j : Nat) (d : Array α), j < d.size → (∀ k, a ≤ k → k < j → idx d[k]! < idx d[j]!) → insInner ltk a j d = insInner (full key idx) a j d
  | 0, d, _, _ => rfl
  | j + 1, d, hs, h => by
    unfold insInner
    by_cases ha : j + 1 > a
    · have hj := h j (by omega) (by omega)
      have e : ltk d[j + 1]! d[j]! = full key idx d[j + 1]! d[j]! := by rw [hk]; unfold full; congr 1; apply propext; omega
      rw [e]
      split
      · have g := swp_get d (i := j + 1) (j := j) hs (by omega)
        refine insInner_full ltk hk a j _ (by rw [size_swp]; omega) (fun k k1 k2 => ?_)
        rw [g, g, if_neg (by omega), if_neg (by omega), if_pos rfl]
        exact h k k1 (by omega)
      · rfl
    · rw [if_neg (by simp [ha]), if_neg (by simp [ha])]
theorem insInner_perm (lt : α → α → Bool) (a b : Nat) : ∀ (j : Nat) (d : Array α), j < b → b ≤ d.size → PermIn a b d (insInner lt a j d)
  | 0, d, _, _ => permIn_refl d a b
  | j + 1, d, hj, hb => by
    unfold insInner
    split
    · rename_i hc
      simp only [Bool.and_eq_true, decide_eq_true_eq] at hc
      exact permIn_trans _ _ _ _ _ (swp_permIn d a b (j + 1) j (by omega) hj (by omega) (by omega) hb) (insInner_perm lt a b j _ (by omega) (by rw [size_swp]; exact hb))
    · exact permIn_refl d a b
theorem insOuter_full (ltk : α → α → Bool) (hk : ∀ x y, ltk x y = decide (key x < key y)) (a b : Nat) : ∀ (n i : Nat) (d : Array α), b - i = n → a ≤ i → b ≤ d.size → (∀ k l, a ≤ k → k < l → i ≤ l → l < b → idx d[k]! < idx d[l]!) → insOuter ltk a b i d = insOuter (full key idx) a b i d
  | 0, i, d, hn, _, _, _ => by rw [insOuter, if_neg (by omega)]; conv => rhs; rw [insOuter, if_neg (by omega)]
  | n + 1, i, d, hn, hai, hb, h => by
    rw [insOuter, if_pos (by omega)]; conv => rhs; rw [insOuter, if_pos (by omega)]
    rw [insInner_full ltk hk a i d (by omega) (fun k k1 k2 => h k i k1 k2 (Nat.le_refl _) (by omega))]
    have hP : PermIn a (i + 1) d (insInner (full key idx) a i d) := insInner_perm _ a (i + 1) i d (by omega) (by omega)
    refine insOuter_full ltk hk a b n (i + 1) _ (by omega) (by omega) (by rw [hP.1]; exact hb) (fun k l k1 kl l1 l2 => ?_)
    rw [hP.2.1 l (by omega)]
    by_cases ki : i + 1 ≤ k
    · rw [hP.2.1 k (by omega)]; exact h k l k1 kl (by omega) l2
    · exact permIn_all d _ a (i + 1) (fun x => idx x < idx d[l]!) (by omega) hP (fun k' k1' k2' => h k' l k1' (by omega) (by omega) l2) k k1 (by omega)
/-- a block sorted by insertion -/
theorem Gd.ins (ltk : α → α → Bool) (hk : ∀ x y, ltk x y = decide (key x < key y)) {a b : Nat} {d : Array α} (ab : a ≤ b) (hb : b ≤ d.size) (h : ∀ k, a ≤ k → k < b → idx d[k]! = k) :
    Gd key idx a b (insertionSort ltk d a b) ∧ PermIn a b d (insertionSort ltk d a b) := by
  have e : insertionSort ltk d a b = insertionSort (full key idx) d a b := insOuter_full ltk hk a b _ (a + 1) d rfl (by omega) hb (fun k l k1 kl l1 l2 => by rw [h k k1 (by omega), h l (by omega) l2]; exact kl)
  obtain ⟨p, s⟩ := insertionSort_holds (full_swo key idx) d a b ab hb
  rw [e]
  exact ⟨⟨permIn_all d _ a b (fun x => a ≤ idx x ∧ idx x < b) hb p (fun k k1 k2 => by rw [h k k1 k2]; exact ⟨k1, k2⟩), s⟩, p⟩

/-- all blocks of length bs are good -/
def Bl (key : α → Int) (idx : α → Nat) (n bs : Nat) (d : Array α) : Prop := ∀ q, q * bs < n → Gd key idx (q * bs) (min (q * bs + bs) n) d
/-- phase 1: blocks of 20; a: how far -/
def Ph1 (key : α → Int) (idx : α → Nat) (n a : Nat) (d : Array α) : Prop := ∃ p, a = p * 20 ∧ (∀ q, q < p → Gd key idx (q * 20) (q * 20 + 20) d) ∧ (∀ k, a ≤ k → k < n → idx d[k]! = k)
/-- phase 2: blocks of bs are merged to blocks of 2 bs; a: how far -/
def Ph2 (key : α → Int) (idx : α → Nat) (n bs a : Nat) (d : Array α) : Prop := ∃ p, a = p * (2 * bs) ∧ (∀ q, q < p → Gd key idx (q * (2 * bs)) (q * (2 * bs) + 2 * bs) d) ∧ (∀ q, 2 * p ≤ q → q * bs < n → Gd key idx (q * bs) (min (q * bs + bs) n) d)

theorem Ph1.start {n : Nat} {d : Array α} (h : ∀ k, k < n → idx d[k]! = k) : Ph1 key idx n 0 d := ⟨0, by omega, fun q hq => by omega, fun k _ hk => h k hk⟩
theorem Ph1.step (ltk : α → α → Bool) (hk : ∀ x y, ltk x y = decide (key x < key y)) {n a : Nat} {d : Array α} (h : Ph1 key idx n a d) (ha : a + 20 ≤ n) (hn : n ≤ d.size) :
    Ph1 key idx n (a + 20) (insertionSort ltk d a (a + 20)) ∧ PermIn a (a + 20) d (insertionSort ltk d a (a + 20)) := by
  obtain ⟨p, rfl, h1, h2⟩ := h
  obtain ⟨g, P⟩ := Gd.ins (key := key) (idx := idx) ltk hk (a := p * 20) (b := p * 20 + 20) (d := d) (by omega) (by omega) (fun k k1 k2 => h2 k k1 (by omega))
  refine ⟨⟨p + 1, by omega, fun q hq => ?_, fun k k1 k2 => ?_⟩, P⟩
  · by_cases e : q = p
    · subst e; exact g
    · exact (h1 q (by omega)).keep P (Or.inl (by omega))
  · rw [P.2.1 k (by omega)]; exact h2 k (by omega) k2
theorem Ph1.done (ltk : α → α → Bool) (hk : ∀ x y, ltk x y = decide (key x < key y)) {n a : Nat} {d : Array α} (h : Ph1 key idx n a d) (ha : a ≤ n) (ha2 : n < a + 20) (hn : n ≤ d.size) :
    Bl key idx n 20 (insertionSort ltk d a n) ∧ PermIn a n d (insertionSort ltk d a n) := by
  obtain ⟨p, rfl, h1, h2⟩ := h
  obtain ⟨g, P⟩ := Gd.ins (key := key) (idx := idx) ltk hk (a := p * 20) (b := n) (d := d) (by omega) (by omega) (fun k k1 k2 => h2 k k1 k2)
  refine ⟨fun q hq => ?_, P⟩
  by_cases e : q = p
  · subst e; rw [show min (q * 20 + 20) n = n by omega]; exact g
  · rw [show min (q * 20 + 20) n = q * 20 + 20 by omega]; exact (h1 q (by omega)).keep P (Or.inl (by omega))
theorem Ph2.start {n bs : Nat} {d : Array α} (h : Bl key idx n bs d) : Ph2 key idx n bs 0 d := ⟨0, by omega, fun q hq => by omega, fun q _ hq => h q hq⟩
theorem two_mul_bs (p bs : Nat) : 2 * p * bs = p * (2 * bs) := by rw [Nat.mul_comm 2 p, Nat.mul_assoc]
/-- the two blocks that are next -/
theorem Ph2.two {n bs a : Nat} {d : Array α} (h : Ph2 key idx n bs a d) (h1 : a + bs < n) : Gd key idx a (a + bs) d ∧ Gd key idx (a + bs) (min (a + 2 * bs) n) d := by
  obtain ⟨p, rfl, _, h2⟩ := h
  have e := two_mul_bs p bs
  have e2 : (2 * p + 1) * bs = p * (2 * bs) + bs := by rw [Nat.add_mul, e]; omega
  have g1 := h2 (2 * p) (Nat.le_refl _) (by rw [e]; omega)
  have g2 := h2 (2 * p + 1) (by omega) (by rw [e2]; omega)
  rw [e] at g1; rw [e2] at g2
  rw [show min (p * (2 * bs) + bs) n = p * (2 * bs) + bs by omega] at g1
  rw [show min (p * (2 * bs) + bs + bs) n = min (p * (2 * bs) + 2 * bs) n by omega] at g2
  exact ⟨g1, g2⟩
theorem Ph2.step {n bs a : Nat} {d d' : Array α} (h : Ph2 key idx n bs a d) (h0 : 0 < bs) (h1 : a + 2 * bs ≤ n) (hn : n ≤ d.size) (M : Mgd (full key idx) a (a + 2 * bs) d d') : Ph2 key idx n bs (a + 2 * bs) d' := by
  obtain ⟨g1, g2⟩ := h.two (by omega)
  rw [show min (a + 2 * bs) n = a + 2 * bs by omega] at g2
  have g := g1.mgd g2 (by omega) (by omega) (by omega) M
  obtain ⟨p, rfl, h1, h2⟩ := h
  have e2 : (p + 1) * (2 * bs) = p * (2 * bs) + 2 * bs := by rw [Nat.add_mul]; omega
  refine ⟨p + 1, e2.symm, fun q hq => ?_, fun q hq hq2 => ?_⟩
  · by_cases e : q = p
    · subst e; exact g
    · have := Nat.mul_le_mul_right (2 * bs) (show q + 1 ≤ p by omega)
      rw [Nat.add_mul] at this
      exact (h1 q (by omega)).keep M.p (Or.inl (by omega))
  · have := Nat.mul_le_mul_right bs (show 2 * (p + 1) ≤ q by omega)
    rw [two_mul_bs, e2] at this
    exact (h2 q (by omega) hq2).keep M.p (Or.inr (by omega))
theorem Ph2.done {n bs a : Nat} {d d' : Array α} (h : Ph2 key idx n bs a d) (_h0 : 0 < bs) (an : a ≤ n) (h1 : n < a + 2 * bs) (hn : n ≤ d.size) (M : a + bs < n ∧ Mgd (full key idx) a n d d' ∨ n ≤ a + bs ∧ d' = d) : Bl key idx n (2 * bs) d' := by
  have g : a < n → Gd key idx a n d' := fun an => by
    rcases M with ⟨m1, M⟩ | ⟨m1, rfl⟩
    · obtain ⟨g1, g2⟩ := h.two m1
      rw [show min (a + 2 * bs) n = n by omega] at g2
      exact g1.mgd g2 (by omega) (by omega) (by omega) M
    · obtain ⟨p, rfl, h1, h2⟩ := h
      have g1 := h2 (2 * p) (Nat.le_refl _) (by rw [two_mul_bs]; omega)
      rw [two_mul_bs, show min (p * (2 * bs) + bs) n = n by omega] at g1
      exact g1
  have P : PermIn a n d d' := by
    rcases M with ⟨_, M⟩ | ⟨_, rfl⟩
    · exact M.p
    · exact permIn_refl _ _ _
  obtain ⟨p, rfl, h1, h2⟩ := h
  intro q hq
  by_cases e : q = p
  · subst e; rw [show min (q * (2 * bs) + 2 * bs) n = n by omega]; exact g hq
  · by_cases lt : q < p
    · have := Nat.mul_le_mul_right (2 * bs) (show q + 1 ≤ p by omega)
      rw [Nat.add_mul] at this
      rw [show min (q * (2 * bs) + 2 * bs) n = q * (2 * bs) + 2 * bs by omega]
      exact (h1 q lt).keep P (Or.inl (by omega))
    · have := Nat.mul_le_mul_right (2 * bs) (show p + 1 ≤ q by omega)
      rw [Nat.add_mul] at this
      omega
theorem Bl.end {n bs : Nat} {d : Array α} (h : Bl key idx n bs d) (hb : n ≤ bs) : SortedIn (full key idx) 0 n d := by
  intro i j i1 ij j2
  have g := (h 0 (by omega)).s
  rw [show (0 * bs) = 0 by omega, show min (0 + bs) n = n by omega] at g
  exact g i j i1 ij j2
end
end Go.Proofs.Ytoegghjhepkfkaa.Srt
