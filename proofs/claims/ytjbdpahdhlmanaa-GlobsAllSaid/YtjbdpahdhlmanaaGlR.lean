/- Plain facts on the document's way to fit a pattern: place by place; and on the shortest and the longest cut. -/
import Derived.Test.YtjbdpahdhlmanaaGlW
namespace Go.Proofs.Ytjbdpahdhlmanaa.Globs
set_option linter.unusedVariables false

theorem mtB_append_hd (hd : Nat → Bool) (p q : List Itm) : ∀ (r : List UInt8) (i : Nat), mtB hd (p ++ q) r i = true ↔ ∃ k, k ≤ r.length ∧ mtB hd p (r.take k) i = true ∧ mtB hd q (r.drop k) (i + k) = true := by
  induction p with
  | nil =>
    intro r i
    constructor
    · intro h; exact ⟨0, Nat.zero_le _, by simp [mtB], h⟩
    · rintro ⟨k, hk, h1, h2⟩
      have h3 : (r.take k).isEmpty = true := h1
      have h4 : r.take k = [] := by simpa using h3
      have h5 : min k r.length = 0 := by rw [← List.length_take, h4]; rfl
      obtain rfl : k = 0 := by omega
      exact h2
  | cons x p ih =>
    intro r i
    show (if x.kind = 3 then starL hd (mtB hd (p ++ q)) else oneL hd x (mtB hd (p ++ q)) : List UInt8 → Nat → Bool) r i = true ↔ ∃ k, k ≤ r.length ∧ (if x.kind = 3 then starL hd (mtB hd p) else oneL hd x (mtB hd p) : List UInt8 → Nat → Bool) (r.take k) i = true ∧ _
    by_cases h3 : x.kind = 3
    · rw [if_pos h3, if_pos h3, starL_iff]
      constructor
      · rintro ⟨j, hj, ha, h⟩
        obtain ⟨k, hk, h1, h2⟩ := (ih _ _).1 h
        rw [List.length_drop] at hk
        refine ⟨j + k, by omega, (starL_iff _ _ _ _).2 ⟨j, by rw [List.length_take]; omega, ha, ?_⟩, ?_⟩
        · rw [List.drop_take, show j + k - j = k by omega]; exact h1
        · rw [List.drop_drop, Nat.add_assoc] at h2; exact h2
      · rintro ⟨K, hK, h1, h2⟩
        obtain ⟨j, hj, ha, h⟩ := (starL_iff _ _ _ _).1 h1
        rw [List.length_take] at hj
        refine ⟨j, by omega, ha, (ih _ _).2 ⟨K - j, by rw [List.length_drop]; omega, ?_, ?_⟩⟩
        · rw [List.drop_take] at h; exact h
        · rw [List.drop_drop, show j + (K - j) = K by omega, show i + j + (K - j) = i + K by omega]; exact h2
    · rw [if_neg h3, if_neg h3]
      cases r with
      | nil =>
        constructor
        · intro h; cases h
        · rintro ⟨k, _, h, _⟩; rw [List.take_nil] at h; cases h
      | cons c r =>
        constructor
        · intro h
          simp only [oneL, Bool.and_eq_true] at h
          obtain ⟨k, hk, g1, g2⟩ := (ih r (i + 1)).1 h.2
          refine ⟨k + 1, by simpa using hk, ?_, by rw [show i + (k + 1) = i + 1 + k by omega]; exact g2⟩
          simp only [List.take_succ_cons, oneL, Bool.and_eq_true]
          exact ⟨h.1, g1⟩
        · rintro ⟨K, hK, h1, h2⟩
          cases K with
          | zero => cases h1
          | succ K =>
            simp only [List.take_succ_cons, oneL, Bool.and_eq_true] at h1 ⊢
            exact ⟨h1.1, (ih r (i + 1)).2 ⟨K, by simpa using hK, h1.2, by rw [show i + 1 + K = i + (K + 1) by omega]; exact h2⟩⟩

/-- The items fit the first i bytes. -/
def R (hd : Nat → Bool) (p : List Itm) (s : List UInt8) (i : Nat) : Bool := mtB hd p (s.take i) 0
theorem R_nil (hd : Nat → Bool) (s : List UInt8) (i : Nat) (hi : i ≤ s.length) : R hd [] s i = (i == 0) := by
  show (s.take i).isEmpty = _
  cases i with
  | zero => rfl
  | succ i => cases s with
    | nil => simp at hi
    | cons c s => rfl
theorem mtB_one (hd : Nat → Bool) (x : Itm) (h3 : x.kind ≠ 3) (r : List UInt8) (i : Nat) : mtB hd [x] r i = true ↔ ∃ c, r = [c] ∧ fitsI x c = true ∧ may hd x i = true := by
  show (if x.kind = 3 then starL hd (mtB hd []) else oneL hd x (mtB hd []) : List UInt8 → Nat → Bool) r i = true ↔ _
  rw [if_neg h3]
  cases r with
  | nil => simp [oneL]
  | cons c r =>
    simp only [oneL, mtB, Bool.and_eq_true, List.isEmpty_iff]
    constructor
    · rintro ⟨⟨h1, h2⟩, rfl⟩; exact ⟨c, rfl, h1, h2⟩
    · rintro ⟨d, e, h1, h2⟩
      simp only [List.cons.injEq] at e
      obtain ⟨rfl, rfl⟩ := e
      exact ⟨⟨h1, h2⟩, rfl⟩
theorem mtB_star (hd : Nat → Bool) (x : Itm) (h3 : x.kind = 3) (r : List UInt8) (i : Nat) : mtB hd [x] r i = true ↔ ∀ t, t < r.length → hd (i + t) = false := by
  show (if x.kind = 3 then starL hd (mtB hd []) else oneL hd x (mtB hd []) : List UInt8 → Nat → Bool) r i = true ↔ _
  rw [if_pos h3, starL_iff]
  constructor
  · rintro ⟨j, hj, ha, h⟩
    have h' : (r.drop j).isEmpty = true := h
    have : (r.drop j).length = 0 := by rw [List.isEmpty_iff] at h'; rw [h']; rfl
    rw [List.length_drop] at this
    intro t ht; exact ha t (by omega)
  · intro h; exact ⟨r.length, Nat.le_refl _, h, by show (r.drop r.length).isEmpty = true; simp⟩
/-- What is carried to place i from the one ahead. -/
def carry (hd : Nat → Bool) (p : List Itm) (x : Itm) (s : List UInt8) : Nat → Bool
  | 0 => false
  | i + 1 => if x.kind = 3 then R hd (p ++ [x]) s i && !hd i else R hd p s i && (fitsI x (s.getD i 0) && may hd x i)
theorem carry_succ (hd : Nat → Bool) (p : List Itm) (x : Itm) (s : List UInt8) (i : Nat) : carry hd p x s (i + 1) = if x.kind = 3 then R hd (p ++ [x]) s i && !hd i else R hd p s i && (fitsI x (s.getD i 0) && may hd x i) := rfl
theorem R_snoc_one (hd : Nat → Bool) (p : List Itm) (x : Itm) (s : List UInt8) (i : Nat) (hi : i ≤ s.length) (h3 : x.kind ≠ 3) : R hd (p ++ [x]) s i = carry hd p x s i := by
  unfold R
  cases i with
  | zero =>
    show _ = false
    rw [← Bool.not_eq_true, mtB_append_hd]
    rintro ⟨k, hk, _, h⟩
    obtain ⟨c, e, _⟩ := (mtB_one hd x h3 _ _).1 h
    simp at e
  | succ i =>
    rw [Bool.eq_iff_iff, mtB_append_hd]
    rw [carry_succ, if_neg h3, Bool.and_eq_true, Bool.and_eq_true]
    have hsi : s.getD i 0 = s[i] := by rw [List.getD_eq_getElem?_getD, List.getElem?_eq_getElem (by omega)]; rfl
    have hd1 : (s.take (i + 1)).drop i = [s[i]] := by
      rw [List.drop_take, show i + 1 - i = 1 by omega, List.drop_eq_getElem_cons (by omega)]; rfl
    constructor
    · rintro ⟨k, hk, h1, h2⟩
      obtain ⟨c, e, g1, g2⟩ := (mtB_one hd x h3 _ _).1 h2
      have hl := congrArg List.length e
      rw [List.length_drop] at hl
      rw [List.length_take] at hl hk
      obtain rfl : k = i := by simp at hl; omega
      rw [hd1] at e
      simp only [List.cons.injEq, and_true] at e
      subst e
      rw [List.take_take, show min k (k + 1) = k by omega] at h1
      exact ⟨h1, by rw [hsi]; exact g1, by simpa using g2⟩
    · rintro ⟨h1, g1, g2⟩
      refine ⟨i, by rw [List.length_take]; omega, ?_, ?_⟩
      · rw [List.take_take, show min i (i + 1) = i by omega]; exact h1
      · exact (mtB_one hd x h3 _ _).2 ⟨s[i], hd1, by rw [← hsi]; exact g1, by simpa using g2⟩
theorem R_snoc_star (hd : Nat → Bool) (p : List Itm) (x : Itm) (s : List UInt8) (i : Nat) (hi : i ≤ s.length) (h3 : x.kind = 3) : R hd (p ++ [x]) s i = (R hd p s i || carry hd p x s i) := by
  have key : ∀ j, j ≤ s.length → (R hd (p ++ [x]) s j = true ↔ ∃ k, k ≤ j ∧ R hd p s k = true ∧ ∀ t, k ≤ t → t < j → hd t = false) := by
    intro j hj
    unfold R
    rw [mtB_append_hd]
    constructor
    · rintro ⟨k, hk, h1, h2⟩
      rw [List.length_take] at hk
      rw [List.take_take, show min k j = k by omega] at h1
      refine ⟨k, by omega, h1, fun t t1 t2 => ?_⟩
      have := (mtB_star hd x h3 _ _).1 h2 (t - k) (by rw [List.length_drop, List.length_take]; omega)
      rwa [show 0 + k + (t - k) = t by omega] at this
    · rintro ⟨k, hk, h1, h2⟩
      refine ⟨k, by rw [List.length_take]; omega, by rw [List.take_take, show min k j = k by omega]; exact h1, (mtB_star hd x h3 _ _).2 fun t ht => ?_⟩
      rw [List.length_drop, List.length_take] at ht
      exact h2 _ (by omega) (by omega)
  rw [Bool.eq_iff_iff, Bool.or_eq_true, key i hi]
  cases i with
  | zero =>
    constructor
    · rintro ⟨k, hk, h, _⟩; obtain rfl : k = 0 := by omega
      exact .inl h
    · rintro (h | h)
      · exact ⟨0, Nat.le_refl _, h, fun t t1 t2 => by omega⟩
      · cases h
  | succ i =>
    rw [carry_succ, if_pos h3, Bool.and_eq_true, key i (by omega), Bool.not_eq_true']
    constructor
    · rintro ⟨k, hk, h1, h2⟩
      by_cases e : k = i + 1
      · subst e; exact .inl h1
      · exact .inr ⟨⟨k, by omega, h1, fun t t1 t2 => h2 t t1 (by omega)⟩, h2 i (by omega) (by omega)⟩
    · rintro (h | ⟨⟨k, hk, h1, h2⟩, h3'⟩)
      · exact ⟨i + 1, Nat.le_refl _, h, fun t t1 t2 => by omega⟩
      · refine ⟨k, by omega, h1, fun t t1 t2 => ?_⟩
        by_cases e : t = i
        · subst e; exact h3'
        · exact h2 t t1 (by omega)
/-- The row of an inner loop: i places are done. -/
def rowI (hd : Nat → Bool) (p : List Itm) (x : Itm) (s : List UInt8) (i : Nat) (j : Nat) : Bool := if j < i then R hd (p ++ [x]) s j else if j = i then carry hd p x s i else false

/-- The shortest or the longest cut among the first ones. -/
def atL (f : Nat → Bool) (lg : Bool) : Nat → Int
  | 0 => -1
  | n + 1 => if (lg || decide (atL f lg n < 0)) && f n then (n : Int) else atL f lg n
theorem atL_succ (f : Nat → Bool) (lg : Bool) (n : Nat) : atL f lg (n + 1) = if (lg || decide (atL f lg n < 0)) && f n then (n : Int) else atL f lg n := rfl
theorem atL_bd (f : Nat → Bool) (lg : Bool) (n : Nat) : -1 ≤ atL f lg n ∧ atL f lg n < n := by
  induction n with
  | zero => simp [atL]
  | succ n ih => rw [atL_succ]; split <;> omega
theorem atL_stop {f : Nat → Bool} {n m : Nat} (h : 0 ≤ atL f false n) (hm : n ≤ m) : atL f false m = atL f false n := by
  induction m with
  | zero => obtain rfl : n = 0 := by omega
            rfl
  | succ m ih =>
    by_cases e : n = m + 1
    · rw [e]
    · have := ih (by omega)
      rw [atL_succ, this, if_neg (by simp; intro h2; omega)]
end Go.Proofs.Ytjbdpahdhlmanaa.Globs
