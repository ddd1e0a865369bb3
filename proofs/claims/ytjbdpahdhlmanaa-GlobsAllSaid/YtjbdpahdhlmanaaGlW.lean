/- Plain facts on patterns for the laws: quoted texts; what Path fits Match fits; strokes; two patterns one behind the other. -/
import Derived.Test.YtjbdpahdhlmanaaGlQ
namespace Go.Proofs.Ytjbdpahdhlmanaa.Globs
set_option linter.unusedVariables false

/-- Bytes as items. -/
def litI (l : List UInt8) : List Itm := l.map fun b => ⟨1, b, false, []⟩
theorem compF_quoted (path : Bool) (l : List UInt8) : ∀ (f : Nat) (out : List Itm), l.length ≤ f → compF path f (l.map fun b => (⟨b, true⟩ : Ch)) out = out ++ litI l := by
  induction l with
  | nil => intro f out _; cases f <;> simp [compF, litI]
  | cons b l ih =>
    intro f out hf
    cases f with
    | zero => simp at hf
    | succ f =>
      have h1 : itemL ((b :: l).map fun b => (⟨b, true⟩ : Ch)) path = (⟨1, b, false, []⟩, 1) := by unfold itemL; simp
      unfold compF
      rw [if_neg (by simp), h1]
      show compF path f ((l.map fun b => (⟨b, true⟩ : Ch))) (addI out ⟨1, b, false, []⟩) = _
      rw [ih f _ (by simpa using hf)]
      unfold addI litI
      rw [if_neg (by simp)]
      simp
theorem mtB_lits (hd : Nat → Bool) (l m : List UInt8) (i : Nat) : mtB hd (litI l) m i = decide (l = m) := by
  induction l generalizing m i with
  | nil => cases m <;> simp [litI, mtB]
  | cons b l ih =>
    show (if (1 : Int) = 3 then _ else oneL hd ⟨1, b, false, []⟩ (mtB hd (litI l)) : List UInt8 → Nat → Bool) m i = _
    rw [if_neg (by decide)]
    cases m with
    | nil => simp [oneL]
    | cons c m =>
      simp only [oneL, ih, fitsI, may, if_true, List.cons.injEq]
      by_cases h1 : b = c <;> by_cases h2 : l = m <;> simp [h1, h2]

theorem starL_mono {hd hd' : Nat → Bool} (hh : ∀ i, hd' i = true → hd i = true) {f g : List UInt8 → Nat → Bool} (hf : ∀ r i, f r i = true → g r i = true) (r : List UInt8) (i : Nat) (h : starL hd f r i = true) : starL hd' g r i = true := by
  induction r generalizing i with
  | nil => exact hf _ _ h
  | cons c r ih =>
    simp only [starL, Bool.or_eq_true, Bool.and_eq_true, Bool.not_eq_true'] at h ⊢
    rcases h with h | ⟨h1, h2⟩
    · exact .inl (hf _ _ h)
    · refine .inr ⟨?_, ih _ h2⟩
      cases e : hd' i with
      | false => rfl
      | true => rw [hh i e] at h1; cases h1
theorem mtB_mono {hd hd' : Nat → Bool} (hh : ∀ i, hd' i = true → hd i = true) (p : List Itm) (r : List UInt8) (i : Nat) (h : mtB hd p r i = true) : mtB hd' p r i = true := by
  induction p generalizing r i with
  | nil => exact h
  | cons x p ih =>
    show (if x.kind = 3 then starL hd' (mtB hd' p) else oneL hd' x (mtB hd' p) : List UInt8 → Nat → Bool) r i = true
    have h' : (if x.kind = 3 then starL hd (mtB hd p) else oneL hd x (mtB hd p) : List UInt8 → Nat → Bool) r i = true := h
    by_cases h3 : x.kind = 3
    · rw [if_pos h3] at h' ⊢; exact starL_mono hh ih r i h'
    · rw [if_neg h3] at h' ⊢
      cases r with
      | nil => exact h'
      | cons c r =>
        simp only [oneL, Bool.and_eq_true] at h' ⊢
        refine ⟨⟨h'.1.1, ?_⟩, ih _ _ h'.2⟩
        have := h'.1.2
        unfold may at this ⊢
        simp only [Bool.or_eq_true, Bool.not_eq_true'] at this ⊢
        rcases this with h | h
        · exact .inl h
        · right
          cases e : hd' i with
          | false => rfl
          | true => rw [hh i e] at h; cases h
theorem path_match (p : List Itm) (s : List UInt8) (h : pathB p s = true) : matchB p s = true := mtB_mono (fun i h => by cases h) p s 0 h
theorem path_same (p : List Itm) (s : List UInt8) (h : ∀ i, hardP s i = false) : pathB p s = matchB p s := by
  unfold pathB matchB
  rw [show hardP s = noHard from funext h]
/-- A hard place is fitted by One alone. -/
theorem starL_hard {hd : Nat → Bool} {f : List UInt8 → Nat → Bool} {r : List UInt8} {i t : Nat} (ht : t < r.length) (hh : hd (i + t) = true) (h : starL hd f r i = true) : ∃ j, j ≤ t ∧ f (r.drop j) (i + j) = true := by
  obtain ⟨j, hj, ha, h1⟩ := (starL_iff hd f r i).1 h
  rcases Nat.lt_or_ge t j with hl | hl
  · rw [ha t hl] at hh; cases hh
  · exact ⟨j, hl, h1⟩
theorem mtB_hard {hd : Nat → Bool} (p : List Itm) : ∀ (r : List UInt8) (i t : Nat) (ht : t < r.length), hd (i + t) = true → mtB hd p r i = true → ∃ x ∈ p, x.kind = 1 ∧ x.b = r[t] := by
  induction p with
  | nil => intro r i t ht _ h; cases r with
    | nil => simp at ht
    | cons c r => simp [mtB] at h
  | cons x p ih =>
    intro r i t ht hh h
    have h' : (if x.kind = 3 then starL hd (mtB hd p) else oneL hd x (mtB hd p) : List UInt8 → Nat → Bool) r i = true := h
    by_cases h3 : x.kind = 3
    · rw [if_pos h3] at h'
      obtain ⟨j, hj, h1⟩ := starL_hard ht hh h'
      obtain ⟨y, hy, g1, g2⟩ := ih (r.drop j) (i + j) (t - j) (by rw [List.length_drop]; omega) (by rw [show i + j + (t - j) = i + t by omega]; exact hh) h1
      refine ⟨y, List.mem_cons_of_mem _ hy, g1, g2.trans ?_⟩
      rw [List.getElem_drop]; congr 1; omega
    · rw [if_neg h3] at h'
      cases r with
      | nil => simp at ht
      | cons c r =>
        simp only [oneL, Bool.and_eq_true] at h'
        cases t with
        | zero =>
          have h1 := may_hard h'.1.2 hh
          exact ⟨x, List.mem_cons_self, h1, fits_one h'.1.1 h1⟩
        | succ t =>
          obtain ⟨y, hy, g1, g2⟩ := ih r (i + 1) t (by simpa using ht) (by rw [show i + 1 + t = i + (t + 1) by omega]; exact hh) h'.2
          exact ⟨y, List.mem_cons_of_mem _ hy, g1, g2⟩
/-- What the law counts: a / , or a . at the beginning. -/
def hdL (l : List UInt8) : Nat → Bool
  | 0 => false
  | i + 1 => hdL l i || (l.getD i 0 == 47 || (l.getD i 0 == 46 && i == 0))
def stL (p : List Itm) : Nat → Bool
  | 0 => false
  | i + 1 => stL p i || ((p.getD i default).kind == 1 && (p.getD i default).b == 47)
theorem hdL_no {l : List UInt8} {n : Nat} (h : hdL l n = false) : ∀ i, i < n → l.getD i 0 ≠ 47 ∧ (i = 0 → l.getD i 0 ≠ 46) := by
  induction n with
  | zero => intro i hi; omega
  | succ n ih =>
    intro i hi
    simp only [hdL, Bool.or_eq_false_iff] at h
    obtain ⟨h1, h2, h3⟩ := h
    by_cases e : i = n
    · subst e
      refine ⟨by simpa using h2, fun e => ?_⟩
      subst e
      simpa using h3
    · exact ih h1 i (by omega)
theorem hard_of_hdL {s : List UInt8} (h : hdL s s.length = false) (i : Nat) : hardP s i = false := by
  unfold hardP
  have key : ∀ j : Nat, s[j]? ≠ some (47 : UInt8) := fun j e => by
    have hj := (List.getElem?_eq_some_iff.1 e).1
    have := (hdL_no h j hj).1
    rw [List.getD_eq_getElem?_getD, e] at this
    exact this rfl
  have k1 : (s[i]? == some 47) = false := by rw [beq_eq_false_iff_ne]; exact key i
  have k2 : (s[i - 1]? == some 47) = false := by rw [beq_eq_false_iff_ne]; exact key (i - 1)
  rw [k1, k2]
  by_cases h0 : i = 0
  · subst h0
    have : (s[0]? == some 46) = false := by
      rw [beq_eq_false_iff_ne]; intro e
      have hj := (List.getElem?_eq_some_iff.1 e).1
      have := (hdL_no h 0 hj).2 rfl
      rw [List.getD_eq_getElem?_getD, e] at this
      exact this rfl
    rw [this]; rfl
  · have : (i == 0) = false := by rw [beq_eq_false_iff_ne]; exact h0
    rw [this]; simp
theorem stL_yes {p : List Itm} {n i : Nat} (hi : i < n) (h1 : (p.getD i default).kind = 1) (h2 : (p.getD i default).b = 47) : stL p n = true := by
  induction n with
  | zero => omega
  | succ n ih =>
    simp only [stL, Bool.or_eq_true]
    by_cases e : i = n
    · subst e; right; rw [h1, h2]; rfl
    · exact .inl (ih (by omega))
theorem no_stroke {p : List Itm} {s : List UInt8} {i : Nat} (h : pathB p s = true) (hi : s[i]? = some 47) : stL p p.length = true := by
  have hl := (List.getElem?_eq_some_iff.1 hi).1
  have hh : hardP s (0 + i) = true := by unfold hardP; rw [Nat.zero_add, hi]; rfl
  obtain ⟨x, hx, h1, h2⟩ := mtB_hard p s 0 i hl hh h
  obtain ⟨j, hj, rfl⟩ := List.mem_iff_getElem.1 hx
  have e : p.getD j default = p[j] := by rw [List.getD_eq_getElem?_getD, List.getElem?_eq_getElem hj]; rfl
  rw [List.getElem?_eq_getElem hl, Option.some.injEq] at hi
  exact stL_yes hj (by rw [e]; exact h1) (by rw [e, h2, hi])
/-- Of two patterns, one behind the other. -/
theorem mtB_soft (q : List Itm) : ∀ (r : List UInt8) (i j : Nat), mtB noHard q r i = mtB noHard q r j := by
  induction q with
  | nil => intro r i j; rfl
  | cons x q ih =>
    intro r i j
    show (if x.kind = 3 then starL noHard (mtB noHard q) else oneL noHard x (mtB noHard q) : List UInt8 → Nat → Bool) r i = (if x.kind = 3 then starL noHard (mtB noHard q) else oneL noHard x (mtB noHard q) : List UInt8 → Nat → Bool) r j
    by_cases h3 : x.kind = 3
    · rw [if_pos h3]
      rw [Bool.eq_iff_iff, starL_iff, starL_iff]
      constructor
      · rintro ⟨k, h1, _, h2⟩; exact ⟨k, h1, fun _ _ => rfl, by rw [ih _ _ (i + k)]; exact h2⟩
      · rintro ⟨k, h1, _, h2⟩; exact ⟨k, h1, fun _ _ => rfl, by rw [ih _ _ (j + k)]; exact h2⟩
    · rw [if_neg h3]
      cases r with
      | nil => rfl
      | cons c r => simp only [oneL]; rw [ih r (i + 1) (j + 1)]; rfl
theorem mtB_append (p q : List Itm) : ∀ (r : List UInt8), mtB noHard (p ++ q) r 0 = true ↔ ∃ k, k ≤ r.length ∧ mtB noHard p (r.take k) 0 = true ∧ mtB noHard q (r.drop k) 0 = true := by
  induction p with
  | nil =>
    intro r
    constructor
    · intro h; exact ⟨0, Nat.zero_le _, by simp [mtB], h⟩
    · rintro ⟨k, hk, h1, h2⟩
      have h3 : (r.take k).isEmpty = true := h1
      have h4 : r.take k = [] := by simpa using h3
      have : r = r.drop k := (List.take_append_drop k r).symm.trans (by rw [h4]; rfl)
      rw [← this] at h2; exact h2
  | cons x p ih =>
    intro r
    show (if x.kind = 3 then starL noHard (mtB noHard (p ++ q)) else oneL noHard x (mtB noHard (p ++ q)) : List UInt8 → Nat → Bool) r 0 = true ↔ ∃ k, k ≤ r.length ∧ (if x.kind = 3 then starL noHard (mtB noHard p) else oneL noHard x (mtB noHard p) : List UInt8 → Nat → Bool) (r.take k) 0 = true ∧ _
    by_cases h3 : x.kind = 3
    · rw [if_pos h3, if_pos h3, starL_iff]
      constructor
      · rintro ⟨j, hj, _, h⟩
        rw [mtB_soft _ _ _ 0] at h
        obtain ⟨k, hk, h1, h2⟩ := (ih _).1 h
        rw [List.length_drop] at hk
        refine ⟨j + k, by omega, (starL_iff _ _ _ _).2 ⟨j, by rw [List.length_take]; omega, fun _ _ => rfl, ?_⟩, ?_⟩
        · rw [mtB_soft _ _ _ 0, List.drop_take, show j + k - j = k by omega]; exact h1
        · rw [List.drop_drop] at h2; exact h2
      · rintro ⟨K, hK, h1, h2⟩
        obtain ⟨j, hj, _, h⟩ := (starL_iff _ _ _ _).1 h1
        rw [List.length_take] at hj
        refine ⟨j, by omega, fun _ _ => rfl, ?_⟩
        rw [mtB_soft _ _ _ 0]
        refine (ih _).2 ⟨K - j, by rw [List.length_drop]; omega, ?_, ?_⟩
        · rw [mtB_soft _ _ _ 0, List.drop_take] at h; exact h
        · rw [List.drop_drop, show j + (K - j) = K by omega]; exact h2
    · rw [if_neg h3, if_neg h3]
      cases r with
      | nil =>
        constructor
        · intro h; cases h
        · rintro ⟨k, _, h, _⟩; rw [List.take_nil] at h; cases h
      | cons c r =>
        constructor
        · intro h
          simp only [oneL, Bool.and_eq_true] at h
          have h2 := h.2
          rw [mtB_soft _ _ _ 0] at h2
          obtain ⟨k, hk, g1, g2⟩ := (ih r).1 h2
          refine ⟨k + 1, by simpa using hk, ?_, g2⟩
          simp only [List.take_succ_cons, oneL, Bool.and_eq_true]
          exact ⟨h.1, by rw [mtB_soft _ _ _ 0]; exact g1⟩
        · rintro ⟨K, hK, h1, h2⟩
          cases K with
          | zero => cases h1
          | succ K =>
            simp only [List.take_succ_cons, oneL, Bool.and_eq_true] at h1 ⊢
            refine ⟨h1.1, ?_⟩
            rw [mtB_soft _ _ _ 0]
            refine (ih r).2 ⟨K, by simpa using hK, ?_, h2⟩
            exact (mtB_soft p _ 0 1).trans h1.2
/-- The law's own: has one of the first cuts been fitted? -/
def cutL (p q : List Itm) (s : List UInt8) : Nat → Bool
  | 0 => false
  | n + 1 => cutL p q s n || (matchB p (s.take n) && matchB q (s.drop n))
theorem cutL_iff (p q : List Itm) (s : List UInt8) (n : Nat) : cutL p q s n = true ↔ ∃ k, k < n ∧ matchB p (s.take k) = true ∧ matchB q (s.drop k) = true := by
  induction n with
  | zero => simp [cutL]
  | succ n ih =>
    simp only [cutL, Bool.or_eq_true, Bool.and_eq_true, ih]
    constructor
    · rintro (⟨k, h, g⟩ | h)
      · exact ⟨k, by omega, g⟩
      · exact ⟨n, by omega, h⟩
    · rintro ⟨k, h, g⟩
      by_cases e : k = n
      · subst e; exact .inr g
      · exact .inl ⟨k, by omega, g⟩
theorem join_eq (p q : List Itm) (s : List UInt8) : matchB (p ++ q) s = cutL p q s (s.length + 1) := by
  rw [Bool.eq_iff_iff, cutL_iff]
  refine (mtB_append p q s).trans ?_
  constructor
  · rintro ⟨k, h, g⟩; exact ⟨k, by omega, g⟩
  · rintro ⟨k, h, g⟩; exact ⟨k, by omega, g⟩
end Go.Proofs.Ytjbdpahdhlmanaa.Globs
