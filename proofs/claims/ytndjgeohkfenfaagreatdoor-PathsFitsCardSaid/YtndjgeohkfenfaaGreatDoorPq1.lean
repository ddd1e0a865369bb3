/- HandlesPlays, part 1 of 26: the texts GlP GlQ, joined by a program. -/
import Derived.Below
namespace Go.Proofs.YtndjgeohkfenfaaGreatDoor.Globs
set_option linter.unusedVariables false

/-- An item of a pattern. -/
structure Itm where
  kind : Int
  b : UInt8
  neg : Bool
  rs : List (UInt8 × UInt8)
instance : Inhabited Itm := ⟨⟨0, 0, false, []⟩⟩
/-- Is a byte in ranges? -/
def inR (rs : List (UInt8 × UInt8)) (c : UInt8) : Bool := rs.any fun r => decide (r.1 ≤ c) && decide (c ≤ r.2)
/-- Does an item that is no star fit a byte? -/
def fitsI (x : Itm) (c : UInt8) : Bool := if x.kind = 1 then x.b == c else if x.kind = 2 then true else if x.kind = 4 then inR x.rs c != x.neg else false
/-- May an item stand at a place? -/
def may (hd : Nat → Bool) (x : Itm) (i : Nat) : Bool := x.kind == 1 || !hd i

def starL (hd : Nat → Bool) (f : List UInt8 → Nat → Bool) : List UInt8 → Nat → Bool
  | [], i => f [] i
  | c :: r, i => f (c :: r) i || (!hd i && starL hd f r (i + 1))
def oneL (hd : Nat → Bool) (x : Itm) (f : List UInt8 → Nat → Bool) : List UInt8 → Nat → Bool
  | [], _ => false
  | c :: r, i => fitsI x c && may hd x i && f r (i + 1)
/-- Do items fit what is left of a text, from a place on? -/
def mtB (hd : Nat → Bool) : List Itm → List UInt8 → Nat → Bool
  | [] => fun r _ => r.isEmpty
  | x :: p => if x.kind = 3 then starL hd (mtB hd p) else oneL hd x (mtB hd p)
/-- The places of a path that One alone fits. -/
def hardP (s : List UInt8) (i : Nat) : Bool := s[i]? == some 47 || (s[i]? == some 46 && (i == 0 || s[i - 1]? == some 47))
def noHard (_ : Nat) : Bool := false

theorem starL_iff (hd : Nat → Bool) (f : List UInt8 → Nat → Bool) (r : List UInt8) (i : Nat) :
    starL hd f r i = true ↔ ∃ j, j ≤ r.length ∧ (∀ t, t < j → hd (i + t) = false) ∧ f (r.drop j) (i + j) = true := by
  induction r generalizing i with
  | nil =>
    simp only [starL, List.length_nil, List.drop_nil]
    constructor
    · intro h; exact ⟨0, Nat.le_refl _, fun t ht => absurd ht (Nat.not_lt_zero t), h⟩
    · rintro ⟨j, hj, _, h⟩; obtain rfl : j = 0 := by omega
      exact h
  | cons c r ih =>
    simp only [starL, Bool.or_eq_true, Bool.and_eq_true, Bool.not_eq_true', ih, List.length_cons]
    constructor
    · rintro (h | ⟨h0, j, hj, ha, h⟩)
      · exact ⟨0, by omega, fun t ht => absurd ht (Nat.not_lt_zero t), h⟩
      · refine ⟨j + 1, by omega, fun t ht => ?_, ?_⟩
        · cases t with
          | zero => exact h0
          | succ t => rw [← ha t (by omega)]; congr 1; omega
        · rw [List.drop_succ_cons, show i + (j + 1) = i + 1 + j by omega]; exact h
    · rintro ⟨j, hj, ha, h⟩
      cases j with
      | zero => exact .inl h
      | succ j =>
        refine .inr ⟨ha 0 (by omega), j, by omega, fun t ht => ?_, ?_⟩
        · rw [← ha (t + 1) (by omega)]; congr 1; omega
        · rw [List.drop_succ_cons, show i + (j + 1) = i + 1 + j by omega] at h; exact h

section
variable (hd : Nat → Bool) (p : List Itm) (s : List UInt8)
/-- The items from k on fit the text from i on. -/
def M (k i : Nat) : Bool := mtB hd (p.drop k) (s.drop i) i

theorem M_end (k i : Nat) (hk : p.length ≤ k) (hi : i ≤ s.length) : M hd p s k i = decide (i = s.length) := by
  unfold M
  rw [List.drop_eq_nil_of_le hk]
  show (s.drop i).isEmpty = _
  by_cases h : i = s.length
  · subst h; simp
  · rw [decide_eq_false h, List.drop_eq_getElem_cons (by omega)]; rfl
theorem M_one (k i : Nat) (hk : k < p.length) (h3 : p[k].kind ≠ 3) (hi : i < s.length) : M hd p s k i = (fitsI p[k] s[i] && may hd p[k] i && M hd p s (k + 1) (i + 1)) := by
  unfold M
  rw [List.drop_eq_getElem_cons hk, List.drop_eq_getElem_cons hi]
  show (if p[k].kind = 3 then _ else _ : List UInt8 → Nat → Bool) _ _ = _
  rw [if_neg h3]; rfl
theorem M_one_end (k i : Nat) (hk : k < p.length) (h3 : p[k].kind ≠ 3) (hi : s.length ≤ i) : M hd p s k i = false := by
  unfold M
  rw [List.drop_eq_getElem_cons hk, List.drop_eq_nil_of_le hi]
  show (if p[k].kind = 3 then _ else _ : List UInt8 → Nat → Bool) _ _ = _
  rw [if_neg h3]; rfl
theorem M_star (k i : Nat) (hk : k < p.length) (h3 : p[k].kind = 3) (hi : i ≤ s.length) :
    M hd p s k i = true ↔ ∃ j, i ≤ j ∧ j ≤ s.length ∧ (∀ t, i ≤ t → t < j → hd t = false) ∧ M hd p s (k + 1) j = true := by
  unfold M
  rw [List.drop_eq_getElem_cons hk]
  show (if p[k].kind = 3 then _ else _ : List UInt8 → Nat → Bool) _ _ = true ↔ _
  rw [if_pos h3, starL_iff]
  constructor
  · rintro ⟨j, hj, ha, h⟩
    rw [List.length_drop] at hj
    refine ⟨i + j, by omega, by omega, fun t h1 h2 => ?_, ?_⟩
    · have := ha (t - i) (by omega); rwa [show i + (t - i) = t by omega] at this
    · rwa [List.drop_drop] at h
  · rintro ⟨j, h0, hj, ha, h⟩
    refine ⟨j - i, by rw [List.length_drop]; omega, fun t ht => ha _ (by omega) (by omega), ?_⟩
    rw [List.drop_drop, show i + (j - i) = j by omega]; exact h
theorem M_star_step (k i : Nat) (hk : k < p.length) (h3 : p[k].kind = 3) (hi : i < s.length) : M hd p s k i = (M hd p s (k + 1) i || (!hd i && M hd p s k (i + 1))) := by
  unfold M
  rw [List.drop_eq_getElem_cons hk, List.drop_eq_getElem_cons hi]
  show (if p[k].kind = 3 then _ else _ : List UInt8 → Nat → Bool) _ _ = (_ || (_ && (if p[k].kind = 3 then _ else _ : List UInt8 → Nat → Bool) _ _))
  rw [if_pos h3]; rfl

/-- Items from a to b (no star among them) fit bytes from i on. -/
def Mid (a n i : Nat) : Prop := ∀ u, u < n → ∃ (h1 : a + u < p.length) (h2 : i + u < s.length), p[a + u].kind ≠ 3 ∧ fitsI p[a + u] s[i + u] = true ∧ may hd p[a + u] (i + u) = true
variable {hd p s}
theorem Mid.snoc {a n i : Nat} (h : Mid hd p s a n i) (h1 : a + n < p.length) (h2 : i + n < s.length) (h3 : p[a + n].kind ≠ 3) (h4 : fitsI p[a + n] s[i + n] = true) (h5 : may hd p[a + n] (i + n) = true) : Mid hd p s a (n + 1) i := by
  intro u hu
  by_cases e : u = n
  · subst e; exact ⟨h1, h2, h3, h4, h5⟩
  · exact h u (by omega)
theorem Mid.M {a n i : Nat} (h : Mid hd p s a n i) : M hd p s a i = M hd p s (a + n) (i + n) := by
  induction n with
  | zero => rfl
  | succ n ih =>
    obtain ⟨h1, h2, h3, h4, h5⟩ := h n (by omega)
    rw [ih fun u hu => h u (by omega), M_one hd p s _ _ h1 h3 h2, h4, h5]
    rfl
/-- What fits behind items that fit one byte each. -/
theorem M_mid {a n j : Nat} (hn : ∀ u, u < n → ∃ h : a + u < p.length, p[a + u].kind ≠ 3) (hj : j ≤ s.length) (h : M hd p s a j = true) : j + n ≤ s.length ∧ M hd p s (a + n) (j + n) = true ∧ Mid hd p s a n j := by
  induction n with
  | zero => exact ⟨hj, h, fun u hu => absurd hu (Nat.not_lt_zero u)⟩
  | succ n ih =>
    obtain ⟨h1, h2, h3⟩ := ih fun u hu => hn u (by omega)
    obtain ⟨g1, g2⟩ := hn n (by omega)
    rcases Nat.lt_or_ge (j + n) s.length with hl | hl
    · rw [M_one hd p s _ _ g1 g2 hl, Bool.and_eq_true, Bool.and_eq_true] at h2
      exact ⟨by omega, h2.2, h3.snoc g1 hl g2 h2.1.1 h2.1.2⟩
    · rw [M_one_end hd p s _ _ g1 g2 hl] at h2; cases h2

/-- Where a place that is hard can't be told from one that is not hard by the byte ahead and the byte itself. -/
def Fair (hd : Nat → Bool) (s : List UInt8) : Prop := hd = noHard ∨ hd = hardP s

theorem may_hard {x : Itm} {i : Nat} {hd : Nat → Bool} (h : may hd x i = true) (h2 : hd i = true) : x.kind = 1 := by
  unfold may at h; rw [h2] at h; simpa using h
theorem fits_one {x : Itm} {c : UInt8} (h : fitsI x c = true) (h1 : x.kind = 1) : x.b = c := by
  unfold fitsI at h; rw [if_pos h1] at h; simpa using h

/-- Items that fit bytes from f on and from j on, with no hard place between: then no place up to the end of the second fit is hard. -/
theorem no_hard {a n f j : Nat} (hf : Fair hd s) (h1 : Mid hd p s a n f) (h2 : Mid hd p s a n j) (hfj : f < j) (ha : ∀ t, f ≤ t → t < j → hd t = false) : ∀ t, f ≤ t → t < j + n → hd t = false := by
  rcases hf with rfl | rfl
  · intro t _ _; rfl
  · -- no / up to there
    have slash : ∀ t, f ≤ t → t < j + n → s[t]? ≠ some 47 := by
      intro t
      induction t using Nat.strongRecOn with
      | _ t ih =>
        intro h3 h4 h5
        have hh : hardP s t = true := by unfold hardP; rw [h5]; rfl
        rcases Nat.lt_or_ge t j with h6 | h6
        · rw [ha t h3 h6] at hh; cases hh
        · obtain ⟨g1, g2, g3, g4, g5⟩ := h2 (t - j) (by omega)
          obtain ⟨k1, k2, k3, k4, k5⟩ := h1 (t - j) (by omega)
          have e : j + (t - j) = t := by omega
          have hst : s[j + (t - j)] = 47 := by
            have : s[j + (t - j)]? = some 47 := by rw [e]; exact h5
            rw [List.getElem?_eq_getElem g2] at this; exact Option.some.inj this
          have k1' := may_hard g5 (by rw [e]; exact hh)
          have hb := fits_one g4 k1'
          have hb2 := fits_one k4 k1'
          have : s[f + (t - j)]? = some 47 := by rw [List.getElem?_eq_getElem k2, ← hb2, hb, hst]
          exact ih (f + (t - j)) (by omega) (by omega) (by omega) this
    intro t h3 h4
    rcases Nat.lt_or_ge t j with h6 | h6
    · exact ha t h3 h6
    · unfold hardP
      have g := slash t h3 h4
      have g2 := slash (t - 1) (by omega) (by omega)
      have e0 : (t == 0) = false := by rw [beq_eq_false_iff_ne]; omega
      rw [e0]
      have x1 : (s[t]? == some 47) = false := by rw [beq_eq_false_iff_ne]; exact g
      have x2 : (s[t - 1]? == some 47) = false := by rw [beq_eq_false_iff_ne]; exact g2
      rw [x1, x2]; simp

/-- A star is met behind a star: what the first one could still take the second one can. -/
theorem star_again {a f n : Nat} (hf : Fair hd s) (ht : a < p.length) (h3 : p[a].kind = 3) (hmid : Mid hd p s (a + 1) n f) (hfn : f + n ≤ s.length) (hk : a + 1 + n < p.length) (hk3 : p[a + 1 + n].kind = 3) :
    M hd p s a f = M hd p s (a + 1 + n) (f + n) := by
  rw [Bool.eq_iff_iff]
  constructor
  · intro h
    obtain ⟨j, j1, j2, j3, j4⟩ := (M_star hd p s _ _ ht h3 (by omega)).1 h
    rcases Nat.eq_or_lt_of_le j1 with e | e
    · subst e; rw [← hmid.M]; exact j4
    · obtain ⟨q1, q2, q3⟩ := M_mid (n := n) (fun u hu => by obtain ⟨x, _, y, _⟩ := hmid u hu; exact ⟨x, y⟩) j2 j4
      have hno := no_hard hf hmid q3 e j3
      obtain ⟨j', l1, l2, l3, l4⟩ := (M_star hd p s _ _ hk hk3 q1).1 q2
      refine (M_star hd p s _ _ hk hk3 hfn).2 ⟨j', by omega, l2, fun t t1 t2 => ?_, l4⟩
      rcases Nat.lt_or_ge t (j + n) with t3 | t3
      · exact hno t (by omega) t3
      · exact l3 t t3 t2
  · intro h
    refine (M_star hd p s _ _ ht h3 (by omega)).2 ⟨f, Nat.le_refl _, by omega, fun t t1 t2 => by omega, ?_⟩
    rw [hmid.M]; exact h
/-- At the text's end nothing is left for the star to take. -/
theorem star_end {a f n : Nat} (ht : a < p.length) (h3 : p[a].kind = 3) (hmid : Mid hd p s (a + 1) n f) (hfn : f + n = s.length) : M hd p s a f = M hd p s (a + 1 + n) (f + n) := by
  rw [Bool.eq_iff_iff]
  constructor
  · intro h
    obtain ⟨j, j1, j2, j3, j4⟩ := (M_star hd p s _ _ ht h3 (by omega)).1 h
    obtain ⟨q1, q2, q3⟩ := M_mid (n := n) (fun u hu => by obtain ⟨x, _, y, _⟩ := hmid u hu; exact ⟨x, y⟩) j2 j4
    obtain rfl : j = f := by omega
    exact q2
  · intro h
    refine (M_star hd p s _ _ ht h3 (by omega)).2 ⟨f, Nat.le_refl _, by omega, fun t t1 t2 => by omega, ?_⟩
    rw [hmid.M]; exact h
end

/-- At the head of a round of 'matches'. -/
inductive MInv (hd : Nat → Bool) (p : List Itm) (s : List UInt8) : Nat → Nat → Int → Nat → Prop
  | none (i k : Nat) : i ≤ s.length → k ≤ p.length → M hd p s 0 0 = M hd p s k i → MInv hd p s i k (-1) 0
  | star (a f n : Nat) (ht : a < p.length) : p[a].kind = 3 → Mid hd p s (a + 1) n f → f + n ≤ s.length → a + 1 + n ≤ p.length → M hd p s 0 0 = M hd p s a f → MInv hd p s (f + n) (a + 1 + n) a f

section
variable {hd : Nat → Bool} {p : List Itm} {s : List UInt8} {i k frm : Nat} {st : Int}
theorem MInv.start : MInv hd p s 0 0 (-1) 0 := .none 0 0 (by omega) (by omega) rfl
theorem MInv.bounds (h : MInv hd p s i k st frm) : i ≤ s.length ∧ k ≤ p.length ∧ -1 ≤ st ∧ st < p.length ∧ frm ≤ i ∧ (0 ≤ st → st < k) := by
  cases h with
  | none _ _ h1 h2 h3 => exact ⟨h1, h2, by omega, by omega, by omega, by omega⟩
  | star a f n ht h3 hm h1 h2 h4 => exact ⟨h1, h2, by omega, by omega, by omega, by omega⟩
/-- A star is met. -/
theorem MInv.onStar (hf : Fair hd s) (h : MInv hd p s i k st frm) (hk : k < p.length) (h3 : p[k].kind = 3) : MInv hd p s i (k + 1) k i := by
  cases h with
  | none _ _ h1 h2 h4 => exact .star k i 0 hk h3 (fun u hu => absurd hu (Nat.not_lt_zero u)) h1 (by omega) h4
  | star a f n ht g3 hm h1 h2 h4 => exact .star (a + 1 + n) (frm + n) 0 hk h3 (fun u hu => absurd hu (Nat.not_lt_zero u)) h1 (by omega) (h4.trans (star_again hf ht g3 hm h1 hk h3))
/-- An item fits a byte. -/
theorem MInv.onFit (h : MInv hd p s i k st frm) (hk : k < p.length) (h3 : p[k].kind ≠ 3) (hi : i < s.length) (h4 : fitsI p[k] s[i] = true) (h5 : may hd p[k] i = true) : MInv hd p s (i + 1) (k + 1) st frm := by
  cases h with
  | none _ _ h1 h2 h6 => exact .none (i + 1) (k + 1) hi hk (by rw [h6, M_one hd p s _ _ hk h3 hi, h4, h5]; rfl)
  | star a f n ht g3 hm h1 h2 h6 => exact .star a frm (n + 1) ht g3 (hm.snoc hk hi h3 h4 h5) hi hk h6
/-- Nothing fits here. -/
def Miss (hd : Nat → Bool) (p : List Itm) (s : List UInt8) (i k : Nat) : Prop := ∀ (hk : k < p.length) (hi : i < s.length), p[k].kind ≠ 3 ∧ (fitsI p[k] s[i] = false ∨ may hd p[k] i = false)
theorem Miss.M (h : Miss hd p s i k) (hi : i < s.length) (hk : k ≤ p.length) : M hd p s k i = false := by
  rcases Nat.lt_or_ge k p.length with hk' | hk'
  · obtain ⟨h1, h2⟩ := h hk' hi
    rw [M_one hd p s _ _ hk' h1 hi]
    rcases h2 with h2 | h2 <;> rw [h2] <;> simp
  · rw [M_end hd p s _ _ hk' (by omega)]; simp; omega
theorem MInv.missNone (h : MInv hd p s i k (-1) frm) (hi : i < s.length) (hm : Miss hd p s i k) : M hd p s 0 0 = false := by
  generalize hst : (-1 : Int) = st at h
  cases h with
  | none _ _ h1 h2 h3 => rw [h3]; exact hm.M hi h2
  | star a f n ht g3 hmid h1 h2 h4 => omega
theorem MInv.missHard (h : MInv hd p s i k st frm) (h0 : 0 ≤ st) (hi : i < s.length) (hm : Miss hd p s i k) (hh : hd frm = true) : M hd p s 0 0 = false := by
  cases h with
  | none _ _ h1 h2 h3 => omega
  | star a f n ht g3 hmid h1 h2 h4 =>
    rw [h4, M_star_step hd p s _ _ ht g3 (by omega), hmid.M, hm.M hi h2, hh]; rfl
theorem MInv.missOn (h : MInv hd p s i k st frm) (h0 : 0 ≤ st) (hi : i < s.length) (hm : Miss hd p s i k) (hh : hd frm = false) : MInv hd p s (frm + 1) (st.toNat + 1) st (frm + 1) := by
  cases h with
  | none _ _ h1 h2 h3 => omega
  | star a f n ht g3 hmid h1 h2 h4 =>
    exact .star a (frm + 1) 0 ht g3 (fun u hu => absurd hu (Nat.not_lt_zero u)) (by omega) (by omega) (by rw [h4, M_star_step hd p s _ _ ht g3 (by omega), hmid.M, hm.M hi h2, hh]; rfl)
theorem MInv.atEnd (h : MInv hd p s i k st frm) (hi : i = s.length) : M hd p s 0 0 = M hd p s k i := by
  cases h with
  | none _ _ h1 h2 h3 => exact h3
  | star a f n ht g3 hmid h1 h2 h4 => rw [h4]; exact star_end ht g3 hmid hi
/-- How far a search is. -/
def mu (P n i : Nat) (st : Int) (frm : Nat) : Nat := ((P - (st + 1).toNat) * (n + 2) + (n - frm)) * (n + 2) + (n - i)
theorem lex {a b c a' b' c' A : Nat} (hb : b' < A) (hc : c' < A) (h : a' < a ∨ a' = a ∧ (b' < b ∨ b' = b ∧ c' < c)) : (a' * A + b') * A + c' < (a * A + b) * A + c := by
  have key : ∀ x x' y y' : Nat, y' < A → (x' < x ∨ x' = x ∧ y' < y) → x' * A + y' < x * A + y := by
    intro x x' y y' hy h
    rcases h with h | ⟨rfl, h⟩
    · have : (x' + 1) * A ≤ x * A := Nat.mul_le_mul_right _ h
      rw [Nat.add_mul] at this; omega
    · omega
  refine key _ _ _ _ hc ?_
  rcases h with h | ⟨rfl, h | ⟨rfl, h⟩⟩
  · exact .inl (key _ _ _ _ hb (.inl h))
  · exact .inl (by omega)
  · exact .inr ⟨rfl, h⟩
theorem mu_fit (P : Nat) (hi : i < s.length) : mu P s.length (i + 1) st frm < mu P s.length i st frm := by
  unfold mu; omega
theorem mu_star (h : MInv hd p s i k st frm) (hk : k < p.length) : mu p.length s.length i k i < mu p.length s.length i st frm := by
  obtain ⟨h1, h2, h3, h4, h5, h6⟩ := h.bounds
  unfold mu
  refine lex (by omega) (by omega) (.inl ?_)
  by_cases h0 : 0 ≤ st
  · have := h6 h0; omega
  · omega
theorem mu_miss (h : MInv hd p s i k st frm) (hi : i < s.length) : mu p.length s.length (frm + 1) st (frm + 1) < mu p.length s.length i st frm := by
  obtain ⟨h1, h2, h3, h4, h5, h6⟩ := h.bounds
  unfold mu
  exact lex (by omega) (by omega) (.inr ⟨rfl, .inl (by omega)⟩)
end
def pathB (p : List Itm) (s : List UInt8) : Bool := mtB (hardP s) p s 0
theorem pathB_M (p : List Itm) (s : List UInt8) : pathB p s = M (hardP s) p s 0 0 := rfl
/-- At the text's end: the stars. -/
theorem M_tail_star {hd : Nat → Bool} {p : List Itm} {s : List UInt8} {k : Nat} (hk : k < p.length) (h3 : p[k].kind = 3) : M hd p s k s.length = M hd p s (k + 1) s.length := by
  rw [Bool.eq_iff_iff, M_star hd p s _ _ hk h3 (Nat.le_refl _)]
  constructor
  · rintro ⟨j, h1, h2, _, h4⟩; obtain rfl : j = s.length := by omega
    exact h4
  · intro h; exact ⟨s.length, Nat.le_refl _, Nat.le_refl _, fun t h1 h2 => by omega, h⟩
end Go.Proofs.YtndjgeohkfenfaaGreatDoor.Globs

namespace Go.Proofs.YtndjgeohkfenfaaGreatDoor.Globs
set_option linter.unusedVariables false

/-- A byte, and whether it was quoted. -/
structure Ch where
  b : UInt8
  q : Bool
deriving DecidableEq
instance : Inhabited Ch := ⟨⟨0, false⟩⟩
abbrev Rg := UInt8 × UInt8
def bareL : List Ch → List UInt8 → Bool
  | _, [] => true
  | [], _ :: _ => false
  | c :: t, b :: s => (c.b == b && !c.q) && bareL t s
def isLow (c : Ch) : Bool := !c.q && (decide (97 ≤ c.b) && decide (c.b ≤ 122))
def lowL (t : List Ch) : Nat := (t.takeWhile isLow).length
def namedN (t : List Ch) : Nat := 2 + lowL (t.drop 2)
def namedOk (t : List Ch) : Bool := bareL t [91, 58] && (!(namedN t == 2) && bareL (t.drop (namedN t)) [58, 93])
def nameOf (t : List Ch) : List UInt8 := ((t.take (namedN t)).drop 2).map (·.b)
def classL (n : List UInt8) : List Rg :=
  if n = [97, 108, 110, 117, 109] then [(48, 57), (65, 90), (97, 122)]
  else if n = [97, 108, 112, 104, 97] then [(65, 90), (97, 122)]
  else if n = [98, 108, 97, 110, 107] then [(9, 9), (32, 32)]
  else if n = [115, 112, 97, 99, 101] then [(9, 13), (32, 32)]
  else if n = [99, 110, 116, 114, 108] then [(0, 31), (127, 127)]
  else if n = [112, 114, 105, 110, 116] then [(32, 126)]
  else if n = [103, 114, 97, 112, 104] then [(33, 126)]
  else if n = [100, 105, 103, 105, 116] then [(48, 57)]
  else if n = [120, 100, 105, 103, 105, 116] then [(48, 57), (65, 70), (97, 102)]
  else if n = [108, 111, 119, 101, 114] then [(97, 122)]
  else if n = [117, 112, 112, 101, 114] then [(65, 90)]
  else if n = [112, 117, 110, 99, 116] then [(33, 47), (58, 64), (91, 96), (123, 126)]
  else []
/-- Is the next thing two bytes with a - between? -/
def isRng (t : List Ch) : Bool := decide (2 < t.length) && (bareL (t.drop 1) [45] && !bareL (t.drop 2) [93])
def rngTo (t : List Ch) : UInt8 := if isRng t then (t.getD 2 default).b else (t.getD 0 default).b
def rngN (t : List Ch) : Nat := if isRng t then 3 else 1
def thingL (t : List Ch) (path : Bool) : List Rg × Nat :=
  if namedOk t then (if classL (nameOf t) = [] then ([], 0) else (classL (nameOf t), namedN t + 2))
  else if path && ((t.getD 0 default).b == 47 || rngTo t == 47) then ([], 0)
  else if rngTo t < (t.getD 0 default).b then ([], rngN t)
  else ([((t.getD 0 default).b, rngTo t)], rngN t)
def groupF (path : Bool) (t : List Ch) : Nat → Nat → Bool → List Rg → Option (List Rg × Nat)
  | 0, _, _, _ => none
  | f + 1, n, first, acc =>
    if n < t.length then
      if !first && bareL (t.drop n) [93] then some (acc, n + 1)
      else if (thingL (t.drop n) path).2 = 0 then none
      else groupF path t f (n + (thingL (t.drop n) path).2) false (acc ++ (thingL (t.drop n) path).1)
    else none
def grpBeg (t : List Ch) : Nat := if bareL t [33] then 1 else 0
def groupR (t : List Ch) (path : Bool) : Option (List Rg × Nat) := groupF path t (t.length + 1) (grpBeg t) true []
def groupL (t : List Ch) (path : Bool) : Option (Itm × Nat) := (groupR t path).map fun x => (⟨4, 0, bareL t [33], x.1⟩, x.2)
def itemL (t : List Ch) (path : Bool) : Itm × Nat :=
  if (t.getD 0 default).q then (⟨1, (t.getD 0 default).b, false, []⟩, 1)
  else if (t.getD 0 default).b = 63 then (⟨2, 0, false, []⟩, 1)
  else if (t.getD 0 default).b = 42 then (⟨3, 0, false, []⟩, 1)
  else if (t.getD 0 default).b = 92 ∧ 1 < t.length then (⟨1, (t.getD 1 default).b, false, []⟩, 2)
  else if (t.getD 0 default).b = 91 then (match groupL (t.drop 1) path with
    | some (g, k) => (g, k + 1)
    | none => (⟨1, (t.getD 0 default).b, false, []⟩, 1))
  else (⟨1, (t.getD 0 default).b, false, []⟩, 1)
def starLast (out : List Itm) : Bool := match out.getLast? with
  | some x => x.kind == 3
  | none => false
def addI (out : List Itm) (x : Itm) : List Itm := if x.kind = 3 ∧ starLast out = true then out else out ++ [x]
def compF (path : Bool) : Nat → List Ch → List Itm → List Itm
  | 0, _, out => out
  | f + 1, t, out => if t = [] then out else compF path f (t.drop (itemL t path).2) (addI out (itemL t path).1)
def compileL (t : List Ch) (path : Bool) : List Itm := compF path t.length t []

theorem bareL_len {t : List Ch} {s : List UInt8} (h : bareL t s = true) : s.length ≤ t.length := by
  induction s generalizing t with
  | nil => simp
  | cons b s ih => cases t with
    | nil => simp [bareL] at h
    | cons c t => simp only [bareL, Bool.and_eq_true] at h; have := ih h.2; simp; omega
theorem lowL_le (t : List Ch) : lowL t ≤ t.length := by
  unfold lowL
  exact List.IsPrefix.length_le (List.takeWhile_prefix _)
theorem namedN_le {t : List Ch} (h : namedOk t = true) : namedN t + 2 ≤ t.length ∧ 3 ≤ namedN t := by
  unfold namedOk at h
  simp only [Bool.and_eq_true, Bool.not_eq_true', beq_eq_false_iff_ne] at h
  obtain ⟨h1, h2, h3⟩ := h
  have := bareL_len h3
  simp only [List.length_cons, List.length_nil, List.length_drop] at this
  unfold namedN at *
  omega
theorem thingL_le {t : List Ch} (path : Bool) (ht : 0 < t.length) : (thingL t path).2 ≤ t.length := by
  unfold thingL
  by_cases h : namedOk t = true
  · rw [if_pos h]
    have := namedN_le h
    split
    · simp
    · simp only; omega
  · rw [if_neg h]
    have hr : rngN t ≤ t.length := by
      unfold rngN; split
      · rename_i h; unfold isRng at h; simp only [Bool.and_eq_true, decide_eq_true_eq] at h; omega
      · omega
    split
    · simp
    · split <;> exact hr
theorem groupF_le {path : Bool} {t : List Ch} {f n : Nat} {first : Bool} {acc : List Rg} {x : List Rg × Nat} (h : groupF path t f n first acc = some x) : 0 < x.2 ∧ x.2 ≤ t.length := by
  induction f generalizing n first acc with
  | zero => simp [groupF] at h
  | succ f ih =>
    unfold groupF at h
    split at h
    · split at h
      · simp only [Option.some.injEq] at h; subst h; simp only; omega
      · split at h
        · cases h
        · exact ih h
    · cases h
theorem le_ite {c : Prop} [Decidable c] {a b : List Rg} (ha : a.length ≤ 4) (hb : b.length ≤ 4) : (if c then a else b).length ≤ 4 := by
  by_cases h : c
  · rw [if_pos h]; exact ha
  · rw [if_neg h]; exact hb
theorem classL_le (n : List UInt8) : (classL n).length ≤ 4 := by
  unfold classL
  iterate 12 refine le_ite (by decide) ?_
  decide
theorem thingL_rs (t : List Ch) (path : Bool) : (thingL t path).1.length ≤ 4 := by
  unfold thingL
  split
  · split
    · simp
    · exact classL_le _
  · split
    · simp
    · split <;> simp
theorem groupF_rs {path : Bool} {t : List Ch} {f n : Nat} {first : Bool} {acc : List Rg} {x : List Rg × Nat} (h : groupF path t f n first acc = some x) : x.1.length ≤ acc.length + 4 * f := by
  induction f generalizing n first acc with
  | zero => simp [groupF] at h
  | succ f ih =>
    unfold groupF at h
    split at h
    · split at h
      · simp only [Option.some.injEq] at h; subst h; simp only; omega
      · split at h
        · cases h
        · have := ih h
          have := thingL_rs (t.drop n) path
          rw [List.length_append] at *; omega
    · cases h
theorem itemL_n {t : List Ch} (path : Bool) (ht : 0 < t.length) : 1 ≤ (itemL t path).2 ∧ (itemL t path).2 ≤ t.length := by
  unfold itemL
  split
  · simp only; omega
  split
  · simp only; omega
  split
  · simp only; omega
  split
  · rename_i h; simp only; omega
  split
  · unfold groupL
    cases hg : groupR (t.drop 1) path with
    | none => simp only [Option.map_none]; omega
    | some x =>
      unfold groupR at hg
      have := groupF_le hg
      rw [List.length_drop] at this
      simp only [Option.map_some]; omega
  · simp only; omega
end Go.Proofs.YtndjgeohkfenfaaGreatDoor.Globs

