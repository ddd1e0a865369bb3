/- Plain: holes, quotes, words and ops of a text. -/
import Derived.Test.YtlhkochpokhncaaDoorSep
namespace Go.Proofs.YtlhkochpokhncaaDoor.Lexer

set_option linter.unusedVariables false
abbrev Bytes := List UInt8
/-- One step within a frame: what stands for the frame, and the rest. -/
def stp (a : UInt8) : Bytes → Option (List UInt8 × Bytes)
  | [] => none
  | c :: l =>
    if a = 39 then some (if c = 39 then [] else [a], l)
    else if c = 92 then (match l with | [] => none | _ :: r => some ([a], r))
    else if a = 96 ∨ (a = 34 ∧ c = 34) then some (if c = a then [] else [a], l)
    else if c = 36 ∧ (l.head? = some 40 ∨ l.head? = some 123) then some ([l.headD 0, a], l.tail)
    else if c = 96 ∨ (a ≠ 34 ∧ (c = 39 ∨ c = 34)) ∨ (a = 40 ∧ c = 40) then some ([c, a], l)
    else some (if (a = 40 ∧ c = 41) ∨ (a = 123 ∧ c = 125) then [] else [a], l)
theorem stp_cons (a c : UInt8) (l : Bytes) : stp a (c :: l) =
    if a = 39 then some (if c = 39 then [] else [a], l)
    else if c = 92 then (match l with | [] => none | _ :: r => some ([a], r))
    else if a = 96 ∨ (a = 34 ∧ c = 34) then some (if c = a then [] else [a], l)
    else if c = 36 ∧ (l.head? = some 40 ∨ l.head? = some 123) then some ([l.headD 0, a], l.tail)
    else if c = 96 ∨ (a ≠ 34 ∧ (c = 39 ∨ c = 34)) ∨ (a = 40 ∧ c = 40) then some ([c, a], l)
    else some (if (a = 40 ∧ c = 41) ∨ (a = 123 ∧ c = 125) then [] else [a], l) := rfl
theorem stp_len {a : UInt8} {l r : Bytes} {fs : List UInt8} (h : stp a l = some (fs, r)) : r.length < l.length := by
  cases l with
  | nil => cases h
  | cons c l =>
    have hl : r = l ∨ r = l.tail := by
      rw [stp_cons] at h
      by_cases h1 : a = 39
      · rw [if_pos h1] at h; exact .inl (Prod.mk.inj (Option.some.inj h)).2.symm
      · rw [if_neg h1] at h
        by_cases h2 : c = 92
        · rw [if_pos h2] at h
          cases l with
          | nil => cases h
          | cons d l => exact .inr (Prod.mk.inj (Option.some.inj h)).2.symm
        · rw [if_neg h2] at h
          by_cases h3 : a = 96 ∨ (a = 34 ∧ c = 34)
          · rw [if_pos h3] at h; exact .inl (Prod.mk.inj (Option.some.inj h)).2.symm
          · rw [if_neg h3] at h
            by_cases h4 : c = 36 ∧ (l.head? = some 40 ∨ l.head? = some 123)
            · rw [if_pos h4] at h; exact .inr (Prod.mk.inj (Option.some.inj h)).2.symm
            · rw [if_neg h4] at h
              by_cases h5 : c = 96 ∨ (a ≠ 34 ∧ (c = 39 ∨ c = 34)) ∨ (a = 40 ∧ c = 40)
              · rw [if_pos h5] at h; exact .inl (Prod.mk.inj (Option.some.inj h)).2.symm
              · rw [if_neg h5] at h; exact .inl (Prod.mk.inj (Option.some.inj h)).2.symm
    rcases hl with rfl | rfl
    · simp
    · simp; omega
/-- What is left behind all frames. -/
def M : List UInt8 → Bytes → Option Bytes
  | [], l => some l
  | a :: st, l => match h : stp a l with
    | none => none
    | some (fs, r) => M (fs ++ st) r
termination_by _ l => l.length
decreasing_by exact stp_len h
theorem M_nil (l : Bytes) : M [] l = some l := by unfold M; rfl
theorem M_cons (a : UInt8) (st : List UInt8) (l : Bytes) : M (a :: st) l = (stp a l).bind fun x => M (x.1 ++ st) x.2 := by
  rw [M]
  split
  · next h => rw [h]; rfl
  · next fs r h => rw [h]; rfl
theorem M_none (a : UInt8) (st : List UInt8) {l : Bytes} (h : stp a l = none) : M (a :: st) l = none := by rw [M_cons, h]; rfl
theorem M_some (a : UInt8) (st : List UInt8) {l r : Bytes} {fs : List UInt8} (h : stp a l = some (fs, r)) : M (a :: st) l = M (fs ++ st) r := by rw [M_cons, h]; rfl
theorem M_bind (s1 s2 : List UInt8) (l : Bytes) : M (s1 ++ s2) l = (M s1 l).bind (M s2) := by
  have key : ∀ (n : Nat) (s1 : List UInt8) (l : Bytes), l.length ≤ n → M (s1 ++ s2) l = (M s1 l).bind (M s2) := by
    intro n
    induction n with
    | zero =>
      intro s1 l hl
      have : l = [] := List.eq_nil_of_length_eq_zero (by omega)
      subst this
      cases s1 with
      | nil => rw [M_nil]; rfl
      | cons a s1 => rw [List.cons_append, M_none _ _ rfl, M_none _ _ rfl]; rfl
    | succ n ih =>
      intro s1 l hl
      cases s1 with
      | nil => rw [M_nil]; rfl
      | cons a s1 =>
        rw [List.cons_append]
        match h : stp a l with
        | none => rw [M_none _ _ h, M_none _ _ h]; rfl
        | some (fs, r) =>
          have hl2 := stp_len h
          rw [M_some _ _ h, M_some _ _ h, ← List.append_assoc]
          exact ih _ _ (by omega)
  exact key l.length s1 l (Nat.le_refl _)
theorem M_push (a : UInt8) (st : List UInt8) (l : Bytes) : M (a :: st) l = (M [a] l).bind (M st) := M_bind [a] st l
theorem M_len {st : List UInt8} {l r : Bytes} (h : M st l = some r) : r.length ≤ l.length ∧ (st ≠ [] → r.length < l.length) := by
  have key : ∀ (n : Nat) (st : List UInt8) (l r : Bytes), l.length ≤ n → M st l = some r → r.length ≤ l.length ∧ (st ≠ [] → r.length < l.length) := by
    intro n
    induction n with
    | zero =>
      intro st l r hl h
      cases st with
      | nil => rw [M_nil] at h; cases h; exact ⟨Nat.le_refl _, fun h => absurd rfl h⟩
      | cons a st =>
        have : l = [] := List.eq_nil_of_length_eq_zero (by omega)
        subst this
        rw [M_none _ _ rfl] at h; cases h
    | succ n ih =>
      intro st l r hl h
      cases st with
      | nil => rw [M_nil] at h; cases h; exact ⟨Nat.le_refl _, fun h => absurd rfl h⟩
      | cons a st =>
        match hs : stp a l with
        | none => rw [M_none _ _ hs] at h; cases h
        | some (fs, r') =>
          have hl2 := stp_len hs
          rw [M_some _ _ hs] at h
          have := (ih _ _ _ (by omega) h).1
          exact ⟨by omega, fun _ => by omega⟩
  exact key l.length st l r (Nat.le_refl _) h
/-- Does a hole begin there? -/
def hol : Bytes → Bool
  | [] => false
  | c :: l => c == 96 || (c == 36 && (l.head? == some 40 || l.head? == some 123))
/-- What is left behind a hole that begins there. -/
def holeL : Bytes → Option Bytes
  | [] => none
  | c :: l => if c = 96 then M [96] l else M [l.headD 0] l.tail
theorem holeL_cons (c : UInt8) (l : Bytes) : holeL (c :: l) = if c = 96 then M [96] l else M [l.headD 0] l.tail := rfl
/-- What counts as a whole: what is left behind it, if it ends. -/
def wh : Bytes → Option (Option Bytes)
  | [] => none
  | c :: l =>
    if c = 92 then some (match l with | [] => none | _ :: r => some r)
    else if c = 39 then some (M [39] l)
    else if c = 34 then some (M [34] l)
    else if hol (c :: l) = true then some (holeL (c :: l)) else none
theorem wh_cons (c : UInt8) (l : Bytes) : wh (c :: l) =
    if c = 92 then some (match l with | [] => none | _ :: r => some r)
    else if c = 39 then some (M [39] l)
    else if c = 34 then some (M [34] l)
    else if hol (c :: l) = true then some (holeL (c :: l)) else none := rfl
theorem hole_len {l r : Bytes} (h : holeL l = some r) : r.length < l.length := by
  cases l with
  | nil => cases h
  | cons c l =>
    rw [holeL_cons] at h
    by_cases h1 : c = 96
    · rw [if_pos h1] at h; have := (M_len h).1; simp; omega
    · rw [if_neg h1] at h; have := (M_len h).1; simp at this ⊢; omega
theorem wh_len {l r : Bytes} (h : wh l = some (some r)) : r.length < l.length := by
  cases l with
  | nil => cases h
  | cons c l =>
    rw [wh_cons] at h
    by_cases h1 : c = 92
    · rw [if_pos h1] at h
      cases l with
      | nil => cases h
      | cons d l => have := Option.some.inj (Option.some.inj h); rw [← this]; simp; omega
    · rw [if_neg h1] at h
      by_cases h2 : c = 39
      · rw [if_pos h2] at h; have := (M_len (Option.some.inj h)).1; simp; omega
      · rw [if_neg h2] at h
        by_cases h3 : c = 34
        · rw [if_pos h3] at h; have := (M_len (Option.some.inj h)).1; simp; omega
        · rw [if_neg h3] at h
          by_cases h4 : hol (c :: l) = true
          · rw [if_pos h4] at h; exact hole_len (Option.some.inj h)
          · rw [if_neg h4] at h; cases h
/-- Within ( and {: what is a whole, or a bare byte. -/
theorem M_frame (a : UInt8) (ha : a = 40 ∨ a = 123) (st : List UInt8) (c : UInt8) (l : Bytes) : M (a :: st) (c :: l) = match wh (c :: l) with
    | some r => r.bind (M (a :: st))
    | none => if a = 40 ∧ c = 40 then M (40 :: a :: st) l else if (a = 40 ∧ c = 41) ∨ (a = 123 ∧ c = 125) then M st l else M (a :: st) l := by
  have h39 : a ≠ 39 := by rcases ha with rfl | rfl <;> decide
  have h96 : a ≠ 96 := by rcases ha with rfl | rfl <;> decide
  have h34 : a ≠ 34 := by rcases ha with rfl | rfl <;> decide
  rw [M_cons]
  rw [stp_cons, wh_cons, if_neg h39]
  by_cases c92 : c = 92
  · rw [if_pos c92, if_pos c92]
    cases l with
    | nil => rfl
    | cons d r => rfl
  · rw [if_neg c92, if_neg c92, if_neg (by simp [h96, h34])]
    by_cases hd : c = 36 ∧ (l.head? = some 40 ∨ l.head? = some 123)
    · have hh : hol (c :: l) = true := by unfold hol; simp [hd.1]; rcases hd.2 with h | h <;> simp [h]
      rw [if_pos hd, if_neg (by rw [hd.1]; decide), if_neg (by rw [hd.1]; decide), if_pos hh]
      show M ([l.headD 0, a] ++ st) l.tail = (holeL (c :: l)).bind _
      rw [holeL_cons]
      rw [if_neg (by rw [hd.1]; decide)]
      exact M_push _ _ _
    · rw [if_neg hd]
      by_cases c39 : c = 39
      · rw [if_pos (by simp [c39, h34]), if_pos c39]
        show M ([c, a] ++ st) l = (M [39] l).bind _
        rw [c39]; exact M_push _ _ _
      · rw [if_neg c39]
        by_cases c34 : c = 34
        · rw [if_pos (by simp [c34, h34]), if_pos c34]
          show M ([c, a] ++ st) l = (M [34] l).bind _
          rw [c34]; exact M_push _ _ _
        · rw [if_neg c34]
          by_cases c96 : c = 96
          · have hh : hol (c :: l) = true := by unfold hol; simp [c96]
            rw [if_pos (by simp [c96]), if_pos hh]
            show M ([c, a] ++ st) l = (holeL (c :: l)).bind _
            rw [holeL_cons]
            rw [if_pos c96, c96]
            exact M_push _ _ _
          · have hh : ¬ hol (c :: l) = true := by
              unfold hol
              simp [c96]
              intro h1
              refine ⟨fun h2 => hd ⟨h1, .inl h2⟩, fun h2 => hd ⟨h1, .inr h2⟩⟩
            rw [if_neg hh]
            by_cases c40 : a = 40 ∧ c = 40
            · rw [if_pos (.inr (.inr c40)), if_pos c40]
              show M ([c, a] ++ st) l = _
              rw [c40.2]; rfl
            · have : ¬ (c = 96 ∨ (a ≠ 34 ∧ (c = 39 ∨ c = 34)) ∨ (a = 40 ∧ c = 40)) := by simp [c96, c39, c34]; intro h1 h2; exact c40 ⟨h1, h2⟩
              rw [if_neg this, if_neg c40]
              split
              · rfl
              · rfl
theorem M_frame_nil (a : UInt8) (st : List UInt8) : M (a :: st) [] = none := M_none _ _ rfl
/-- Within quotes ": a hole, or a bare byte. -/
theorem M_quote (c : UInt8) (l : Bytes) : M [34] (c :: l) = if c = 34 then some l else if c = 92 then (match l with | [] => none | _ :: r => M [34] r) else if hol (c :: l) = true then (holeL (c :: l)).bind (M [34]) else M [34] l := by
  rw [M_cons, stp_cons, if_neg (by decide)]
  by_cases c34 : c = 34
  · subst c34
    rw [if_neg (by decide), if_pos (by simp), if_pos rfl, if_pos rfl]
    exact M_nil l
  · simp only [if_neg c34]
    by_cases c92 : c = 92
    · rw [if_pos c92, if_pos c92]
      cases l <;> rfl
    · rw [if_neg c92, if_neg c92, if_neg (by simp [c34])]
      by_cases hd : c = 36 ∧ (l.head? = some 40 ∨ l.head? = some 123)
      · have hh : hol (c :: l) = true := by unfold hol; simp [hd.1]; rcases hd.2 with h | h <;> simp [h]
        rw [if_pos hd, if_pos hh, holeL_cons, if_neg (by rw [hd.1]; decide)]
        show M ([l.headD 0, 34] ++ []) l.tail = _
        exact M_push _ _ _
      · rw [if_neg hd]
        by_cases c96 : c = 96
        · have hh : hol (c :: l) = true := by unfold hol; simp [c96]
          rw [if_pos (.inl c96), if_pos hh, holeL_cons, if_pos c96]
          show M ([c, 34] ++ []) l = _
          rw [c96]; exact M_push _ _ _
        · have hh : ¬ hol (c :: l) = true := by
            unfold hol
            simp [c96]
            intro h1
            refine ⟨fun h2 => hd ⟨h1, .inl h2⟩, fun h2 => hd ⟨h1, .inr h2⟩⟩
          rw [if_neg (by simp [c96]), if_neg hh, if_neg (by simp)]
          rfl
theorem M_tick (c : UInt8) (l : Bytes) : M [96] (c :: l) = if c = 96 then some l else if c = 92 then (match l with | [] => none | _ :: r => M [96] r) else M [96] l := by
  rw [M_cons, stp_cons, if_neg (by decide)]
  by_cases c96 : c = 96
  · subst c96
    rw [if_neg (by decide), if_pos (by simp), if_pos rfl, if_pos rfl]
    exact M_nil l
  · simp only [if_neg c96]
    by_cases c92 : c = 92
    · rw [if_pos c92, if_pos c92]
      cases l <;> rfl
    · rw [if_neg c92, if_neg c92, if_pos (by simp)]; rfl
theorem M_single (c : UInt8) (l : Bytes) : M [39] (c :: l) = if c = 39 then some l else M [39] l := by
  rw [M_cons]
  rw [stp_cons, if_pos rfl]
  by_cases c39 : c = 39
  · rw [if_pos c39, if_pos c39]; exact M_nil l
  · rw [if_neg c39, if_neg c39]; rfl


def opsL : List Bytes := [[60, 60, 45], [38, 38], [124, 124], [59, 59], [60, 60], [60, 38], [60, 62], [62, 62], [62, 38], [62, 124], [38], [124], [59], [60], [62], [40], [41]]
/-- How many bytes the longest op at the beginning has. -/
def opN (l : Bytes) : Nat := ((opsL.find? (fun o => o.isPrefixOf l)).map List.length).getD 0
/-- The same, longest first. -/
def opP (l : Bytes) : Nat :=
  if 3 ≤ l.length ∧ l.take 3 ∈ opsL then 3 else if 2 ≤ l.length ∧ l.take 2 ∈ opsL then 2 else if 1 ≤ l.length ∧ l.take 1 ∈ opsL then 1 else 0
theorem opN_nil : opN [] = 0 := by decide
theorem find_n (n : Nat) (L : List Bytes) (hL : ∀ o ∈ L, o.length = n) (l : Bytes) : L.find? (fun o => o.isPrefixOf l) = if n ≤ l.length ∧ l.take n ∈ L then some (l.take n) else none := by
  induction L with
  | nil => simp
  | cons o L ih =>
    have ho := hL o (List.mem_cons_self ..)
    have ih := ih fun x hx => hL x (List.mem_cons_of_mem _ hx)
    rw [List.find?_cons]
    by_cases hp : o.isPrefixOf l = true
    · have hpre : o <+: l := List.isPrefixOf_iff_prefix.1 hp
      have e : l.take n = o := by rw [← ho]; exact (List.prefix_iff_eq_take.1 hpre).symm
      have hle : n ≤ l.length := by rw [← ho]; exact hpre.length_le
      rw [hp, if_pos ⟨hle, by rw [e]; exact List.mem_cons_self ..⟩, e]
    · have hp2 : o.isPrefixOf l = false := Bool.eq_false_iff.2 hp
      rw [hp2]
      show List.find? _ L = _
      rw [ih]
      by_cases hc : n ≤ l.length ∧ l.take n ∈ L
      · rw [if_pos hc, if_pos ⟨hc.1, List.mem_cons_of_mem _ hc.2⟩]
      · rw [if_neg hc, if_neg]
        intro ⟨h1, h2⟩
        rcases List.mem_cons.1 h2 with h | h
        · refine hp (List.isPrefixOf_iff_prefix.2 ?_)
          rw [← h]; exact List.take_prefix n l
        · exact hc ⟨h1, h⟩
def ops3 : List Bytes := [[60, 60, 45]]
def ops2 : List Bytes := [[38, 38], [124, 124], [59, 59], [60, 60], [60, 38], [60, 62], [62, 62], [62, 38], [62, 124]]
def ops1 : List Bytes := [[38], [124], [59], [60], [62], [40], [41]]
theorem ops_split : opsL = ops3 ++ (ops2 ++ ops1) := rfl
theorem mem3 {l : Bytes} (h : l.length = 3) : l ∈ opsL ↔ l ∈ ops3 := by
  rw [ops_split, List.mem_append, List.mem_append]
  have h2 : l ∉ ops2 := fun hm => by have : ∀ o ∈ ops2, o.length = 2 := by decide
                                     have := this l hm; omega
  have h1 : l ∉ ops1 := fun hm => by have : ∀ o ∈ ops1, o.length = 1 := by decide
                                     have := this l hm; omega
  simp [h1, h2]
theorem mem2 {l : Bytes} (h : l.length = 2) : l ∈ opsL ↔ l ∈ ops2 := by
  rw [ops_split, List.mem_append, List.mem_append]
  have h2 : l ∉ ops3 := fun hm => by have : ∀ o ∈ ops3, o.length = 3 := by decide
                                     have := this l hm; omega
  have h1 : l ∉ ops1 := fun hm => by have : ∀ o ∈ ops1, o.length = 1 := by decide
                                     have := this l hm; omega
  simp [h1, h2]
theorem mem1 {l : Bytes} (h : l.length = 1) : l ∈ opsL ↔ l ∈ ops1 := by
  rw [ops_split, List.mem_append, List.mem_append]
  have h2 : l ∉ ops3 := fun hm => by have : ∀ o ∈ ops3, o.length = 3 := by decide
                                     have := this l hm; omega
  have h1 : l ∉ ops2 := fun hm => by have : ∀ o ∈ ops2, o.length = 2 := by decide
                                     have := this l hm; omega
  simp [h1, h2]
theorem opP_eq (l : Bytes) : opP l = opN l := by
  unfold opP opN
  rw [ops_split, List.find?_append, List.find?_append, find_n 3 ops3 (by decide), find_n 2 ops2 (by decide), find_n 1 ops1 (by decide), ← ops_split]
  have e3 : (3 ≤ l.length ∧ l.take 3 ∈ opsL) ↔ (3 ≤ l.length ∧ l.take 3 ∈ ops3) := by
    constructor
    · intro ⟨h1, h2⟩; exact ⟨h1, (mem3 (by rw [List.length_take]; omega)).1 h2⟩
    · intro ⟨h1, h2⟩; exact ⟨h1, (mem3 (by rw [List.length_take]; omega)).2 h2⟩
  have e2 : (2 ≤ l.length ∧ l.take 2 ∈ opsL) ↔ (2 ≤ l.length ∧ l.take 2 ∈ ops2) := by
    constructor
    · intro ⟨h1, h2⟩; exact ⟨h1, (mem2 (by rw [List.length_take]; omega)).1 h2⟩
    · intro ⟨h1, h2⟩; exact ⟨h1, (mem2 (by rw [List.length_take]; omega)).2 h2⟩
  have e1 : (1 ≤ l.length ∧ l.take 1 ∈ opsL) ↔ (1 ≤ l.length ∧ l.take 1 ∈ ops1) := by
    constructor
    · intro ⟨h1, h2⟩; exact ⟨h1, (mem1 (by rw [List.length_take]; omega)).1 h2⟩
    · intro ⟨h1, h2⟩; exact ⟨h1, (mem1 (by rw [List.length_take]; omega)).2 h2⟩
  simp only [e1, e2, e3]
  by_cases h3 : 3 ≤ l.length ∧ l.take 3 ∈ ops3
  · rw [if_pos h3, if_pos h3]; simp [List.length_take]; omega
  · rw [if_neg h3, if_neg h3]
    by_cases h2 : 2 ≤ l.length ∧ l.take 2 ∈ ops2
    · rw [if_pos h2, if_pos h2]; simp [List.length_take]; omega
    · rw [if_neg h2, if_neg h2]
      by_cases h1 : 1 ≤ l.length ∧ l.take 1 ∈ ops1
      · rw [if_pos h1, if_pos h1]; simp [List.length_take]; omega
      · rw [if_neg h1, if_neg h1]; rfl
theorem opP_le (l : Bytes) : opP l ≤ l.length ∧ opP l ≤ 3 := by
  unfold opP
  split
  · omega
  · split
    · omega
    · split <;> omega
/-- Does a word end there? -/
def stops (l : Bytes) : Bool := l.head? == some 32 || l.head? == some 9 || l.head? == some 10 || decide (0 < opN l)
/-- What is left behind a word. -/
def Wd : Bytes → Option Bytes
  | [] => some []
  | c :: t => if stops (c :: t) = true then some (c :: t) else match h : wh (c :: t) with
    | some (some r) => Wd r
    | some none => none
    | none => Wd t
termination_by l => l.length
decreasing_by
  · exact wh_len h
  · simp
theorem Wd_nil : Wd [] = some [] := by rw [Wd]
theorem Wd_stop {c : UInt8} {t : Bytes} (h : stops (c :: t) = true) : Wd (c :: t) = some (c :: t) := by rw [Wd, if_pos h]
theorem Wd_some {c : UInt8} {t : Bytes} (h : stops (c :: t) = false) {r : Option Bytes} (hw : wh (c :: t) = some r) : Wd (c :: t) = r.bind Wd := by
  rw [Wd, if_neg (by rw [h]; decide)]
  split
  · next r' h' => rw [hw] at h'; cases h'; rfl
  · next h' => rw [hw] at h'; cases h'; rfl
  · next h' => rw [hw] at h'; cases h'
theorem Wd_none {c : UInt8} {t : Bytes} (h : stops (c :: t) = false) (hw : wh (c :: t) = none) : Wd (c :: t) = Wd t := by
  rw [Wd, if_neg (by rw [h]; decide)]
  split
  · next r' h' => rw [hw] at h'; cases h'
  · next h' => rw [hw] at h'; cases h'
  · rfl
theorem Wd_len {l r : Bytes} (h : Wd l = some r) : r.length ≤ l.length := by
  have key : ∀ (n : Nat) (l r : Bytes), l.length ≤ n → Wd l = some r → r.length ≤ l.length := by
    intro n
    induction n with
    | zero =>
      intro l r hl h
      have : l = [] := List.eq_nil_of_length_eq_zero (by omega)
      subst this
      rw [Wd_nil] at h; cases h; exact Nat.le_refl _
    | succ n ih =>
      intro l r hl h
      cases l with
      | nil => rw [Wd_nil] at h; cases h; exact Nat.le_refl _
      | cons c t =>
        by_cases hs : stops (c :: t) = true
        · rw [Wd_stop hs] at h; cases h; exact Nat.le_refl _
        · have hs : stops (c :: t) = false := by simpa using hs
          match hw : wh (c :: t) with
          | none =>
            rw [Wd_none hs hw] at h
            have := ih t r (by simp at hl; omega) h
            simp; omega
          | some none => rw [Wd_some hs hw] at h; cases h
          | some (some r') =>
            rw [Wd_some hs hw] at h
            have h1 := wh_len hw
            have := ih r' r (by simp at hl h1; omega) h
            omega
  exact key l.length l r (Nat.le_refl _) h
/-- The word's own frame (119) within the document's scan. -/
theorem Wd_stp {c : UInt8} {t : Bytes} (h : stops (c :: t) = false) : Wd (c :: t) = (stp 119 (c :: t)).bind fun x => (M x.1.dropLast x.2).bind Wd := by
  rw [stp_cons, if_neg (by decide)]
  by_cases c92 : c = 92
  · rw [if_pos c92]
    cases t with
    | nil =>
      have hw : wh [c] = some none := by rw [wh_cons, if_pos c92]
      rw [Wd_some h hw]; rfl
    | cons d r =>
      have hw : wh (c :: d :: r) = some (some r) := by rw [wh_cons, if_pos c92]
      rw [Wd_some h hw]
      show Wd r = (M [] r).bind Wd; rw [M_nil]; rfl
  · rw [if_neg c92, if_neg (by simp)]
    by_cases hd : c = 36 ∧ (t.head? = some 40 ∨ t.head? = some 123)
    · have hh : hol (c :: t) = true := by unfold hol; simp [hd.1]; rcases hd.2 with h | h <;> simp [h]
      have hw : wh (c :: t) = some (M [t.headD 0] t.tail) := by rw [wh_cons, if_neg c92, if_neg (by rw [hd.1]; decide), if_neg (by rw [hd.1]; decide), if_pos hh, holeL_cons, if_neg (by rw [hd.1]; decide)]
      rw [Wd_some h hw, if_pos hd]
      rfl
    · rw [if_neg hd]
      by_cases c39 : c = 39
      · have hw : wh (c :: t) = some (M [39] t) := by rw [wh_cons, if_neg c92, if_pos c39]
        rw [Wd_some h hw, if_pos (by simp [c39])]
        show _ = (M [c] t).bind Wd
        rw [c39]
      · by_cases c34 : c = 34
        · have hw : wh (c :: t) = some (M [34] t) := by rw [wh_cons, if_neg c92, if_neg c39, if_pos c34]
          rw [Wd_some h hw, if_pos (by simp [c34])]
          show _ = (M [c] t).bind Wd
          rw [c34]
        · by_cases c96 : c = 96
          · have hh : hol (c :: t) = true := by unfold hol; simp [c96]
            have hw : wh (c :: t) = some (M [96] t) := by rw [wh_cons, if_neg c92, if_neg c39, if_neg c34, if_pos hh, holeL_cons, if_pos c96]
            rw [Wd_some h hw, if_pos (.inl c96)]
            show _ = (M [c] t).bind Wd
            rw [c96]
          · have hh : ¬ hol (c :: t) = true := by
              unfold hol
              simp [c96]
              intro h1
              refine ⟨fun h2 => hd ⟨h1, .inl h2⟩, fun h2 => hd ⟨h1, .inr h2⟩⟩
            have hw : wh (c :: t) = none := by rw [wh_cons, if_neg c92, if_neg c39, if_neg c34, if_neg hh]
            rw [Wd_none h hw, if_neg (by simp [c96, c39, c34])]
            show _ = (M [] t).bind Wd
            rw [M_nil]; rfl


theorem stp_suf {a : UInt8} {l r : Bytes} {fs : List UInt8} (h : stp a l = some (fs, r)) : r <:+ l := by
  cases l with
  | nil => cases h
  | cons c l =>
    have hl : r = l ∨ r = l.tail := by
      rw [stp_cons] at h
      by_cases h1 : a = 39
      · rw [if_pos h1] at h; exact .inl (Prod.mk.inj (Option.some.inj h)).2.symm
      · rw [if_neg h1] at h
        by_cases h2 : c = 92
        · rw [if_pos h2] at h
          cases l with
          | nil => cases h
          | cons d l => exact .inr (Prod.mk.inj (Option.some.inj h)).2.symm
        · rw [if_neg h2] at h
          by_cases h3 : a = 96 ∨ (a = 34 ∧ c = 34)
          · rw [if_pos h3] at h; exact .inl (Prod.mk.inj (Option.some.inj h)).2.symm
          · rw [if_neg h3] at h
            by_cases h4 : c = 36 ∧ (l.head? = some 40 ∨ l.head? = some 123)
            · rw [if_pos h4] at h; exact .inr (Prod.mk.inj (Option.some.inj h)).2.symm
            · rw [if_neg h4] at h
              by_cases h5 : c = 96 ∨ (a ≠ 34 ∧ (c = 39 ∨ c = 34)) ∨ (a = 40 ∧ c = 40)
              · rw [if_pos h5] at h; exact .inl (Prod.mk.inj (Option.some.inj h)).2.symm
              · rw [if_neg h5] at h; exact .inl (Prod.mk.inj (Option.some.inj h)).2.symm
    rcases hl with rfl | rfl
    · exact List.suffix_cons c _
    · exact (List.tail_suffix l).trans (List.suffix_cons c l)
theorem M_suf {st : List UInt8} {l r : Bytes} (h : M st l = some r) : r <:+ l := by
  have key : ∀ (n : Nat) (st : List UInt8) (l r : Bytes), l.length ≤ n → M st l = some r → r <:+ l := by
    intro n
    induction n with
    | zero =>
      intro st l r hl h
      cases st with
      | nil => rw [M_nil] at h; cases h; exact List.suffix_refl _
      | cons a st =>
        have : l = [] := List.eq_nil_of_length_eq_zero (by omega)
        subst this
        rw [M_none _ _ rfl] at h; cases h
    | succ n ih =>
      intro st l r hl h
      cases st with
      | nil => rw [M_nil] at h; cases h; exact List.suffix_refl _
      | cons a st =>
        match hs : stp a l with
        | none => rw [M_none _ _ hs] at h; cases h
        | some (fs, r') =>
          have hl2 := stp_len hs
          rw [M_some _ _ hs] at h
          exact (ih _ _ _ (by omega) h).trans (stp_suf hs)
  exact key l.length st l r (Nat.le_refl _) h
theorem hole_suf {l r : Bytes} (h : holeL l = some r) : r <:+ l := by
  cases l with
  | nil => cases h
  | cons c l =>
    rw [holeL_cons] at h
    by_cases h1 : c = 96
    · rw [if_pos h1] at h; exact (M_suf h).trans (List.suffix_cons c l)
    · rw [if_neg h1] at h; exact ((M_suf h).trans (List.tail_suffix l)).trans (List.suffix_cons c l)
theorem wh_suf {l r : Bytes} (h : wh l = some (some r)) : r <:+ l := by
  cases l with
  | nil => cases h
  | cons c l =>
    rw [wh_cons] at h
    by_cases h1 : c = 92
    · rw [if_pos h1] at h
      cases l with
      | nil => cases h
      | cons d l => have := Option.some.inj (Option.some.inj h); rw [← this]; exact (List.suffix_cons d l).trans (List.suffix_cons c _)
    · rw [if_neg h1] at h
      by_cases h2 : c = 39
      · rw [if_pos h2] at h; exact (M_suf (Option.some.inj h)).trans (List.suffix_cons c l)
      · rw [if_neg h2] at h
        by_cases h3 : c = 34
        · rw [if_pos h3] at h; exact (M_suf (Option.some.inj h)).trans (List.suffix_cons c l)
        · rw [if_neg h3] at h
          by_cases h4 : hol (c :: l) = true
          · rw [if_pos h4] at h; exact hole_suf (Option.some.inj h)
          · rw [if_neg h4] at h; cases h
theorem Wd_suf {l r : Bytes} (h : Wd l = some r) : r <:+ l := by
  have key : ∀ (n : Nat) (l r : Bytes), l.length ≤ n → Wd l = some r → r <:+ l := by
    intro n
    induction n with
    | zero =>
      intro l r hl h
      have : l = [] := List.eq_nil_of_length_eq_zero (by omega)
      subst this
      rw [Wd_nil] at h; cases h; exact List.suffix_refl _
    | succ n ih =>
      intro l r hl h
      cases l with
      | nil => rw [Wd_nil] at h; cases h; exact List.suffix_refl _
      | cons c t =>
        by_cases hs : stops (c :: t) = true
        · rw [Wd_stop hs] at h; cases h; exact List.suffix_refl _
        · have hs : stops (c :: t) = false := by simpa using hs
          match hw : wh (c :: t) with
          | none =>
            rw [Wd_none hs hw] at h
            exact (ih t r (by simp at hl; omega) h).trans (List.suffix_cons c t)
          | some none => rw [Wd_some hs hw] at h; cases h
          | some (some r') =>
            rw [Wd_some hs hw] at h
            have h1 := wh_len hw
            exact (ih r' r (by simp at hl h1; omega) h).trans (wh_suf hw)
  exact key l.length l r (Nat.le_refl _) h
theorem bq (a b : UInt8) : (a == b) = (b == a) := by
  by_cases h : a = b
  · rw [h]
  · have h1 : (a == b) = false := beq_eq_false_iff_ne.2 h
    have h2 : (b == a) = false := beq_eq_false_iff_ne.2 (Ne.symm h)
    rw [h1, h2]
theorem hol_pre (l : Bytes) : hol l = (([36, 40] : Bytes).isPrefixOf l || ([36, 123] : Bytes).isPrefixOf l || ([96] : Bytes).isPrefixOf l) := by
  match l with
  | [] => rfl
  | [c] =>
    unfold hol
    simp only [List.isPrefixOf, List.head?, Bool.and_false, Bool.or_false, Bool.false_or, Bool.and_true]
    by_cases h : c = 96
    · subst h; decide
    · have h1 : (c == 96) = false := by simpa using h
      have h2 : ((96 : UInt8) == c) = false := by simpa using Ne.symm h
      rw [h1, h2]; simp
  | c :: d :: t =>
    unfold hol
    simp only [List.isPrefixOf, List.head?, Bool.and_true]
    have e1 := bq c 96
    have e2 := bq c 36
    have e3 : (some d == some (40 : UInt8)) = ((40 : UInt8) == d) := bq d 40
    have e4 : (some d == some (123 : UInt8)) = ((123 : UInt8) == d) := bq d 123
    rw [e1, e2, e3, e4]
    cases ((96 : UInt8) == c) <;> cases ((36 : UInt8) == c) <;> cases ((40 : UInt8) == d) <;> cases ((123 : UInt8) == d) <;> rfl
def opD : Nat → Bytes → Nat
  | 0, _ => 0
  | n + 1, l => if l.take (n + 1) ∈ opsL then n + 1 else opD n l
theorem opD_eq (l : Bytes) : opN l = opD (min 3 l.length) l := by
  rw [← opP_eq]
  unfold opP
  match hl : l.length with
  | 0 => simp [opD]
  | 1 => simp [opD]
  | 2 => simp [opD]
  | n + 3 =>
    have : min 3 (n + 3) = 3 := by omega
    rw [this]
    simp only [opD]
    simp [show 3 ≤ n + 3 by omega, show 2 ≤ n + 3 by omega, show 1 ≤ n + 3 by omega]


end Go.Proofs.YtlhkochpokhncaaDoor.Lexer
