/- Which pattern a marked text is: plain. -/
import Derived.Test.YtjbdpahdhlmanaaGlP
namespace Go.Proofs.Ytjbdpahdhlmanaa.Globs
set_option linter.unusedVariables false

/-- A byte, and whether it was quoted. -/
structure Ch where
  b : UInt8
  q : Bool
deriving DecidableEq
instance : Inhabited Ch := ⟨⟨0, false⟩⟩
abbrev Rg := UInt8 × UInt8
def bareL : List Ch → List UInt8 → Bool
  | _, [] => true
  | [], _ :: _ => false
  | c :: t, b :: s => (c.b == b && !c.q) && bareL t s
def isLow (c : Ch) : Bool := !c.q && (decide (97 ≤ c.b) && decide (c.b ≤ 122))
def lowL (t : List Ch) : Nat := (t.takeWhile isLow).length
def namedN (t : List Ch) : Nat := 2 + lowL (t.drop 2)
def namedOk (t : List Ch) : Bool := bareL t [91, 58] && (!(namedN t == 2) && bareL (t.drop (namedN t)) [58, 93])
def nameOf (t : List Ch) : List UInt8 := ((t.take (namedN t)).drop 2).map (·.b)
def classL (n : List UInt8) : List Rg :=
  if n = [97, 108, 110, 117, 109] then [(48, 57), (65, 90), (97, 122)]
  else if n = [97, 108, 112, 104, 97] then [(65, 90), (97, 122)]
  else if n = [98, 108, 97, 110, 107] then [(9, 9), (32, 32)]
  else if n = [115, 112, 97, 99, 101] then [(9, 13), (32, 32)]
  else if n = [99, 110, 116, 114, 108] then [(0, 31), (127, 127)]
  else if n = [112, 114, 105, 110, 116] then [(32, 126)]
  else if n = [103, 114, 97, 112, 104] then [(33, 126)]
  else if n = [100, 105, 103, 105, 116] then [(48, 57)]
  else if n = [120, 100, 105, 103, 105, 116] then [(48, 57), (65, 70), (97, 102)]
  else if n = [108, 111, 119, 101, 114] then [(97, 122)]
  else if n = [117, 112, 112, 101, 114] then [(65, 90)]
  else if n = [112, 117, 110, 99, 116] then [(33, 47), (58, 64), (91, 96), (123, 126)]
  else []
/-- Is the next thing two bytes with a - between? -/
def isRng (t : List Ch) : Bool := decide (2 < t.length) && (bareL (t.drop 1) [45] && !bareL (t.drop 2) [93])
def rngTo (t : List Ch) : UInt8 := if isRng t then (t.getD 2 default).b else (t.getD 0 default).b
def rngN (t : List Ch) : Nat := if isRng t then 3 else 1
def thingL (t : List Ch) (path : Bool) : List Rg × Nat :=
  if namedOk t then (if classL (nameOf t) = [] then ([], 0) else (classL (nameOf t), namedN t + 2))
  else if path && ((t.getD 0 default).b == 47 || rngTo t == 47) then ([], 0)
  else if rngTo t < (t.getD 0 default).b then ([], rngN t)
  else ([((t.getD 0 default).b, rngTo t)], rngN t)
def groupF (path : Bool) (t : List Ch) : Nat → Nat → Bool → List Rg → Option (List Rg × Nat)
  | 0, _, _, _ => none
  | f + 1, n, first, acc =>
    if n < t.length then
      if !first && bareL (t.drop n) [93] then some (acc, n + 1)
      else if (thingL (t.drop n) path).2 = 0 then none
      else groupF path t f (n + (thingL (t.drop n) path).2) false (acc ++ (thingL (t.drop n) path).1)
    else none
def grpBeg (t : List Ch) : Nat := if bareL t [33] then 1 else 0
def groupR (t : List Ch) (path : Bool) : Option (List Rg × Nat) := groupF path t (t.length + 1) (grpBeg t) true []
def groupL (t : List Ch) (path : Bool) : Option (Itm × Nat) := (groupR t path).map fun x => (⟨4, 0, bareL t [33], x.1⟩, x.2)
def itemL (t : List Ch) (path : Bool) : Itm × Nat :=
  if (t.getD 0 default).q then (⟨1, (t.getD 0 default).b, false, []⟩, 1)
  else if (t.getD 0 default).b = 63 then (⟨2, 0, false, []⟩, 1)
  else if (t.getD 0 default).b = 42 then (⟨3, 0, false, []⟩, 1)
  else if (t.getD 0 default).b = 92 ∧ 1 < t.length then (⟨1, (t.getD 1 default).b, false, []⟩, 2)
  else if (t.getD 0 default).b = 91 then (match groupL (t.drop 1) path with
    | some (g, k) => (g, k + 1)
    | none => (⟨1, (t.getD 0 default).b, false, []⟩, 1))
  else (⟨1, (t.getD 0 default).b, false, []⟩, 1)
def starLast (out : List Itm) : Bool := match out.getLast? with
  | some x => x.kind == 3
  | none => false
def addI (out : List Itm) (x : Itm) : List Itm := if x.kind = 3 ∧ starLast out = true then out else out ++ [x]
def compF (path : Bool) : Nat → List Ch → List Itm → List Itm
  | 0, _, out => out
  | f + 1, t, out => if t = [] then out else compF path f (t.drop (itemL t path).2) (addI out (itemL t path).1)
def compileL (t : List Ch) (path : Bool) : List Itm := compF path t.length t []

theorem bareL_len {t : List Ch} {s : List UInt8} (h : bareL t s = true) : s.length ≤ t.length := by
  induction s generalizing t with
  | nil => simp
  | cons b s ih => cases t with
    | nil => simp [bareL] at h
    | cons c t => simp only [bareL, Bool.and_eq_true] at h; have := ih h.2; simp; omega
theorem lowL_le (t : List Ch) : lowL t ≤ t.length := by
  unfold lowL
  exact List.IsPrefix.length_le (List.takeWhile_prefix _)
theorem namedN_le {t : List Ch} (h : namedOk t = true) : namedN t + 2 ≤ t.length ∧ 3 ≤ namedN t := by
  unfold namedOk at h
  simp only [Bool.and_eq_true, Bool.not_eq_true', beq_eq_false_iff_ne] at h
  obtain ⟨h1, h2, h3⟩ := h
  have := bareL_len h3
  simp only [List.length_cons, List.length_nil, List.length_drop] at this
  unfold namedN at *
  omega
theorem thingL_le {t : List Ch} (path : Bool) (ht : 0 < t.length) : (thingL t path).2 ≤ t.length := by
  unfold thingL
  by_cases h : namedOk t = true
  · rw [if_pos h]
    have := namedN_le h
    split
    · simp
    · simp only; omega
  · rw [if_neg h]
    have hr : rngN t ≤ t.length := by
      unfold rngN; split
      · rename_i h; unfold isRng at h; simp only [Bool.and_eq_true, decide_eq_true_eq] at h; omega
      · omega
    split
    · simp
    · split <;> exact hr
theorem groupF_le {path : Bool} {t : List Ch} {f n : Nat} {first : Bool} {acc : List Rg} {x : List Rg × Nat} (h : groupF path t f n first acc = some x) : 0 < x.2 ∧ x.2 ≤ t.length := by
  induction f generalizing n first acc with
  | zero => simp [groupF] at h
  | succ f ih =>
    unfold groupF at h
    split at h
    · split at h
      · simp only [Option.some.injEq] at h; subst h; simp only; omega
      · split at h
        · cases h
        · exact ih h
    · cases h
theorem le_ite {c : Prop} [Decidable c] {a b : List Rg} (ha : a.length ≤ 4) (hb : b.length ≤ 4) : (if c then a else b).length ≤ 4 := by
  by_cases h : c
  · rw [if_pos h]; exact ha
  · rw [if_neg h]; exact hb
theorem classL_le (n : List UInt8) : (classL n).length ≤ 4 := by
  unfold classL
  iterate 12 refine le_ite (by decide) ?_
  decide
theorem thingL_rs (t : List Ch) (path : Bool) : (thingL t path).1.length ≤ 4 := by
  unfold thingL
  split
  · split
    · simp
    · exact classL_le _
  · split
    · simp
    · split <;> simp
theorem groupF_rs {path : Bool} {t : List Ch} {f n : Nat} {first : Bool} {acc : List Rg} {x : List Rg × Nat} (h : groupF path t f n first acc = some x) : x.1.length ≤ acc.length + 4 * f := by
  induction f generalizing n first acc with
  | zero => simp [groupF] at h
  | succ f ih =>
    unfold groupF at h
    split at h
    · split at h
      · simp only [Option.some.injEq] at h; subst h; simp only; omega
      · split at h
        · cases h
        · have := ih h
          have := thingL_rs (t.drop n) path
          rw [List.length_append] at *; omega
    · cases h
theorem itemL_n {t : List Ch} (path : Bool) (ht : 0 < t.length) : 1 ≤ (itemL t path).2 ∧ (itemL t path).2 ≤ t.length := by
  unfold itemL
  split
  · simp only; omega
  split
  · simp only; omega
  split
  · simp only; omega
  split
  · rename_i h; simp only; omega
  split
  · unfold groupL
    cases hg : groupR (t.drop 1) path with
    | none => simp only [Option.map_none]; omega
    | some x =>
      unfold groupR at hg
      have := groupF_le hg
      rw [List.length_drop] at this
      simp only [Option.map_some]; omega
  · simp only; omega
end Go.Proofs.Ytjbdpahdhlmanaa.Globs
