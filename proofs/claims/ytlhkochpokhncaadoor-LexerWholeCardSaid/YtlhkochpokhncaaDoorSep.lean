/- A small separation logic over the model's World: heap predicates, separating conjunction, satisfaction at a world (more memory does no harm), and how a world's moves act on it. -/
import Derived.WalkKit
import Derived.WalkSpells
import Derived.WalkLawsBesides
import Derived.Deep.Draws
namespace Go.Proofs.YtlhkochpokhncaaDoor
open Go.RowKit

/-- A predicate on a part of the heap. -/
def Hp : Type := (Nat → Option Obj) → Prop

namespace Hp
/-- Two parts that share no block. -/
def sep (P Q : Hp) : Hp := fun h => ∃ h1 h2, (∀ k, h1 k = none ∨ h2 k = none) ∧ (∀ k, h k = (h1 k).or (h2 k)) ∧ P h1 ∧ Q h2
/-- Nothing. -/
def emp : Hp := fun h => ∀ k, h k = none
/-- One block. -/
def pts (b : Nat) (o : Obj) : Hp := fun h => ∀ k, h k = if k = b then some o else none
/-- A plain fact, without memory. -/
def fact (φ : Prop) : Hp := fun h => φ ∧ ∀ k, h k = none
/-- There is an x. -/
def ex {α : Sort _} (P : α → Hp) : Hp := fun h => ∃ x, P x h
/-- The first blocks of a world, as they are there. -/
def keep (W : World) : Hp := fun h => ∀ k, h k = W.heap[k]?

instance : Mul Hp := ⟨sep⟩
theorem mul_def (P Q : Hp) : P * Q = sep P Q := rfl

theorem sep_comm (P Q : Hp) : P * Q = Q * P := by
  have key : ∀ (A B : Hp) h, sep A B h → sep B A h := by
    rintro A B h ⟨h1, h2, hd, hh, p, q⟩
    refine ⟨h2, h1, fun k => (hd k).symm, fun k => ?_, q, p⟩
    rw [hh k]
    rcases hd k with e | e <;> rw [e] <;> cases h1 k <;> cases h2 k <;> simp
  funext h
  exact propext ⟨key _ _ h, key _ _ h⟩

theorem sep_assoc (P Q R : Hp) : P * Q * R = P * (Q * R) := by
  funext h
  refine propext ⟨?_, ?_⟩
  · rintro ⟨h12, h3, hd, hh, ⟨h1, h2, hd', hh', p, q⟩, r⟩
    refine ⟨h1, fun k => (h2 k).or (h3 k), fun k => ?_, fun k => ?_, p, h2, h3, fun k => ?_, fun k => rfl, q, r⟩
    · have a := hd k; have b := hd' k; have c := hh' k
      cases e1 : h1 k <;> cases e2 : h2 k <;> cases e3 : h3 k <;> simp_all
    · show h k = (h1 k).or ((h2 k).or (h3 k)); rw [hh k, hh' k, Option.or_assoc]
    · have a := hd k; have c := hh' k
      cases e1 : h1 k <;> cases e2 : h2 k <;> cases e3 : h3 k <;> simp_all
  · rintro ⟨h1, h23, hd, hh, p, h2, h3, hd', hh', q, r⟩
    refine ⟨fun k => (h1 k).or (h2 k), h3, fun k => ?_, fun k => ?_, ⟨h1, h2, fun k => ?_, fun k => rfl, p, q⟩, r⟩
    · have a := hd k; have b := hd' k; have c := hh' k
      cases e1 : h1 k <;> cases e2 : h2 k <;> cases e3 : h3 k <;> simp_all
    · show h k = ((h1 k).or (h2 k)).or (h3 k); rw [hh k, hh' k, Option.or_assoc]
    · have a := hd k; have c := hh' k
      cases e1 : h1 k <;> cases e2 : h2 k <;> cases e3 : h3 k <;> simp_all

theorem emp_sep (P : Hp) : emp * P = P := by
  funext h
  refine propext ⟨?_, fun p => ⟨fun _ => none, h, fun k => .inl rfl, fun k => rfl, fun _ => rfl, p⟩⟩
  rintro ⟨h1, h2, hd, hh, p, q⟩
  have : h = h2 := by funext k; rw [hh k, p k]; rfl
  rw [this]; exact q
theorem sep_emp (P : Hp) : P * emp = P := by rw [sep_comm]; exact emp_sep P

instance : Std.Associative (α := Hp) (· * ·) := ⟨sep_assoc⟩
instance : Std.Commutative (α := Hp) (· * ·) := ⟨sep_comm⟩

/-- One for each of a list. -/
def all {α : Type} (P : α → Hp) : List α → Hp
  | [] => emp
  | x :: l => P x * all P l
theorem all_append {α : Type} (P : α → Hp) (l m : List α) : all P (l ++ m) = all P l * all P m := by
  induction l with
  | nil => exact (emp_sep _).symm
  | cons x l ih => show P x * all P (l ++ m) = P x * all P l * all P m; rw [ih, sep_assoc]
theorem all_snoc {α : Type} (P : α → Hp) (l : List α) (x : α) : all P (l ++ [x]) = P x * all P l := by
  rw [all_append]; show all P l * (P x * emp) = _; rw [sep_emp, sep_comm]
theorem all_split {α : Type} (P : α → Hp) (l : List α) (i : Nat) (h : i < l.length) : all P l = P l[i] * (all P (l.take i) * all P (l.drop (i + 1))) := by
  conv => lhs; rw [← List.take_append_drop i l, List.drop_eq_getElem_cons h]
  rw [all_append]
  show all P (l.take i) * (P l[i] * all P (l.drop (i + 1))) = _
  ac_rfl
theorem all_set {α : Type} (P : α → Hp) (l : List α) (i : Nat) (h : i < l.length) (x : α) : all P (l.set i x) = P x * (all P (l.take i) * all P (l.drop (i + 1))) := by
  rw [all_split P (l.set i x) i (by simpa using h)]
  rw [List.getElem_set_self, List.take_set_of_le (Nat.le_refl i), List.drop_set_of_lt (Nat.lt_succ_self i)]

theorem fact_sep (φ : Prop) (P : Hp) (h : Nat → Option Obj) : (fact φ * P) h ↔ φ ∧ P h := by
  constructor
  · rintro ⟨h1, h2, hd, hh, ⟨f, p⟩, q⟩
    have : h = h2 := by funext k; rw [hh k, p k]; rfl
    exact ⟨f, this ▸ q⟩
  · rintro ⟨f, p⟩
    exact ⟨fun _ => none, h, fun k => .inl rfl, fun k => rfl, ⟨f, fun _ => rfl⟩, p⟩
theorem ex_sep {α : Sort _} (P : α → Hp) (Q : Hp) : ex P * Q = ex fun x => P x * Q := by
  funext h
  refine propext ⟨?_, ?_⟩
  · rintro ⟨h1, h2, hd, hh, ⟨x, p⟩, q⟩
    exact ⟨x, h1, h2, hd, hh, p, q⟩
  · rintro ⟨x, h1, h2, hd, hh, p, q⟩
    exact ⟨h1, h2, hd, hh, ⟨x, p⟩, q⟩
end Hp
open Hp

/-- A part of the world's heap is as P says. -/
def Sat (w : World) (P : Hp) : Prop := ∃ h : Nat → Option Obj, (∀ k o, h k = some o → w.heap[k]? = some o) ∧ P h

namespace Sat
variable {w w' : World} {P Q R : Hp}

theorem perm (h : Sat w P) (e : P = Q) : Sat w Q := e ▸ h
theorem of_eq (e : P = Q) (h : Sat w P) : Sat w Q := e ▸ h

theorem left (h : Sat w (P * Q)) : Sat w P := by
  obtain ⟨h, hw, h1, h2, hd, hh, p, q⟩ := h
  exact ⟨h1, fun k o e => hw k o (by rw [hh k, e]; rfl), p⟩
theorem right (h : Sat w (P * Q)) : Sat w Q := (h.perm (sep_comm P Q)).left

theorem mono (h : Sat w (P * R)) (i : ∀ h, P h → Q h) : Sat w (Q * R) := by
  obtain ⟨h, hw, h1, h2, hd, hh, p, q⟩ := h
  exact ⟨h, hw, h1, h2, hd, hh, i _ p, q⟩
theorem fact_out {φ : Prop} (h : Sat w (fact φ * P)) : φ ∧ Sat w P := by
  obtain ⟨h, hw, p⟩ := h
  have := (fact_sep φ P h).1 p
  exact ⟨this.1, h, hw, this.2⟩
theorem fact_in {φ : Prop} (f : φ) (h : Sat w P) : Sat w (fact φ * P) := by
  obtain ⟨h, hw, p⟩ := h
  exact ⟨h, hw, (fact_sep φ P h).2 ⟨f, p⟩⟩
theorem fact_iff {φ : Prop} : Sat w (fact φ * P) ↔ φ ∧ Sat w P := ⟨fact_out, fun h => fact_in h.1 h.2⟩
theorem ex_out {α : Sort _} {P : α → Hp} (h : Sat w (ex P * Q)) : ∃ x, Sat w (P x * Q) := by
  rw [ex_sep] at h
  obtain ⟨h, hw, x, p⟩ := h
  exact ⟨x, h, hw, p⟩
theorem ex_in {α : Sort _} {P : α → Hp} (x : α) (h : Sat w (P x * Q)) : Sat w (ex P * Q) := by
  rw [ex_sep]
  obtain ⟨h, hw, p⟩ := h
  exact ⟨h, hw, x, p⟩

/-- What one block holds. -/
theorem get {b : Nat} {o : Obj} (h : Sat w (pts b o * R)) : w.heap[b]? = some o := by
  obtain ⟨h, hw, p⟩ := h.left
  exact hw b o (by rw [p b]; simp)
theorem lt {b : Nat} {o : Obj} (h : Sat w (pts b o * R)) : b < w.heap.size := (Array.getElem?_eq_some_iff.1 h.get).1
theorem ne {a b : Nat} {o o' : Obj} (h : Sat w (pts a o * (pts b o' * R))) : a ≠ b := by
  rw [← sep_assoc] at h
  obtain ⟨h, hw, h1, h2, hd, hh, p, q⟩ := h.left
  rintro rfl
  have e1 := p a; have e2 := q a
  simp at e1 e2
  rcases hd a with e | e <;> simp_all

/-- Nothing that it speaks of turns. -/
theorem ext (h : Sat w P) (hb : ∀ k, k < w.heap.size → w'.heap[k]? = w.heap[k]?) : Sat w' P := by
  obtain ⟨h, hw, p⟩ := h
  refine ⟨h, fun k o e => ?_, p⟩
  have := hw k o e
  rw [hb k (Array.getElem?_eq_some_iff.1 this).1]; exact this
/-- One block is turned. -/
theorem put {b : Nat} {o o' : Obj} (h : Sat w (pts b o * R)) (h1 : w'.heap[b]? = some o') (h2 : ∀ k, k < w.heap.size → k ≠ b → w'.heap[k]? = w.heap[k]?) : Sat w' (pts b o' * R) := by
  obtain ⟨h, hw, ha, hc, hd, hh, p, q⟩ := h
  refine ⟨fun k => if k = b then some o' else hc k, fun k u e => ?_, fun k => if k = b then some o' else none, hc, fun k => ?_, fun k => ?_, fun k => rfl, q⟩
  · by_cases hk : k = b
    · subst hk; simp at e; subst e; exact h1
    · simp [hk] at e
      have : w.heap[k]? = some u := hw k u (by rw [hh k, p k]; simp [hk, e])
      rw [h2 k (Array.getElem?_eq_some_iff.1 this).1 hk]; exact this
  · by_cases hk : k = b
    · subst hk; right
      have := p k; simp at this
      rcases hd k with e | e
      · rw [this] at e; cases e
      · exact e
    · left; simp [hk]
  · by_cases hk : k = b
    · subst hk; simp
    · simp [hk]
/-- A new block. -/
theorem fresh {n : Nat} {o : Obj} (h : Sat w R) (hn : w.heap.size ≤ n) (h1 : w'.heap[n]? = some o) (h2 : ∀ k, k < w.heap.size → w'.heap[k]? = w.heap[k]?) : Sat w' (pts n o * R) := by
  obtain ⟨h, hw, q⟩ := h
  have hnone : h n = none := by
    cases e : h n with
    | none => rfl
    | some u => have := (Array.getElem?_eq_some_iff.1 (hw n u e)).1; omega
  refine ⟨fun k => if k = n then some o else h k, fun k u e => ?_, fun k => if k = n then some o else none, h, fun k => ?_, fun k => ?_, fun k => rfl, q⟩
  · by_cases hk : k = n
    · subst hk; simp at e; subst e; exact h1
    · simp [hk] at e
      have := hw k u e
      rw [h2 k (Array.getElem?_eq_some_iff.1 this).1]; exact this
  · by_cases hk : k = n
    · subst hk; exact .inr hnone
    · left; simp [hk]
  · by_cases hk : k = n
    · subst hk; simp
    · simp [hk]
theorem drew (h : Sat w P) : Sat w.drew P := h.ext fun _ _ => rfl
theorem drewN (h : Sat w P) (n : Nat) : Sat (w.drewN n) P := h.ext fun _ _ => rfl
theorem alloc (h : Sat w R) (o : Obj) : Sat (w.alloc o) (pts w.heap.size o * R) :=
  h.fresh (Nat.le_refl _) (heap_alloc_new w o) fun k hk => Below.heap_alloc w o k hk
theorem old (h : Sat w R) (o : Obj) : Sat (w.alloc o) R := h.ext fun k hk => Below.heap_alloc w o k hk
theorem below (h : Sat w P) (hb : Below w.heap.size w w') : Sat w' P := h.ext hb.block
theorem set {b i : Nat} {cs : Array Value} {T : TypeId} {fz : Nat × Nat} (h : Sat w (pts b (.cells cs T fz) * R)) (v : Value) : Sat (w.setCell ⟨b, i, none⟩ v) (pts b (.cells (cs.setIfInBounds i v) T fz) * R) :=
  h.put (by simp [World.setCell, Array.getElem?_modify, h.get]) fun k _ hk => Below.heap_setCell w ⟨b, i, none⟩ v k hk
theorem setL {b i : Nat} {l : List Value} {T : TypeId} {fz : Nat × Nat} (h : Sat w (pts b (.cells l.toArray T fz) * R)) (v : Value) : Sat (w.setCell ⟨b, i, none⟩ v) (pts b (.cells (l.set i v).toArray T fz) * R) := by
  have := h.set (i := i) v
  rw [List.setIfInBounds_toArray] at this
  exact this
theorem setRow {b : Nat} {cs cs' : Array Value} {T : TypeId} {fz : Nat × Nat} (h : Sat w (pts b (.cells cs T fz) * R)) : Sat (w.setRow b cs') (pts b (.cells cs' T fz) * R) :=
  h.put (setRow_heap w b cs cs' T fz h.get) fun k _ hk => setRow_other w b k cs' hk
/-- The whole heap as it stands. -/
theorem start (w : World) : Sat w (keep w) := ⟨fun k => w.heap[k]?, fun _ _ h => h, fun _ => rfl⟩
theorem kept {W : World} (h : Sat w (keep W)) : ∀ k, k < W.heap.size → w.heap[k]? = W.heap[k]? := by
  obtain ⟨h, hw, p⟩ := h
  intro k hk
  rw [Array.getElem?_eq_getElem hk]
  exact hw k _ (by rw [p k, Array.getElem?_eq_getElem hk])
end Sat

/-- The streams are as they were, no block is gone. -/
abbrev Ran (w w' : World) : Prop := Below 0 w w'
theorem Ran.drewN {a w : World} (h : Ran a w) (n : Nat) : Ran a (w.drewN n) := h.trans ⟨rfl, rfl, rfl, Nat.le_refl _, fun _ _ => rfl⟩
theorem Ran.set {a w : World} (h : Ran a w) (p : Addr) (v : Value) : Ran a (w.setCell p v) := Below.setCell h (Nat.zero_le _) v
theorem Ran.new {a w : World} (h : Ran a w) (o : Obj) : Ran a (w.alloc o) := Below.alloc h (Nat.zero_le _) o
theorem Ran.row {a w : World} (h : Ran a w) (b : Nat) (cs : Array Value) : Ran a (w.setRow b cs) := h.trans ⟨rfl, rfl, rfl, by simp [World.setRow], fun k hk => absurd hk (Nat.not_lt_zero _)⟩
theorem Ran.below {a w w' : World} (h : Ran a w) {B : Nat} (hb : Below B w w') : Ran a w' := Below.trans h (hb.mono (Nat.zero_le _))
/-- What a law needs in the end. -/
theorem Ran.whole {W w' : World} (h : Ran W w') {P : Hp} (hs : Sat w' (P * Hp.keep W)) : Below W.heap.size W w' :=
  ⟨h.os, h.tape, h.output, h.size, hs.right.kept⟩

theorem Ran.whole' {W w' : World} (h : Ran W w') (hs : Sat w' (Hp.keep W)) : Below W.heap.size W w' := ⟨h.os, h.tape, h.output, h.size, hs.kept⟩

/-- A block's cells, one by one. -/
theorem cell_at {w : World} {b : Nat} {cs : Array Value} {T : TypeId} {fz : Nat × Nat} (h : w.heap[b]? = some (.cells cs T fz)) (i : Nat) : w.cell? ⟨b, i, none⟩ = cs[i]? := by
  simp [World.cell?, h]
theorem free_at {w : World} {b : Nat} {cs : Array Value} {T : TypeId} (h : w.heap[b]? = some (.cells cs T (0, 0))) (i : Nat) : w.frozen? ⟨b, i, none⟩ = false := by
  simp [World.frozen?, h]
end Go.Proofs.YtlhkochpokhncaaDoor
