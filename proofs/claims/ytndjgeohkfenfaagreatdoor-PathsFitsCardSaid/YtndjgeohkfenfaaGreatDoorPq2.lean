/- HandlesPlays, part 2 of 26: the texts Ba, joined by a program. -/
import Derived.WalkKit
import Derived.WalkSpells
import Derived.WalkLawsBesides
import Derived.Deep.Draws
import Derived.Deep.AppendSrc
import Derived.Laws.CopyOwn
import Derived.Deep.RegionHeld3
import Derived.Laws.IdiomArrays
import Derived.RangeFuncNested
import Derived.RangeFuncBound
import Derived.RangeFuncCalls
import Derived.RangeFuncLeaves
import Derived.RangeFuncKeeps
namespace Go.Proofs.YtndjgeohkfenfaaGreatDoor
open Go.RowKit

/-- A predicate on a part of the heap. -/
def Hp : Type := (Nat → Option Obj) → Prop

namespace Hp
/-- Two parts that share no block. -/
def sep (P Q : Hp) : Hp := fun h => ∃ h1 h2, (∀ k, h1 k = none ∨ h2 k = none) ∧ (∀ k, h k = (h1 k).or (h2 k)) ∧ P h1 ∧ Q h2
/-- Nothing. -/
def emp : Hp := fun h => ∀ k, h k = none
/-- One block. -/
def pts (b : Nat) (o : Obj) : Hp := fun h => ∀ k, h k = if k = b then some o else none
/-- A plain fact, without memory. -/
def fact (φ : Prop) : Hp := fun h => φ ∧ ∀ k, h k = none
/-- There is an x. -/
def ex {α : Sort _} (P : α → Hp) : Hp := fun h => ∃ x, P x h
/-- The first blocks of a world, as they are there. -/
def keep (W : World) : Hp := fun h => ∀ k, h k = W.heap[k]?

instance : Mul Hp := ⟨sep⟩
theorem sep_comm (P Q : Hp) : P * Q = Q * P := by
  have key : ∀ (A B : Hp) h, sep A B h → sep B A h := by
    rintro A B h ⟨h1, h2, hd, hh, p, q⟩
    refine ⟨h2, h1, fun k => (hd k).symm, fun k => ?_, q, p⟩
    rw [hh k]
    rcases hd k with e | e <;> rw [e] <;> cases h1 k <;> cases h2 k <;> simp
  funext h
  exact propext ⟨key _ _ h, key _ _ h⟩

theorem sep_assoc (P Q R : Hp) : P * Q * R = P * (Q * R) := by
  funext h
  refine propext ⟨?_, ?_⟩
  · rintro ⟨h12, h3, hd, hh, ⟨h1, h2, hd', hh', p, q⟩, r⟩
    refine ⟨h1, fun k => (h2 k).or (h3 k), fun k => ?_, fun k => ?_, p, h2, h3, fun k => ?_, fun k => rfl, q, r⟩
    · have a := hd k; have b := hd' k; have c := hh' k
      cases e1 : h1 k <;> cases e2 : h2 k <;> cases e3 : h3 k <;> simp_all
    · show h k = (h1 k).or ((h2 k).or (h3 k)); rw [hh k, hh' k, Option.or_assoc]
    · have a := hd k; have c := hh' k
      cases e1 : h1 k <;> cases e2 : h2 k <;> cases e3 : h3 k <;> simp_all
  · rintro ⟨h1, h23, hd, hh, p, h2, h3, hd', hh', q, r⟩
    refine ⟨fun k => (h1 k).or (h2 k), h3, fun k => ?_, fun k => ?_, ⟨h1, h2, fun k => ?_, fun k => rfl, p, q⟩, r⟩
    · have a := hd k; have b := hd' k; have c := hh' k
      cases e1 : h1 k <;> cases e2 : h2 k <;> cases e3 : h3 k <;> simp_all
    · show h k = ((h1 k).or (h2 k)).or (h3 k); rw [hh k, hh' k, Option.or_assoc]
    · have a := hd k; have c := hh' k
      cases e1 : h1 k <;> cases e2 : h2 k <;> cases e3 : h3 k <;> simp_all

theorem emp_sep (P : Hp) : emp * P = P := by
  funext h
  refine propext ⟨?_, fun p => ⟨fun _ => none, h, fun k => .inl rfl, fun k => rfl, fun _ => rfl, p⟩⟩
  rintro ⟨h1, h2, hd, hh, p, q⟩
  have : h = h2 := by funext k; rw [hh k, p k]; rfl
  rw [this]; exact q
theorem sep_emp (P : Hp) : P * emp = P := by rw [sep_comm]; exact emp_sep P

instance : Std.Associative (α := Hp) (· * ·) := ⟨sep_assoc⟩
instance : Std.Commutative (α := Hp) (· * ·) := ⟨sep_comm⟩

/-- One for each of a list. -/
def all {α : Type} (P : α → Hp) : List α → Hp
  | [] => emp
  | x :: l => P x * all P l
theorem all_append {α : Type} (P : α → Hp) (l m : List α) : all P (l ++ m) = all P l * all P m := by
  induction l with
  | nil => exact (emp_sep _).symm
  | cons x l ih => show P x * all P (l ++ m) = P x * all P l * all P m; rw [ih, sep_assoc]
theorem all_split {α : Type} (P : α → Hp) (l : List α) (i : Nat) (h : i < l.length) : all P l = P l[i] * (all P (l.take i) * all P (l.drop (i + 1))) := by
  conv => lhs; rw [← List.take_append_drop i l, List.drop_eq_getElem_cons h]
  rw [all_append]
  show all P (l.take i) * (P l[i] * all P (l.drop (i + 1))) = _
  ac_rfl
theorem fact_sep (φ : Prop) (P : Hp) (h : Nat → Option Obj) : (fact φ * P) h ↔ φ ∧ P h := by
  constructor
  · rintro ⟨h1, h2, hd, hh, ⟨f, p⟩, q⟩
    have : h = h2 := by funext k; rw [hh k, p k]; rfl
    exact ⟨f, this ▸ q⟩
  · rintro ⟨f, p⟩
    exact ⟨fun _ => none, h, fun k => .inl rfl, fun k => rfl, ⟨f, fun _ => rfl⟩, p⟩
theorem ex_sep {α : Sort _} (P : α → Hp) (Q : Hp) : ex P * Q = ex fun x => P x * Q := by
  funext h
  refine propext ⟨?_, ?_⟩
  · rintro ⟨h1, h2, hd, hh, ⟨x, p⟩, q⟩
    exact ⟨x, h1, h2, hd, hh, p, q⟩
  · rintro ⟨x, h1, h2, hd, hh, p, q⟩
    exact ⟨h1, h2, hd, hh, ⟨x, p⟩, q⟩
end Hp
open Hp

/-- A part of the world's heap is as P says. -/
def Sat (w : World) (P : Hp) : Prop := ∃ h : Nat → Option Obj, (∀ k o, h k = some o → w.heap[k]? = some o) ∧ P h

namespace Sat
variable {w w' : World} {P Q R : Hp}

theorem perm (h : Sat w P) (e : P = Q) : Sat w Q := e ▸ h
theorem left (h : Sat w (P * Q)) : Sat w P := by
  obtain ⟨h, hw, h1, h2, hd, hh, p, q⟩ := h
  exact ⟨h1, fun k o e => hw k o (by rw [hh k, e]; rfl), p⟩
theorem right (h : Sat w (P * Q)) : Sat w Q := (h.perm (sep_comm P Q)).left

theorem mono (h : Sat w (P * R)) (i : ∀ h, P h → Q h) : Sat w (Q * R) := by
  obtain ⟨h, hw, h1, h2, hd, hh, p, q⟩ := h
  exact ⟨h, hw, h1, h2, hd, hh, i _ p, q⟩
theorem fact_out {φ : Prop} (h : Sat w (fact φ * P)) : φ ∧ Sat w P := by
  obtain ⟨h, hw, p⟩ := h
  have := (fact_sep φ P h).1 p
  exact ⟨this.1, h, hw, this.2⟩
theorem fact_in {φ : Prop} (f : φ) (h : Sat w P) : Sat w (fact φ * P) := by
  obtain ⟨h, hw, p⟩ := h
  exact ⟨h, hw, (fact_sep φ P h).2 ⟨f, p⟩⟩
theorem ex_out {α : Sort _} {P : α → Hp} (h : Sat w (ex P * Q)) : ∃ x, Sat w (P x * Q) := by
  rw [ex_sep] at h
  obtain ⟨h, hw, x, p⟩ := h
  exact ⟨x, h, hw, p⟩
theorem ex_in {α : Sort _} {P : α → Hp} (x : α) (h : Sat w (P x * Q)) : Sat w (ex P * Q) := by
  rw [ex_sep]
  obtain ⟨h, hw, p⟩ := h
  exact ⟨h, hw, x, p⟩

/-- What one block holds. -/
theorem get {b : Nat} {o : Obj} (h : Sat w (pts b o * R)) : w.heap[b]? = some o := by
  obtain ⟨h, hw, p⟩ := h.left
  exact hw b o (by rw [p b]; simp)
theorem lt {b : Nat} {o : Obj} (h : Sat w (pts b o * R)) : b < w.heap.size := (Array.getElem?_eq_some_iff.1 h.get).1
theorem ne {a b : Nat} {o o' : Obj} (h : Sat w (pts a o * (pts b o' * R))) : a ≠ b := by
  rw [← sep_assoc] at h
  obtain ⟨h, hw, h1, h2, hd, hh, p, q⟩ := h.left
  rintro rfl
  have e1 := p a; have e2 := q a
  simp at e1 e2
  rcases hd a with e | e <;> simp_all

/-- Nothing that it speaks of turns. -/
theorem ext (h : Sat w P) (hb : ∀ k, k < w.heap.size → w'.heap[k]? = w.heap[k]?) : Sat w' P := by
  obtain ⟨h, hw, p⟩ := h
  refine ⟨h, fun k o e => ?_, p⟩
  have := hw k o e
  rw [hb k (Array.getElem?_eq_some_iff.1 this).1]; exact this
/-- One block is turned. -/
theorem put {b : Nat} {o o' : Obj} (h : Sat w (pts b o * R)) (h1 : w'.heap[b]? = some o') (h2 : ∀ k, k < w.heap.size → k ≠ b → w'.heap[k]? = w.heap[k]?) : Sat w' (pts b o' * R) := by
  obtain ⟨h, hw, ha, hc, hd, hh, p, q⟩ := h
  refine ⟨fun k => if k = b then some o' else hc k, fun k u e => ?_, fun k => if k = b then some o' else none, hc, fun k => ?_, fun k => ?_, fun k => rfl, q⟩
  · by_cases hk : k = b
    · subst hk; simp at e; subst e; exact h1
    · simp [hk] at e
      have : w.heap[k]? = some u := hw k u (by rw [hh k, p k]; simp [hk, e])
      rw [h2 k (Array.getElem?_eq_some_iff.1 this).1 hk]; exact this
  · by_cases hk : k = b
    · subst hk; right
      have := p k; simp at this
      rcases hd k with e | e
      · rw [this] at e; cases e
      · exact e
    · left; simp [hk]
  · by_cases hk : k = b
    · subst hk; simp
    · simp [hk]
/-- A new block. -/
theorem fresh {n : Nat} {o : Obj} (h : Sat w R) (hn : w.heap.size ≤ n) (h1 : w'.heap[n]? = some o) (h2 : ∀ k, k < w.heap.size → w'.heap[k]? = w.heap[k]?) : Sat w' (pts n o * R) := by
  obtain ⟨h, hw, q⟩ := h
  have hnone : h n = none := by
    cases e : h n with
    | none => rfl
    | some u => have := (Array.getElem?_eq_some_iff.1 (hw n u e)).1; omega
  refine ⟨fun k => if k = n then some o else h k, fun k u e => ?_, fun k => if k = n then some o else none, h, fun k => ?_, fun k => ?_, fun k => rfl, q⟩
  · by_cases hk : k = n
    · subst hk; simp at e; subst e; exact h1
    · simp [hk] at e
      have := hw k u e
      rw [h2 k (Array.getElem?_eq_some_iff.1 this).1]; exact this
  · by_cases hk : k = n
    · subst hk; exact .inr hnone
    · left; simp [hk]
  · by_cases hk : k = n
    · subst hk; simp
    · simp [hk]
theorem drew (h : Sat w P) : Sat w.drew P := h.ext fun _ _ => rfl
theorem drewN (h : Sat w P) (n : Nat) : Sat (w.drewN n) P := h.ext fun _ _ => rfl
theorem alloc (h : Sat w R) (o : Obj) : Sat (w.alloc o) (pts w.heap.size o * R) :=
  h.fresh (Nat.le_refl _) (heap_alloc_new w o) fun k hk => Below.heap_alloc w o k hk
theorem old (h : Sat w R) (o : Obj) : Sat (w.alloc o) R := h.ext fun k hk => Below.heap_alloc w o k hk
theorem below (h : Sat w P) (hb : Below w.heap.size w w') : Sat w' P := h.ext hb.block
theorem set {b i : Nat} {cs : Array Value} {T : TypeId} {fz : Nat × Nat} (h : Sat w (pts b (.cells cs T fz) * R)) (v : Value) : Sat (w.setCell ⟨b, i, none⟩ v) (pts b (.cells (cs.setIfInBounds i v) T fz) * R) :=
  h.put (by simp [World.setCell, Array.getElem?_modify, h.get]) fun k _ hk => Below.heap_setCell w ⟨b, i, none⟩ v k hk
/-- The whole heap as it stands. -/
theorem start (w : World) : Sat w (keep w) := ⟨fun k => w.heap[k]?, fun _ _ h => h, fun _ => rfl⟩
theorem kept {W : World} (h : Sat w (keep W)) : ∀ k, k < W.heap.size → w.heap[k]? = W.heap[k]? := by
  obtain ⟨h, hw, p⟩ := h
  intro k hk
  rw [Array.getElem?_eq_getElem hk]
  exact hw k _ (by rw [p k, Array.getElem?_eq_getElem hk])
end Sat

/-- The streams are as they were, no block is gone. -/
abbrev Ran (w w' : World) : Prop := Below 0 w w'
theorem Ran.drewN {a w : World} (h : Ran a w) (n : Nat) : Ran a (w.drewN n) := h.trans ⟨rfl, rfl, rfl, Nat.le_refl _, fun _ _ => rfl⟩
theorem Ran.set {a w : World} (h : Ran a w) (p : Addr) (v : Value) : Ran a (w.setCell p v) := Below.setCell h (Nat.zero_le _) v
theorem Ran.new {a w : World} (h : Ran a w) (o : Obj) : Ran a (w.alloc o) := Below.alloc h (Nat.zero_le _) o
theorem Ran.below {a w w' : World} (h : Ran a w) {B : Nat} (hb : Below B w w') : Ran a w' := Below.trans h (hb.mono (Nat.zero_le _))
/-- What a law needs in the end. -/
theorem Ran.whole {W w' : World} (h : Ran W w') {P : Hp} (hs : Sat w' (P * Hp.keep W)) : Below W.heap.size W w' :=
  ⟨h.os, h.tape, h.output, h.size, hs.right.kept⟩

theorem Ran.whole' {W w' : World} (h : Ran W w') (hs : Sat w' (Hp.keep W)) : Below W.heap.size W w' := ⟨h.os, h.tape, h.output, h.size, hs.kept⟩

/-- A block's cells, one by one. -/
theorem cell_at {w : World} {b : Nat} {cs : Array Value} {T : TypeId} {fz : Nat × Nat} (h : w.heap[b]? = some (.cells cs T fz)) (i : Nat) : w.cell? ⟨b, i, none⟩ = cs[i]? := by
  simp [World.cell?, h]
theorem free_at {w : World} {b : Nat} {cs : Array Value} {T : TypeId} (h : w.heap[b]? = some (.cells cs T (0, 0))) (i : Nat) : w.frozen? ⟨b, i, none⟩ = false := by
  simp [World.frozen?, h]
end Go.Proofs.YtndjgeohkfenfaaGreatDoor
namespace Go.Proofs.YtndjgeohkfenfaaGreatDoor
open Go.RowKit Go.Proofs.YtndjgeohkfenfaaGreatDoor.Hp

/-- A slice of n elements of type E (sz cells each) and its array, which nobody else holds: xs are its cells. -/
def arr (E sz : Nat) (p : Option Addr) (n cap : Nat) (xs : List Value) : Hp :=
  match p with
  | none => fact (n = 0 ∧ cap = 0 ∧ xs = [])
  | some a => ex fun cur : Array Value => fact (a.spot = none ∧ n ≤ cap ∧ cap ≤ maxLen ∧ a.off + cap * sz ≤ cur.size ∧ xs.length = n * sz ∧ ∀ j, j < xs.length → cur[a.off + j]? = xs[j]?) * pts a.block (.cells cur E (0, 0))

theorem arr_nil (E sz : Nat) : arr E sz none 0 0 [] = emp := by
  funext h; exact propext ⟨fun x => x.2, fun x => ⟨⟨rfl, rfl, rfl⟩, x⟩⟩
theorem Sat.nil_arr {w : World} {R : Hp} (h : Sat w R) (E sz : Nat) : Sat w (arr E sz none 0 0 [] * R) := by
  rw [arr_nil, emp_sep]; exact h

theorem Sat.arr_none {w : World} {R : Hp} {E sz n cap : Nat} {xs : List Value} (h : Sat w (arr E sz none n cap xs * R)) : n = 0 ∧ cap = 0 ∧ xs = [] := (h.fact_out).1

theorem Sat.arr_some {w : World} {R : Hp} {E sz n cap : Nat} {a : Addr} {xs : List Value} (h : Sat w (arr E sz (some a) n cap xs * R)) :
    ∃ cur : Array Value, a.spot = none ∧ n ≤ cap ∧ cap ≤ maxLen ∧ a.off + cap * sz ≤ cur.size ∧ xs.length = n * sz ∧ (∀ j, j < xs.length → cur[a.off + j]? = xs[j]?) ∧ Sat w (pts a.block (.cells cur E (0, 0)) * R) := by
  obtain ⟨cur, h⟩ := Sat.ex_out h
  rw [sep_assoc] at h
  obtain ⟨⟨h1, h2, h3, h4, h5, h6⟩, h⟩ := h.fact_out
  exact ⟨cur, h1, h2, h3, h4, h5, h6, h⟩

theorem Sat.arr_mk {w : World} {R : Hp} {E sz n cap b o : Nat} {xs : List Value} {cur : Array Value} (h2 : n ≤ cap) (h3 : cap ≤ maxLen) (h4 : o + cap * sz ≤ cur.size) (h5 : xs.length = n * sz)
    (h6 : ∀ j, j < xs.length → cur[o + j]? = xs[j]?) (h : Sat w (pts b (.cells cur E (0, 0)) * R)) : Sat w (arr E sz (some ⟨b, o, none⟩) n cap xs * R) := by
  refine Sat.ex_in cur ?_
  rw [sep_assoc]
  exact h.fact_in ⟨rfl, h2, h3, h4, h5, h6⟩

theorem Sat.arr_len {w : World} {R : Hp} {E sz n cap : Nat} {p : Option Addr} {xs : List Value} (h : Sat w (arr E sz p n cap xs * R)) : xs.length = n * sz ∧ n ≤ cap ∧ cap ≤ maxLen := by
  cases p with
  | none => obtain ⟨rfl, rfl, rfl⟩ := h.arr_none; simp [maxLen]
  | some a => obtain ⟨cur, h1, h2, h3, h4, h5, h6, h⟩ := h.arr_some; exact ⟨h5, h2, h3⟩

theorem Sat.arr_addr {w : World} {R : Hp} {E sz n cap : Nat} {p : Option Addr} {xs : List Value} (h : Sat w (arr E sz p n cap xs * R)) (hn : 0 < cap) : ∃ b o, p = some ⟨b, o, none⟩ := by
  cases p with
  | none => obtain ⟨rfl, rfl, rfl⟩ := h.arr_none; omega
  | some a => obtain ⟨cur, h1, _⟩ := h.arr_some; obtain ⟨b, o, s⟩ := a; exact ⟨b, o, by simp at h1; rw [h1]⟩

/-- A cell of it. -/
theorem Sat.arr_cell {w : World} {R : Hp} {E sz n cap b o : Nat} {xs : List Value} (h : Sat w (arr E sz (some ⟨b, o, none⟩) n cap xs * R)) (j : Nat) (hj : j < xs.length) : w.cell? ⟨b, o + j, none⟩ = some xs[j] := by
  obtain ⟨cur, h1, h2, h3, h4, h5, h6, h⟩ := h.arr_some
  rw [cell_at h.get, h6 j hj, List.getElem?_eq_getElem hj]
theorem Sat.arr_free {w : World} {R : Hp} {E sz n cap b o : Nat} {xs : List Value} (h : Sat w (arr E sz (some ⟨b, o, none⟩) n cap xs * R)) (i : Nat) : w.frozen? ⟨b, i, none⟩ = false := by
  obtain ⟨cur, h1, h2, h3, h4, h5, h6, h⟩ := h.arr_some
  exact free_at h.get i

/-- One cell of it is written. -/
theorem Sat.arr_set {w : World} {R : Hp} {E sz n cap b o : Nat} {xs : List Value} (h : Sat w (arr E sz (some ⟨b, o, none⟩) n cap xs * R)) (j : Nat) (v : Value) : Sat (w.setCell ⟨b, o + j, none⟩ v) (arr E sz (some ⟨b, o, none⟩) n cap (xs.set j v) * R) := by
  obtain ⟨cur, h1, h2, h3, h4, h5, h6, h⟩ := h.arr_some
  simp at h4 h6 h
  refine Sat.arr_mk h2 h3 (by simpa using h4) (by simpa using h5) (fun k hk => ?_) (h.set (i := o + j) v)
  simp at hk
  have hks : n * sz ≤ cap * sz := Nat.mul_le_mul_right _ h2
  by_cases e : j = k
  · subst e; rw [Array.getElem?_setIfInBounds_self_of_lt (by omega), List.getElem?_set_self hk]
  · rw [Array.getElem?_setIfInBounds_ne (by omega), List.getElem?_set_ne e, h6 k hk]

theorem heap_setCells (b : Nat) : ∀ (vs : List Value) (o : Nat) (w : World) (cur : Array Value) (T : Nat) (fz : Nat × Nat), w.heap[b]? = some (.cells cur T fz) → o + vs.length ≤ cur.size →
    (∃ cur' : Array Value, (w.setCells b o vs).heap[b]? = some (.cells cur' T fz) ∧ cur'.size = cur.size ∧ ∀ k, cur'[k]? = if o ≤ k ∧ k < o + vs.length then vs[k - o]? else cur[k]?) ∧
      (∀ k, k ≠ b → (w.setCells b o vs).heap[k]? = w.heap[k]?) ∧ Ran w (w.setCells b o vs)
  | [], o, w, cur, T, fz, h, _ => ⟨⟨cur, h, rfl, fun k => by rw [if_neg (by simp)]⟩, fun _ _ => rfl, Below.refl _ _⟩
  | v :: vs, o, w, cur, T, fz, h, hl => by
    simp only [List.length_cons] at hl
    have hb : (w.setCell ⟨b, o, none⟩ v).heap[b]? = some (.cells (cur.setIfInBounds o v) T fz) := by simp [World.setCell, Array.getElem?_modify, h]
    obtain ⟨⟨cur', h1, h2, h3⟩, h4, h5⟩ := heap_setCells b vs (o + 1) (w.setCell ⟨b, o, none⟩ v) (cur.setIfInBounds o v) T fz hb (by simp; omega)
    refine ⟨⟨cur', h1, by simpa using h2, fun k => ?_⟩, fun k hk => (h4 k hk).trans (Below.heap_setCell w ⟨b, o, none⟩ v k hk), (Ran.set (Below.refl _ _) _ _).trans h5⟩
    rw [h3 k]
    by_cases e : k = o
    · subst e
      rw [if_neg (by omega), if_pos (by simp), Array.getElem?_setIfInBounds_self_of_lt (by omega)]
      simp
    · by_cases e2 : o + 1 ≤ k ∧ k < o + 1 + vs.length
      · rw [if_pos e2, if_pos (by simp; omega), show k - o = (k - (o + 1)) + 1 by omega]; simp
      · rw [if_neg e2, if_neg (by simp; omega), Array.getElem?_setIfInBounds_ne (by omega)]

section
variable {P : Program}
/-- append: whatever the source, in place or into a new array. -/
theorem run_append_arr {w : World} {R : Hp} (t tx ty e : TypeId) (i : TypeInfo) (z : Value) (sz bytes : Nat) (ht : P.underlying t = some (.slice e)) (hi : P.info? e = some i) (hz : i.zero = some z) (hsize : i.size = sz) (hby : i.bytes = bytes) (hzs : z.cells.size = sz)
    (p : Option Addr) (n cap : Nat) (xs : List Value) (h : Sat w (arr e sz p n cap xs * R)) (x : Value) (m : Nat) (news : List Value) (hs : Src P i.size tx x m news w) (hbytes : (n + m) * bytes ≤ 140737488355328) (h63 : n + m ≤ maxLen) :
    ∃ p' cap' w', (Builtin.append_ #[t, tx] ty #[.slice p n cap, x]).run P w = .ok (.slice p' (n + m) cap') w' ∧ Sat w' (arr e sz p' (n + m) cap' (xs ++ news) * R) ∧ Ran w w' ∧ (0 < m → p'.isSome = true) ∧ (p.isSome = true → p'.isSome = true) := by
  subst hsize; subst hby
  have hsm : n + m ≤ 9223372036854775807 := by unfold maxLen at h63; omega
  obtain ⟨hxl, hnc, hcm⟩ := h.arr_len
  by_cases hr : n + m ≤ cap
  · by_cases hc0 : cap = 0
    · obtain rfl : n = 0 := by omega
      obtain rfl : m = 0 := by omega
      subst hc0
      obtain rfl : xs = [] := List.eq_nil_of_length_eq_zero (by simpa using hxl)
      have hnl : news = [] := List.eq_nil_of_length_eq_zero (by simpa using hs.newsLen)
      subst hnl
      have hst : ∀ a : Addr, (storeCells a [] 0).run P w = .ok () w := fun a => by simp [storeCells]
      refine ⟨p, 0, w, ?_, by simpa using h, Below.refl _ _, by omega, id⟩
      cases p <;> rcases hs.kind with ⟨e', hk⟩ | hk <;> simp [Builtin.append_, run_underlying ht, run_underlying hk, sizeOf, typeInfo, hi, hs.len, hs.cells, hst]
    · obtain ⟨b, o, rfl⟩ := h.arr_addr (by omega)
      obtain ⟨cur, h1, h2, h3, h4, h5, h6, hh⟩ := h.arr_some
      simp at h4 h6 hh
      have hfit : (n + m) * i.size ≤ cap * i.size := Nat.mul_le_mul_right _ hr
      have hnl := hs.newsLen
      rw [Nat.add_mul] at hfit
      have hg := hh.get
      have hrun := run_append_room_src (P := P) w t tx ty e i ht hi b o n cap x m news hs hr
        (fun j hj => by rw [cell_at hg]; have : o + n * i.size + j < cur.size := by omega
                        simp [this]) (fun j hj => free_at hg _)
      obtain ⟨⟨cur', g1, g2, g3⟩, g4, g5⟩ := heap_setCells b news (o + n * i.size) w cur e (0, 0) hg (by omega)
      refine ⟨_, _, _, hrun, Sat.arr_mk hr hcm (by omega) (by rw [List.length_append, hxl, hnl, Nat.add_mul]) (fun j hj => ?_) (hh.put g1 fun k _ hk => g4 k hk), g5, fun _ => rfl, id⟩
      rw [List.length_append] at hj
      rw [g3]
      by_cases hj' : j < xs.length
      · rw [if_neg (by omega), List.getElem?_append_left hj', h6 j hj']
      · rw [if_pos (by omega), List.getElem?_append_right (by omega)]
        congr 1; omega
  · have hold : (Builtin.firstCells i.size n (.slice p n cap)).run P w.drew = .ok xs.toArray w.drew := by
      cases p with
      | none => obtain ⟨rfl, rfl, rfl⟩ := h.arr_none; exact run_firstCells_none w.drew i.size 0 0 0
      | some a =>
        obtain ⟨b, o, s⟩ := a
        obtain ⟨cur, h1, _⟩ := h.arr_some
        simp at h1; subst h1
        refine run_firstCells_some w.drew i.size n ⟨b, o, none⟩ n cap xs hxl fun j v hj => ?_
        have hj' : j < xs.length := (List.getElem?_eq_some_iff.1 hj).1
        rw [Addr.add_lit]
        show w.cell? _ = _
        rw [h.arr_cell j hj']
        rw [List.getElem?_eq_getElem hj'] at hj; exact hj
    have hfit : Builtin.nextslicecap (n + m) cap * i.bytes ≤ 281474976710656 := growslice_fits (by omega) hbytes
    have hrun := run_append_grow_src (P := P) w t tx ty e i z ht hi hz p n cap xs hold x m news hs (by omega) (by omega) hfit
    have hge := grownCap_ge w (n + m) cap e
    have hcm' := grownCap_le_maxLen w (n + m) cap e h63
    have hnl := hs.newsLen
    refine ⟨_, _, _, hrun, ?_, Ran.new (Below.drew (Below.refl _ _)) _, fun _ => rfl, fun _ => rfl⟩
    refine Sat.arr_mk hge hcm' ?_ (by rw [List.length_append, hxl, hnl, Nat.add_mul]) (fun j hj => ?_) (Sat.alloc (w := w.drew) h.right.drew _)
    · have hq : grownCap w (n + m) cap e * i.size = (n + m) * i.size + (grownCap w (n + m) cap e - (n + m)) * i.size := by rw [← Nat.add_mul]; congr 1; omega
      rw [Nat.add_mul] at hq
      simp only [Array.size_append, List.size_toArray, List.length_append, size_zeroCells, hzs]
      omega
    · rw [Nat.zero_add, Array.getElem?_append_left (by simpa using hj)]
      simp

theorem wp_append_arr {w : World} {R : Hp} {o : Oper} {a : Act} {K : Act → World → Prop} {Q : Exit → Act → World → Prop} (s x : Operand) (t tx : TypeId)
    (ho : o.op = .call { callee := .builtin .append, args := #[s, x], argTypes := #[t, tx] }) (e : TypeId) (i : TypeInfo) (z : Value) (sz bytes : Nat) (ht : P.underlying t = some (.slice e)) (hi : P.info? e = some i) (hz : i.zero = some z) (hsize : i.size = sz) (hby : i.bytes = bytes) (hzs : z.cells.size = sz)
    (p : Option Addr) (n cap : Nat) (xs : List Value) (hp : a.eval s = .slice p n cap) (h : Sat w (arr e sz p n cap xs * R)) (vx : Value) (hvx : a.eval x = vx) (m : Nat) (news : List Value) (hs : Src P i.size tx vx m news w) (hbytes : (n + m) * bytes ≤ 140737488355328) (h63 : n + m ≤ maxLen)
    (hk : ∀ p' cap' w', Sat w' (arr e sz p' (n + m) cap' (xs ++ news) * R) → Ran w w' → (0 < m → p'.isSome = true) → K (a.put o.dst (.slice p' (n + m) cap')) w') : o.wp P a w K Q := by
  obtain ⟨p', cap', w', hr, h1, h2, h3, _⟩ := run_append_arr (P := P) t tx o.type e i z sz bytes ht hi hz hsize hby hzs p n cap xs h vx m news hs hbytes h63
  unfold Oper.wp execOp
  simp only [ho, resolve, invoke, builtin, Sem.run_bind, Sem.run_pure, Result.andThen_ok, List.map_toArray, List.map_cons, List.map_nil, hp, hvx, hr]
  exact hk p' cap' w' h1 h2 h3

theorem wpList_append_arr {w : World} {R : Hp} {ops : Array Oper} {rest : List Oper} {o : Oper} {a : Act} {Q : Exit → Act → World → Prop} (hgd : o.guard = none) (s x : Operand) (t tx : TypeId)
    (ho : o.op = .call { callee := .builtin .append, args := #[s, x], argTypes := #[t, tx] }) (e : TypeId) (i : TypeInfo) (z : Value) (sz bytes : Nat) (ht : P.underlying t = some (.slice e)) (hi : P.info? e = some i) (hz : i.zero = some z) (hsize : i.size = sz) (hby : i.bytes = bytes) (hzs : z.cells.size = sz)
    (p : Option Addr) (n cap : Nat) (xs : List Value) (hp : a.eval s = .slice p n cap) (h : Sat w (arr e sz p n cap xs * R)) (vx : Value) (hvx : a.eval x = vx) (m : Nat) (news : List Value) (hs : Src P i.size tx vx m news w) (hbytes : (n + m) * bytes ≤ 140737488355328) (h63 : n + m ≤ maxLen)
    (hk : ∀ p' cap' w', Sat w' (arr e sz p' (n + m) cap' (xs ++ news) * R) → Ran w w' → (0 < m → p'.isSome = true) → wpList P ops Q rest (a.put o.dst (.slice p' (n + m) cap')) w') : wpList P ops Q (o :: rest) a w :=
  wpList_plain hgd fun _ hK => wp_append_arr s x t tx ho e i z sz bytes ht hi hz hsize hby hzs p n cap xs hp h vx hvx m news hs hbytes h63 fun p' cap' w' h1 h2 h3 => hK _ _ (hk p' cap' w' h1 h2 h3)

end
end Go.Proofs.YtndjgeohkfenfaaGreatDoor
namespace Go.Proofs.YtndjgeohkfenfaaGreatDoor
open Go.RowKit Go.Proofs.YtndjgeohkfenfaaGreatDoor.Hp

/-- All blocks of a world but a slice's. -/
def others (w : World) (p : Option Addr) : Hp := fun h => ∀ k, h k = match p with
  | none => w.heap[k]?
  | some a => if k = a.block then none else w.heap[k]?

theorem Sat.others {w : World} {R : Hp} {E sz n cap : Nat} {p : Option Addr} {xs : List Value} (h : Sat w (arr E sz p n cap xs * R)) : Sat w (arr E sz p n cap xs * others w p) := by
  cases p with
  | none =>
    have hf := h.fact_out
    exact Sat.fact_in hf.1 ⟨fun k => w.heap[k]?, fun _ _ h => h, fun _ => rfl⟩
  | some a =>
    obtain ⟨cur, h1, h2, h3, h4, h5, h6, hh⟩ := h.arr_some
    have hg := hh.get
    obtain ⟨b, o, s⟩ := a
    simp at h1 h4 h6 hg; subst h1
    refine Sat.arr_mk h2 h3 h4 h5 h6 ?_
    refine ⟨fun k => w.heap[k]?, fun _ _ h => h, fun k => if k = b then some (.cells cur E (0, 0)) else none, fun k => if k = b then none else w.heap[k]?, fun k => ?_, fun k => ?_, fun k => rfl, fun k => rfl⟩
    · by_cases e : k = b <;> simp [e]
    · by_cases e : k = b
      · subst e; simp [hg]
      · simp [e]
theorem Sat.others_kept {w w' : World} {P : Hp} {p : Option Addr} (h : Sat w' (P * Go.Proofs.YtndjgeohkfenfaaGreatDoor.others w p)) (k : Nat) (hk : k < w.heap.size) (hne : ∀ a, p = some a → k ≠ a.block) : w'.heap[k]? = w.heap[k]? := by
  obtain ⟨hh, hw, hp⟩ := h.right
  have := hp k
  rw [Array.getElem?_eq_getElem hk]
  refine hw k _ ?_
  rw [this]
  cases p with
  | none => simp [hk]
  | some a => simp [hne a rfl, hk]
theorem Sat.others_fresh {w w' : World} {E sz n cap : Nat} {a' : Addr} {xs : List Value} {p : Option Addr} (h : Sat w' (arr E sz (some a') n cap xs * Go.Proofs.YtndjgeohkfenfaaGreatDoor.others w p)) : (∃ a, p = some a ∧ a'.block = a.block) ∨ w.heap.size ≤ a'.block := by
  obtain ⟨cur, _, _, _, _, _, _, hh⟩ := h.arr_some
  rcases Nat.lt_or_ge a'.block w.heap.size with hlt | hge
  · left
    obtain ⟨hh, hw, h1, h2, hd, he, p1, p2⟩ := hh
    have e1 := p1 a'.block
    have e2 := p2 a'.block
    rw [if_pos rfl] at e1
    cases p with
    | none =>
      simp [hlt] at e2
      rcases hd a'.block with e | e
      · rw [e1] at e; cases e
      · rw [e2] at e; cases e
    | some a =>
      refine ⟨a, rfl, ?_⟩
      rcases Nat.decEq a'.block a.block with hne | heq
      · simp [hne, hlt] at e2
        rcases hd a'.block with e | e
        · rw [e1] at e; cases e
        · rw [e2] at e; cases e
      · exact heq
  · exact .inr hge
theorem Sat.keep_fresh {w w' : World} {E sz n cap : Nat} {a' : Addr} {xs : List Value} (h : Sat w' (arr E sz (some a') n cap xs * keep w)) : w.heap.size ≤ a'.block := by
  rcases Sat.others_fresh (p := none) h with ⟨a, e, _⟩ | h
  · cases e
  · exact h
/-- What an append to p leaves: all other blocks; the new slice lies where the old one lay, or in a new block. -/
def Moved (w w' : World) (p p' : Option Addr) : Prop :=
  (∀ k, k < w.heap.size → (∀ a, p = some a → k ≠ a.block) → w'.heap[k]? = w.heap[k]?) ∧ (∀ a', p' = some a' → (∃ a, p = some a ∧ a'.block = a.block) ∨ w.heap.size ≤ a'.block)

section
variable {P : Program}
theorem run_append_arr2 {w : World} {R : Hp} (t tx ty e : TypeId) (i : TypeInfo) (z : Value) (sz bytes : Nat) (ht : P.underlying t = some (.slice e)) (hi : P.info? e = some i) (hz : i.zero = some z) (hsize : i.size = sz) (hby : i.bytes = bytes) (hzs : z.cells.size = sz)
    (p : Option Addr) (n cap : Nat) (xs : List Value) (h : Sat w (arr e sz p n cap xs * R)) (x : Value) (m : Nat) (news : List Value) (hs : Src P i.size tx x m news w) (hbytes : (n + m) * bytes ≤ 140737488355328) (h63 : n + m ≤ maxLen) :
    ∃ p' cap' w', (Builtin.append_ #[t, tx] ty #[.slice p n cap, x]).run P w = .ok (.slice p' (n + m) cap') w' ∧ Sat w' (arr e sz p' (n + m) cap' (xs ++ news) * R) ∧ Ran w w' ∧ Moved w w' p p' := by
  obtain ⟨p1, c1, w1, r1, s1, g1, _, _⟩ := run_append_arr (P := P) t tx ty e i z sz bytes ht hi hz hsize hby hzs p n cap xs h x m news hs hbytes h63
  obtain ⟨p2, c2, w2, r2, s2, _, _, _⟩ := run_append_arr (P := P) t tx ty e i z sz bytes ht hi hz hsize hby hzs p n cap xs h.others x m news hs hbytes h63
  rw [r1] at r2
  injection r2 with e1 e2
  injection e1 with e3 e4 e5
  subst e2 e3 e5
  exact ⟨p1, c1, w1, r1, s1, g1, fun k hk hne => s2.others_kept k hk hne, fun a' ha => by subst ha; exact s2.others_fresh⟩
theorem wp_append_arr2 {w : World} {R : Hp} {o : Oper} {a : Act} {K : Act → World → Prop} {Q : Exit → Act → World → Prop} (s x : Operand) (t tx : TypeId)
    (ho : o.op = .call { callee := .builtin .append, args := #[s, x], argTypes := #[t, tx] }) (e : TypeId) (i : TypeInfo) (z : Value) (sz bytes : Nat) (ht : P.underlying t = some (.slice e)) (hi : P.info? e = some i) (hz : i.zero = some z) (hsize : i.size = sz) (hby : i.bytes = bytes) (hzs : z.cells.size = sz)
    (p : Option Addr) (n cap : Nat) (xs : List Value) (hp : a.eval s = .slice p n cap) (h : Sat w (arr e sz p n cap xs * R)) (vx : Value) (hvx : a.eval x = vx) (m : Nat) (news : List Value) (hs : Src P i.size tx vx m news w) (hbytes : (n + m) * bytes ≤ 140737488355328) (h63 : n + m ≤ maxLen)
    (hk : ∀ p' cap' w', Sat w' (arr e sz p' (n + m) cap' (xs ++ news) * R) → Ran w w' → Moved w w' p p' → K (a.put o.dst (.slice p' (n + m) cap')) w') : o.wp P a w K Q := by
  obtain ⟨p', cap', w', hr, h1, h2, h3⟩ := run_append_arr2 (P := P) t tx o.type e i z sz bytes ht hi hz hsize hby hzs p n cap xs h vx m news hs hbytes h63
  unfold Oper.wp execOp
  simp only [ho, resolve, invoke, builtin, Sem.run_bind, Sem.run_pure, Result.andThen_ok, List.map_toArray, List.map_cons, List.map_nil, hp, hvx, hr]
  exact hk p' cap' w' h1 h2 h3
theorem wpList_append_arr2 {w : World} {R : Hp} {ops : Array Oper} {rest : List Oper} {o : Oper} {a : Act} {Q : Exit → Act → World → Prop} (hgd : o.guard = none) (s x : Operand) (t tx : TypeId)
    (ho : o.op = .call { callee := .builtin .append, args := #[s, x], argTypes := #[t, tx] }) (e : TypeId) (i : TypeInfo) (z : Value) (sz bytes : Nat) (ht : P.underlying t = some (.slice e)) (hi : P.info? e = some i) (hz : i.zero = some z) (hsize : i.size = sz) (hby : i.bytes = bytes) (hzs : z.cells.size = sz)
    (p : Option Addr) (n cap : Nat) (xs : List Value) (hp : a.eval s = .slice p n cap) (h : Sat w (arr e sz p n cap xs * R)) (vx : Value) (hvx : a.eval x = vx) (m : Nat) (news : List Value) (hs : Src P i.size tx vx m news w) (hbytes : (n + m) * bytes ≤ 140737488355328) (h63 : n + m ≤ maxLen)
    (hk : ∀ p' cap' w', Sat w' (arr e sz p' (n + m) cap' (xs ++ news) * R) → Ran w w' → Moved w w' p p' → wpList P ops Q rest (a.put o.dst (.slice p' (n + m) cap')) w') : wpList P ops Q (o :: rest) a w :=
  wpList_plain hgd fun _ hK => wp_append_arr2 s x t tx ho e i z sz bytes ht hi hz hsize hby hzs p n cap xs hp h vx hvx m news hs hbytes h63 fun p' cap' w' h1 h2 h3 => hK _ _ (hk p' cap' w' h1 h2 h3)
end
end Go.Proofs.YtndjgeohkfenfaaGreatDoor
namespace Go.Proofs.YtndjgeohkfenfaaGreatDoor

section
variable {P : Program} {md : Region.Mode} {ops : Array Oper} {Q : Exit → Act → World → Prop} {S : World → Prop}

/-- May the operations come up in this order, those marked 'true' taken ahead of others, the others alone? -/
def checkPlan (md : Region.Mode) (ops : Array Oper) : List (Nat × Bool) → Array Bool → Bool
  | [], l => (Region.ready md ops l).isEmpty
  | (i, true) :: r, l => Region.noSelect ops && (Region.free md ops l i && ((Region.ready md ops l).contains i && checkPlan md ops r (l.setIfInBounds i true)))
  | (i, false) :: r, l => decide (Region.ready md ops l = [i]) && checkPlan md ops r (l.setIfInBounds i true)

/-- The plan's operations, written out. -/
def planOps (ops : Array Oper) (plan : List (Nat × Bool)) : List (Bool × Option Oper) := plan.map fun x => (x.2, ops[x.1]?)
def wpPlan (P : Program) (ops : Array Oper) (Q : Exit → Act → World → Prop) (S : World → Prop) : List (Bool × Option Oper) → Act → World → Prop
  | [], a, w => Q .normal a w
  | (_, none) :: _, _, _ => False
  | (true, some o) :: r, a, w => ∃ v, YieldsIf P ops S o v a ∧ wpPlan P ops Q S r (a.put o.dst v) w
  | (false, some o) :: r, a, w => ∀ K : Act → World → Prop, Shut (∀ a w, S w → (S w → wpPlan P ops Q S r a w) → K a w) → if Region.wanted o (yielded ops a.tmps) = true then Oper.wp P o a w K Q else K (a.put o.dst undef) w

theorem wpAnyH_of_plan (hQ : ∀ c a d v w, Q (.panic c) (Act.put a d v) w → Q (.panic c) a w) : ∀ (plan : List (Nat × Bool)) (fuel : Nat) (l : Array Bool) (a : Act) (w : World), checkPlan md ops plan l = true → plan.length ≤ fuel → S w → wpPlan P ops Q S (planOps ops plan) a w → wpAnyH P md ops Q S fuel l a w
  | [], fuel, l, a, w, hc, _, _, h => wpAnyH_done (by simpa [checkPlan] using hc) h fuel
  | (i, b) :: r, 0, l, a, w, _, hf, _, _ => by simp at hf
  | (i, b) :: r, fuel + 1, l, a, w, hc, hf, hS, h => by
    change wpPlan P ops Q S ((b, ops[i]?) :: planOps ops r) a w at h
    cases ho : ops[i]? with
    | none => rw [ho] at h; cases b <;> exact h.elim
    | some o =>
      rw [ho] at h
      cases b with
      | true =>
        obtain ⟨v, hy, h2⟩ := h
        simp only [checkPlan, Bool.and_eq_true] at hc
        obtain ⟨c1, c2, c3, c4⟩ := hc
        exact wpAnyH_take ho c1 c2 c3 (fun c a w => hQ c a _ _ w) hy hS (wpAnyH_of_plan hQ r fuel _ _ _ c4 (by simpa using hf) hS h2)
      | false =>
        simp only [checkPlan, Bool.and_eq_true, decide_eq_true_eq] at hc
        refine wpAnyH_ready hc.1 (by simp) (AllReadyH.cons ho (fun K hK => h K fun a' w' hS' hW => hK a' w' hS' fun hS2 => wpAnyH_of_plan hQ r fuel _ _ _ hc.2 (by simpa using hf) hS2 (hW hS2)) AllReadyH.nil)

theorem region_plan (plan : List (Nat × Bool)) {id : Nat} {a : Act} {w : World} (hm : P.follows .mixedOrders = true)
    (hc : checkPlan .any ops plan (Array.replicate ops.size false) = true) (hl : decide (plan.length ≤ ops.size) = true) (hS : S w.drew) (h : wpPlan P ops (NoPanic Q) S (planOps ops plan) a w.drew) : (Code.region id ops true).wp P Q a w :=
  wp_region_noPanic (wp_region_held_drew hm hS fun hS => wpAnyH_of_plan (fun _ _ _ _ _ h => h) plan _ _ _ _ hc (of_decide_eq_true hl) hS h)

theorem plan_yes {r : List (Bool × Option Oper)} {o : Oper} {v : Value} {a : Act} {w : World} (hw : Region.wanted o (yielded ops a.tmps) = true) (hv : ∀ w, S w → (execOp a.eval o).run P w = .ok (.value v) w)
    (h : wpPlan P ops Q S r (a.put o.dst v) w) : wpPlan P ops Q S ((true, some o) :: r) a w := ⟨v, .inl ⟨hw, hv⟩, h⟩
theorem plan_no {r : List (Bool × Option Oper)} {o : Oper} {a : Act} {w : World} (hw : Region.wanted o (yielded ops a.tmps) = false)
    (h : wpPlan P ops Q S r (a.put o.dst undef) w) : wpPlan P ops Q S ((true, some o) :: r) a w := ⟨undef, .inr ⟨hw, rfl⟩, h⟩
theorem plan_step {r : List (Bool × Option Oper)} {o : Oper} {a : Act} {w : World}
    (h : ∀ K : Act → World → Prop, Shut (∀ a w, S w → (S w → wpPlan P ops Q S r a w) → K a w) → if Region.wanted o (yielded ops a.tmps) = true then Oper.wp P o a w K Q else K (a.put o.dst undef) w) : wpPlan P ops Q S ((false, some o) :: r) a w := h
theorem plan_done {a : Act} {w : World} (h : Q .normal a w) : wpPlan P ops (NoPanic Q) S [] a w := NoPanic.normal h
end
end Go.Proofs.YtndjgeohkfenfaaGreatDoor
namespace Go.Proofs.YtndjgeohkfenfaaGreatDoor
open Go.ChangeShapes Go.WideShapes
variable {H : Type} {enc : TypeId × Value → H} {P : Program} {w : World} {base : Nat} {spare : Nat → Bool} {held : Bool}

theorem trod_int1 {t : TypeId} {k : IntKind} {c : Value} {n : Nat} {y : DataW H × List MemPlace} (ht : P.underlying t = some (.int k)) (h : DataW.trod enc P w base spare held n t [c] = some y) :
    ∃ z, c = .int k z ∧ y = (.lit (.int k z), []) ∧ (Lit.int k z).wf = true := by
  obtain ⟨z, h1, h2, h3⟩ := DataW.trod_int ht h
  simp at h1
  exact ⟨z, h1, h2, h3⟩
end Go.Proofs.YtndjgeohkfenfaaGreatDoor
namespace Go.Proofs.YtndjgeohkfenfaaGreatDoor
open Go.RowKit Hp
set_option linter.unusedVariables false

/-- A function that hands xs on, one by one, to a body that goes on each time; J: what the body holds; R: what the function reads. -/
def IterSat {α : Type} (P : Program) (n : Nat) (gf : Nat) (lb : Array Value) (encs : α → Array Value) (xs : List α) (R : Hp) : Prop :=
  ∀ (l : Nat) (J : List α → Hp) (W : World), Sat W (J [] * R) →
    (∀ pre x post (S : Hp) W1, xs = pre ++ x :: post → Sat W1 (J pre * S) → YieldAt Fence.wide (n - 1) P l (encs x) W1 fun e W' => e = .returned (.bool true) ∧ Sat W' (J (pre ++ [x]) * S) ∧ Ran W1 W') →
    CallsIn Fence.wide n P gf (#[.func (.yield l) #[] #[]] ++ lb) W fun e W' => (∃ v, e = .returned v) ∧ Sat W' (J xs * R) ∧ Ran W W'

theorem Ran.putObj {w w' : World} (h : Ran w w') (l : Nat) (o : Obj) : Ran w (w'.putObj l o) := h.trans ⟨rfl, rfl, rfl, by simp [World.putObj], fun k hk => absurd hk (Nat.not_lt_zero _)⟩
theorem Sat.putObj {w : World} {l : Nat} {o : Obj} {R : Hp} (h : Sat w (pts l o * R)) (o' : Obj) : Sat (w.putObj l o') (pts l o' * R) :=
  h.put (World.putObj_heap_same h.lt) fun k _ hk => World.putObj_heap_other hk

theorem wp_rangeFunc_sat {α : Type} {P : Program} {g : Operand} {ps : Array Tmp} {assign body : Code} {Q : Exit → Act → World → Prop} {a : Act} {w : World} {n : Nat}
    {gf : Nat} {lb : Array Value} (hg : a.eval g = .func (.func gf) #[] lb) (eg : ∀ args w, (callFunc gf args).run P w = .ok (.enter gf args) w)
    {encs : α → Array Value} {xs : List α} {R : Hp} (hit : IterSat P n gf lb encs xs R) (hps : ∀ x, (encs x).size = ps.size)
    (I : List α → Hp) (h0 : Sat w (I [] * R)) (a₁ : α → Act)
    (hassign : ∀ (l : Nat) (x : α) (W : World) (K : Act → World → Prop), K (a₁ x) W →
      assign.wpIn (Fence.wide.inRound l) (n - 1) P (Exit.then K (fun _ _ _ => False)) { tmps := (ps.zip (encs x)).foldl (fun t (p, v) => t.setIfInBounds p v) a.tmps, defers := [] } W)
    (hbody : ∀ (l : Nat) (pre : List α) (x : α) (post : List α) (S : Hp) (W : World), xs = pre ++ x :: post → Sat W (I pre * S) →
      body.wpIn (Fence.wide.inRound l) (n - 1) P (fun e _ W' => e = .normal ∧ Sat W' (I (pre ++ [x]) * S) ∧ Ran W W') (a₁ x) W)
    (hdone : ∀ (D : Nat) (W : World), Sat W (I xs * R * pts D (.deferred (some []))) → Ran w W → Q .normal { a with defers := { target := .collected D, args := #[] } :: a.defers } W) :
    (Code.rangeFunc g ps assign body).wp P Q a w := by
  refine (wpIn_wide (n := n + 1)).1 (wpIn_rangeFunc ?_)
  intro fn hfn
  obtain ⟨rec, hrec⟩ : ∃ rec : LoopState → Option Code → Loop, rec = fun st pe => { state := st, pending := pe, fn, tmps := a.tmps, params := ps, assign, body, defers := w.heap.size } := ⟨_, rfl⟩
  obtain ⟨W1, hW1⟩ : ∃ W1, (w.alloc (.deferred (some []))).alloc (.loop (rec .ready none)) = W1 := ⟨_, rfl⟩
  have hS1 : Sat W1 (pts (w.heap.size + 1) (.loop (rec .ready none)) * (pts w.heap.size (.deferred (some [])) * (I [] * R))) := by
    rw [← hW1]
    have := (h0.alloc (.deferred (some []))).alloc (.loop (rec .ready none))
    rwa [World.size_alloc] at this
  have hR1 : Ran w W1 := by rw [← hW1]; exact Ran.new (Ran.new (Below.refl _ _) _) _
  refine ⟨w.heap.size + 1, [{ target := .collected w.heap.size, args := #[] }], W1, { target := .fn (.func gf) lb, args := #[.func (.yield (w.heap.size + 1)) #[] #[]] }, W1, gf,
    #[.func (.yield (w.heap.size + 1)) #[] #[]] ++ lb, W1, ?_, ?_, ?_, ?_, ?_, ?_⟩
  · rw [← hW1, hrec]; exact run_enterLoop_outer _ _ _ _ _
  · simp only [resolve, hg]
    simp [go_sem]
  · intro f' hf'; exact trivial
  · simp [invoke, go_sem, eg]
  · intro h; cases h
  · refine (hit (w.heap.size + 1) (fun pre => I pre * (pts (w.heap.size + 1) (.loop (rec .ready none)) * pts w.heap.size (.deferred (some [])))) W1 (hS1.perm (by ac_rfl)) ?_).mono ?_
    · rintro pre x post S W hx hs
      have hl : Sat W (pts (w.heap.size + 1) (.loop (rec .ready none)) * (I pre * (pts w.heap.size (.deferred (some [])) * S))) := hs.perm (by ac_rfl)
      have hy := run_yield (P := P) (args := encs x) hl.get (by rw [hrec]; exact hps x)
      rw [hrec] at hy
      refine ⟨fn, _, assign, body, hy, roundIn_of_wpIn hfn (hassign _ x W _ ⟨_, run_beginRound hl.get (by rw [hrec]), ?_⟩)⟩
      have hl2 := hl.putObj (.loop { rec .ready none with state := .busy })
      have hr2 : Ran W (W.putObj (w.heap.size + 1) (.loop { rec .ready none with state := .busy })) := Ran.putObj (Below.refl _ _) _ _
      refine wpIn_mono (hbody _ pre x post _ _ hx (hl2.perm (show _ = I pre * (pts (w.heap.size + 1) (.loop { rec .ready none with state := .busy }) * (pts w.heap.size (.deferred (some [])) * S)) by ac_rfl))) ?_
      rintro e a3 W3 ⟨rfl, hs3, hr3⟩
      have hl3 := hs3.perm (show _ = pts (w.heap.size + 1) (.loop { rec .ready none with state := .busy }) * (I (pre ++ [x]) * (pts w.heap.size (.deferred (some [])) * S)) by ac_rfl)
      have hend := run_endRound (P := P) none hl3.get
      have hl4 := hl3.putObj (.loop (rec .ready none))
      rw [hrec] at hend hl4
      refine ⟨_, _, hend, rfl, ?_, Ran.putObj (Below.trans hr2 hr3) _ _⟩
      rw [hrec]
      exact hl4.perm (by ac_rfl)
    · rintro e W2 ⟨⟨v, rfl⟩, hs, hr⟩
      have hl : Sat W2 (pts (w.heap.size + 1) (.loop (rec .ready none)) * (I xs * R * pts w.heap.size (.deferred (some [])))) := hs.perm (by ac_rfl)
      have hend := run_endLoop (P := P) hl.get (by rw [hrec]; simp)
      have hl2 := (hl.putObj (.loop { rec .ready none with state := .exhausted })).right
      rw [hrec] at hend hl2
      exact ⟨none, _, hend, hdone w.heap.size _ hl2 (Ran.putObj (Below.trans hR1 hr) _ _)⟩

/-- A function whose body holds a range over a function: entered; left without a mark; left with one. -/
theorem calls_of_wp_marks {P : Program} {f : FuncId} {fn : Func} {c : Code} {args : Array Value} {w : World} {R : Ending → World → Prop} (hf : P.funcs[f]? = some fn) (hb : fn.body = some c)
    (h : c.wp P (bodyPostM Fence.wide 1 P fn R) { tmps := args ++ Array.replicate (fn.ntmps - args.size) undef, defers := [] } w) : Calls P f args w R :=
  (callsIn_wide (n := 1)).1 (callsIn_of_wp_marks hf hb trivial (wpIn_wide.2 h) rfl)
theorem marks_ret {P : Program} {n : Nat} {fn : Func} {R : Ending → World → Prop} {a : Act} {w : World} {v : Value} (hr : (results fn a.tmps).run P w = .ok v w) (hd : a.defers = []) (h : R (.returned v) w) : bodyPostM Fence.wide n P fn R .ret a w := by
  show LeavesInM _ _ _ _ _ _ a.defers _ _
  rw [hd]
  exact ⟨v, hr, h⟩
theorem marks_out {P : Program} {n : Nat} {fn : Func} {R : Ending → World → Prop} {a : Act} {w : World} {v : Value} {D : Nat} (hd : a.defers = [{ target := .collected D, args := #[] }]) (hK : w.heap[D]? = some (.deferred (some [])))
    (hr : (results fn a.tmps).run P (w.putObj D (.deferred none)) = .ok v (w.putObj D (.deferred none))) (h : R (.returned v) (w.putObj D (.deferred none))) : bodyPostM Fence.wide n P fn R .ret a w := by
  show LeavesInM _ _ _ _ _ _ a.defers _ _
  rw [hd]
  exact ⟨by simp, .inl ⟨D, _, rfl, run_takeDeferred hK, v, hr, h⟩⟩
end Go.Proofs.YtndjgeohkfenfaaGreatDoor
namespace Go.Proofs.YtndjgeohkfenfaaGreatDoor
open Go.RowKit Hp
set_option linter.unusedVariables false

end Go.Proofs.YtndjgeohkfenfaaGreatDoor
namespace Go.Proofs.YtndjgeohkfenfaaGreatDoor

inductive Plan where
  | nil
  | take (i : Nat) (r : Plan)
  | step (i : Nat) (r : Plan)
  | fork (i : Nat) (r : Plan) (j : Nat) (q : Plan)
def Plan.len : Plan → Nat
  | .nil => 0
  | .take _ r => r.len + 1
  | .step _ r => r.len + 1
  | .fork _ r _ q => max r.len q.len + 1
/-- The plan's operations, written out. -/
inductive PlanO where
  | nil
  | take (o : Option Oper) (r : PlanO)
  | step (o : Option Oper) (r : PlanO)
  | fork (o : Option Oper) (r : PlanO) (u : Option Oper) (q : PlanO)
def Plan.ops (ops : Array Oper) : Plan → PlanO
  | .nil => .nil
  | .take i r => .take ops[i]? (r.ops ops)
  | .step i r => .step ops[i]? (r.ops ops)
  | .fork i r j q => .fork ops[i]? (r.ops ops) ops[j]? (q.ops ops)

section
variable {P : Program} {md : Region.Mode} {ops : Array Oper} {Q : Exit → Act → World → Prop} {S : World → Prop}
end
end Go.Proofs.YtndjgeohkfenfaaGreatDoor

