/- HandlesPlays, part 14 of 26: the texts GlT, joined by a program. -/
import Derived.Test.YtndjgeohkfenfaaGreatDoorPq13
import Derived.Test.YtndjgeohkfenfaaGreatDoorPq2
namespace Go.Proofs.YtndjgeohkfenfaaGreatDoor.Globs
open Go.RowKit Go.Proofs.YtndjgeohkfenfaaGreatDoor Go.Proofs.YtndjgeohkfenfaaGreatDoor.Hp
set_option linter.unusedVariables false

theorem infoBool : (Tryz.prog.info? 4).map (fun i => (i.zero, i.size, i.bytes)) = some (some (.bool false), 1, 1) := by kernel_rfl
abbrev boolsO (f : Nat → Bool) (n : Nat) : Obj := .cells (boolArr f n) 4 (0, 0)
abbrev ritO (x : Itm) (ra : Option Addr) (rc : Nat) : Obj := .cells #[.int .i64 x.kind, .int .u8 x.b.toNat, .bool x.neg, .slice ra x.rs.length rc] 111 (0, 0)
theorem bools_set {w : World} {Q : Hp} {b i n : Nat} {f g : Nat → Bool} (h : Sat w (pts b (boolsO f n) * Q)) (v : Bool) (hg : ∀ j, j < n → (if j = i then v else f j) = g j) : Sat (w.setCell ⟨b, i, none⟩ (.bool v)) (pts b (boolsO g n) * Q) := by
  have h2 := h.set (i := i) (.bool v)
  rw [boolArr_set, boolArr_congr hg] at h2
  exact h2
def EndsPost (hd : Nat → Bool) (p : List Itm) (s : ByteArray) (w : World) (e : Ending) (w' : World) : Prop :=
  ∃ b, e = .returned (.slice (some ⟨b, 0, none⟩) (s.size + 1) (s.size + 1)) ∧ w'.heap[b]? = some (boolsO (R hd p (bs s)) (s.size + 1)) ∧ Below w.heap.size w w'
def ERel (hd : Nat → Bool) (p : List Itm) (s : ByteArray) (w : World) (g : Nat) (av kv : Value) (wr : World) : Prop :=
  ∃ (k ab : Nat), k + g = p.length ∧ av = .slice (some ⟨ab, 0, none⟩) (s.size + 1) (s.size + 1) ∧ kv = .int .i64 (k : Int) ∧ Sat wr (pts ab (boolsO (R hd (p.take k) (bs s)) (s.size + 1)) * keep w) ∧ Ran w wr
def ERel2 (hd : Nat → Bool) (P : List Itm) (x : Itm) (ra : Option Addr) (rc ab nb xb : Nat) (s : ByteArray) (w : World) (g : Nat) (iv : Value) (wr : World) : Prop :=
  ∃ (i : Nat), i + g = s.size + 1 ∧ iv = .int .i64 (i : Int) ∧ Sat wr (pts ab (boolsO (R hd P (bs s)) (s.size + 1)) * (pts nb (boolsO (rowI hd P x (bs s) i) (s.size + 1)) * (pts xb (ritO x ra rc) * keep w))) ∧ Ran w wr
theorem row_start (hd : Nat → Bool) (P : List Itm) (x : Itm) (s : List UInt8) : (fun _ : Nat => false) = rowI hd P x s 0 := by
  funext j; unfold rowI; rw [if_neg (by omega)]; by_cases h : j = 0
  · subst h; rw [if_pos rfl]; rfl
  · rw [if_neg h]
theorem row_end (hd : Nat → Bool) (P : List Itm) (x : Itm) (s : List UInt8) (n j : Nat) (h : j < n) : rowI hd P x s n j = R hd (P ++ [x]) s j := by unfold rowI; rw [if_pos h]
/-- Place i is done, place i + 1 has what is carried. -/
theorem row_next {hd : Nat → Bool} {P : List Itm} {x : Itm} {s : List UInt8} {i n : Nat} {f : Nat → Bool} (h1 : f i = R hd (P ++ [x]) s i) (h2 : i + 1 < n → f (i + 1) = carry hd P x s (i + 1)) (h3 : ∀ j, j < n → j ≠ i → j ≠ i + 1 → f j = rowI hd P x s i j) : ∀ j, j < n → f j = rowI hd P x s (i + 1) j := by
  intro j hj
  unfold rowI
  by_cases a : j = i
  · subst a; rw [if_pos (by omega)]; exact h1
  · by_cases b : j = i + 1
    · subst b; rw [if_neg (by omega), if_pos rfl]; exact h2 hj
    · rw [h3 j hj a b]
      unfold rowI
      by_cases c : j < i
      · rw [if_pos c, if_pos (by omega)]
      · rw [if_neg c, if_neg a, if_neg (by omega), if_neg b]
theorem row_at (hd : Nat → Bool) (P : List Itm) (x : Itm) (s : List UInt8) (i : Nat) : rowI hd P x s i i = carry hd P x s i := by unfold rowI; rw [if_neg (by omega), if_pos rfl]
theorem row_after (hd : Nat → Bool) (P : List Itm) (x : Itm) (s : List UInt8) (i : Nat) : rowI hd P x s i (i + 1) = false := by unfold rowI; rw [if_neg (by omega), if_neg (by omega)]
theorem sat_same {w w' : World} {P : Hp} (h : Sat w P) (e : w'.heap = w.heap) : Sat w' P := h.ext fun k _ => by rw [e]
theorem ran_same {a w w' : World} (h : Ran a w) (e : w' = { w with drawn := w'.drawn }) : Ran a w' := by rw [e]; exact ⟨h.os, h.tape, h.output, h.size, h.block⟩
theorem bs_getD0 (s : ByteArray) (i : Nat) (h : i < s.size) : (bs s).getD i 0 = s[i] := by rw [List.getD_eq_getElem?_getD, bs_get s i h]; rfl
theorem row_one {hd : Nat → Bool} {P : List Itm} {x : Itm} {s : List UInt8} {i n : Nat} (v : Bool) (hv : v = R hd (P ++ [x]) s i) (hc : i + 1 < n → carry hd P x s (i + 1) = false) : ∀ j, j < n → (if j = i then v else rowI hd P x s i j) = rowI hd P x s (i + 1) j :=
  row_next (f := fun j => if j = i then v else rowI hd P x s i j) (by simp only [if_true]; exact hv) (fun h => by show (if i + 1 = i then v else rowI hd P x s i (i + 1)) = _; rw [if_neg (by omega), row_after, hc h]) (fun j _ h _ => by show (if j = i then v else _) = _; rw [if_neg h])
theorem row_two {hd : Nat → Bool} {P : List Itm} {x : Itm} {s : List UInt8} {i n : Nat} (v : Bool) (hv : v = R hd (P ++ [x]) s i) (hc : carry hd P x s (i + 1) = true) : ∀ j, j < n → (if j = i + 1 then true else if j = i then v else rowI hd P x s i j) = rowI hd P x s (i + 1) j :=
  row_next (f := fun j => if j = i + 1 then true else if j = i then v else rowI hd P x s i j) (by show (if i = i + 1 then true else if i = i then v else _) = _; rw [if_neg (by omega), if_pos rfl]; exact hv) (fun _ => by show (if i + 1 = i + 1 then true else _) = _; rw [if_pos rfl, hc]) (fun j _ h h2 => by show (if j = i + 1 then true else if j = i then v else _) = _; rw [if_neg h2, if_neg h])
theorem row_none {hd : Nat → Bool} {P : List Itm} {x : Itm} {s : List UInt8} {i n : Nat} (hv : carry hd P x s i = R hd (P ++ [x]) s i) (hc : i + 1 < n → carry hd P x s (i + 1) = false) : ∀ j, j < n → rowI hd P x s i j = rowI hd P x s (i + 1) j :=
  row_next (f := rowI hd P x s i) (by rw [row_at]; exact hv) (fun h => by rw [row_after, hc h]) (fun j _ _ _ => rfl)
theorem row_just {hd : Nat → Bool} {P : List Itm} {x : Itm} {s : List UInt8} {i n : Nat} (hv : carry hd P x s i = R hd (P ++ [x]) s i) (hc : carry hd P x s (i + 1) = true) : ∀ j, j < n → (if j = i + 1 then true else rowI hd P x s i j) = rowI hd P x s (i + 1) j :=
  row_next (f := fun j => if j = i + 1 then true else rowI hd P x s i j) (by show (if i = i + 1 then true else _) = _; rw [if_neg (by omega), row_at]; exact hv) (fun _ => by show (if i + 1 = i + 1 then true else _) = _; rw [if_pos rfl, hc]) (fun j _ _ h => by show (if j = i + 1 then true else _) = _; rw [if_neg h])
theorem rit_cells {w : World} {b : Nat} {x : Itm} {ra : Option Addr} {rc : Nat} (h : w.heap[b]? = some (ritO x ra rc)) :
    w.cell? ⟨b, 0, none⟩ = some (.int .i64 x.kind) ∧ w.cell? ⟨b, 1, none⟩ = some (.int .u8 x.b.toNat) ∧ w.cell? ⟨b, 2, none⟩ = some (.bool x.neg) ∧ w.cell? ⟨b, 3, none⟩ = some (.slice ra x.rs.length rc) :=
  ⟨by rw [cell_at h]; rfl, by rw [cell_at h]; rfl, by rw [cell_at h]; rfl, by rw [cell_at h]; rfl⟩
end Go.Proofs.YtndjgeohkfenfaaGreatDoor.Globs

