/- The arguments of a state: Clone, IndexFunc, given, Args, SetArgs, Shift, Cursor, SetCursor walked. -/
import Derived.Test.YtlmjidandjemjaaGreatDoorStTf
namespace Go.Proofs.YtlmjidandjemjaaGreatDoor.State
open Go.RowKit Go.Proofs.YtlmjidandjemjaaGreatDoor Go.Proofs.YtlmjidandjemjaaGreatDoor.Hp Go.Proofs.YtlmjidandjemjaaGreatDoor.Undo
set_option linter.unusedVariables false
attribute [local go_sem] Oper.semAt_some

/-- Texts that can be read where a slice points. -/
def StrsAt (w : World) (p : Option Addr) (l : List ByteArray) : Prop := l = [] ∨ ∃ b o, p = some ⟨b, o, none⟩ ∧ ∀ j (h : j < l.length), w.cell? ⟨b, o + j, none⟩ = some (.string l[j])
theorem StrsAt.below {w w' : World} {p : Option Addr} {l : List ByteArray} (h : StrsAt w p l) (hb : Below w.heap.size w w') : StrsAt w' p l := by
  rcases h with h | ⟨b, o, hp, h⟩
  · exact .inl h
  · refine .inr ⟨b, o, hp, fun j hj => ?_⟩
    have hc := h j hj
    rw [← hc]
    exact World.cell?_of_block (w := w) (hb.block b (World.block_lt_of_cell? _ _ hc))
theorem StrsAt.arr {w : World} {S : Hp} {p : Option Addr} {cap : Nat} {l : List ByteArray} (h : Sat w (arr 9 1 p l.length cap (l.map sv) * S)) : StrsAt w p l := by
  cases l with
  | nil => exact .inl rfl
  | cons x t =>
    have hl := h.arr_len
    obtain ⟨b, o, rfl⟩ := h.arr_addr (by simp at hl; omega)
    refine .inr ⟨b, o, rfl, fun j hj => ?_⟩
    have := h.arr_cell j (by rw [List.length_map]; exact hj)
    rw [this, List.getElem_map]
theorem SGt.reads {K : Ctx} {w : World} {n : Now} {g : GC.Giv} {rws : List Row1} {R : Hp} (h : SGt K w n g rws R) : StrsAt w g.p g.l := by
  obtain ⟨⟨h1, h2, h3⟩, _⟩ := h.facts
  rcases h3 with h3 | ⟨x, hx, b, o, k, hp, hq, hl⟩
  · exact .inl h3
  · obtain ⟨X, hX, _⟩ := h.frame
    obtain ⟨i, hi, hix⟩ := List.getElem_of_mem hx
    have hA := hX.perm (show _ = row1 x * (all row1 (rws.take i) * all row1 (rws.drop (i + 1)) * (X * R)) by rw [all_split row1 rws i hi, hix]; ac_rfl)
    have hS := StrsAt.arr hA
    rcases hS with hS | ⟨b', o', hp', hS⟩
    · left; rw [hl, hS]; simp
    · rw [hp] at hp'
      injection hp' with hp'
      injection hp' with e1 e2
      subst e1 e2
      refine .inr ⟨b, o + k, hq, fun j hj => ?_⟩
      have hj2 : k + j < x.l.length := by rw [hl, List.length_drop] at hj; omega
      have := hS (k + j) hj2
      rw [← Nat.add_assoc] at this
      rw [this]
      simp only [hl, List.getElem_drop]
theorem clone_calls (l : List ByteArray) (p : Option Addr) (cap : Nat) (w : World) (hr : StrsAt w p l) (hl : l.length ≤ 1000000) :
    Calls Tryz.prog 43 #[.slice p l.length cap] w fun e w' => (∃ p' cap', e = .returned (.slice p' l.length cap') ∧ ∀ S, Sat w S → Sat w' (arr 9 1 p' l.length cap' (l.map sv) * S)) ∧ Below w.heap.size w w' := by
  rcases hr with rfl | ⟨b, o, rfl, h⟩
  · cases p with
    | none =>
      refine (Tryz.slices_Clone_string_nil 0 cap w).mono ?_
      rintro e w' ⟨rfl, rfl⟩
      exact ⟨⟨none, 0, rfl, fun S hS => hS.nil_arr _ _⟩, Below.refl _ _⟩
    | some a =>
      refine (Tryz.slices_Clone_string_zero a cap w).mono ?_
      rintro e w' ⟨v, rfl, hrow, -, hb⟩
      refine ⟨?_, hb⟩
      obtain ⟨p', c', rfl, _⟩ := own_arr (Sat.start w) hb (Nat.le_refl _) hrow
      refine ⟨p', c', rfl, fun S hS => ?_⟩
      obtain ⟨p2, c2, e2, hA⟩ := own_arr hS hb (Nat.le_refl _) hrow
      injection e2 with e3 e4 e5
      subst e3 e5
      exact hA
  · refine (Tryz.slices_Clone_string b o l.length cap l w (Nat.le_refl _) (by omega) (fun j hj => by rw [h j hj, List.getD_eq_getElem?_getD, List.getElem?_eq_getElem hj]; rfl)).mono ?_
    rintro e w' ⟨v, rfl, hrow, -, hb⟩
    rw [List.take_length] at hrow
    refine ⟨?_, hb⟩
    obtain ⟨p', c', rfl, _⟩ := own_arr (Sat.start w) hb (Nat.le_refl _) hrow
    refine ⟨p', c', rfl, fun S hS => ?_⟩
    obtain ⟨p2, c2, e2, hA⟩ := own_arr hS hb (Nat.le_refl _) hrow
    injection e2 with e3 e4 e5
    subst e3 e5
    exact hA
theorem big_calls (x : ByteArray) (w : World) :
    Calls Tryz.prog 41 #[.string x] w fun e w' => e = .returned (.bool (decide (4096 < x.size))) ∧ w = w' := by
  have h : decide (4096 < x.size) = decide ((4096 : Int) < x.size) := by rw [decide_eq_decide]; omega
  rw [h]
  clear h
  go_enter Tryz.func41, Tryz.ntmps41
  go_wp2_with fail
  go_ret
  exact ⟨rfl, rfl⟩
end Go.Proofs.YtlmjidandjemjaaGreatDoor.State
