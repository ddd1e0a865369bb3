/- Mark, Undo, Marks, Len of a state's log walked. -/
import Derived.Test.YtlmjidandjemjaaGreatDoorStAw
namespace Go.Proofs.YtlmjidandjemjaaGreatDoor.State
open Go.RowKit Go.Proofs.YtlmjidandjemjaaGreatDoor Go.Proofs.YtlmjidandjemjaaGreatDoor.Hp Go.Proofs.YtlmjidandjemjaaGreatDoor.Undo
set_option linter.unusedVariables false
attribute [local go_sem] Oper.semAt_some

set_option maxRecDepth 100000 in
set_option maxHeartbeats 1000000 in
/-- Mark with no room. -/
theorem mark_full (lb : Nat) (most nest : Int) (fs : List Value) (ms : List Nat) (w : World) (R : Hp) (h : LogAt w lb most nest fs ms R) (hl : (ms.length : Int) = nest) :
    Calls Tryz.prog 27 #[.pointer (some ⟨lb, 0, none⟩)] w fun e w' => e = .returned (.tuple #[.int .i64 0, .int .i64 42]) ∧ LogAt w' lb most nest fs ms R ∧ Ran w w' := by
  obtain ⟨np, nc, mp, mc, HS⟩ := h
  obtain ⟨c0, c1, c2, c3, cz⟩ := log_cells HS.get
  have hne : ((ms.length : Int) == nest) = true := by rw [beq_iff_eq]; omega
  have HS0 := Lib.hid HS
  clear HS
  go_enter Tryz.func27, Tryz.ntmps27
  go_wp2_with fail
  go_quiet (fail)
  go_wp2_with fail
  go_ret2
  exact ⟨rfl, ⟨np, nc, mp, mc, HS0.out.drewN _⟩, Ran.drewN (Below.refl 0 w) _⟩
theorem sMark (K : Ctx) (n : Now) (w : World) (R : Hp) (hle : (n.ms.length : Int) ≤ K.nest) (hN : n.N ≤ 1000000) (hms : n.ms.length ≤ 1000000) (h : SAt K w n R) :
    Calls Tryz.prog 27 #[pp K.lb] w fun e w' => (∃ v : Int, e = .returned (.tuple #[.int .i64 v, .int .i64 (n.markM K.nest).1]) ∧ SAt K w' (n.markM K.nest).2 R) ∧ Ran w w' := by
  have hl := h.hist_le
  obtain ⟨hist, s, rws, h1, h2, h3, H⟩ := h
  have hh : n.hist.length = hist.length := by rw [h1, List.length_map]
  by_cases hc : (n.ms.length : Int) = K.nest
  · have he : n.markM K.nest = (42, n) := by unfold Now.markM; rw [if_pos hc]
    rw [he]
    obtain ⟨rs, B, g0, g1, g2, g3, HL⟩ := H
    refine (mark_full K.lb K.most K.nest _ n.ms w _ HL hc).mono ?_
    rintro e w' ⟨rfl, HS, hr⟩
    exact ⟨⟨0, rfl, hist, s, rws, h1, h2, h3, rs, B, g0, g1, g2, g3, HS⟩, hr⟩
  · have he : n.markM K.nest = (0, { n with ms := n.ms ++ [n.hist.length] }) := by unfold Now.markM; rw [if_neg hc]
    rw [he]
    refine (mark_things K.lb K.most K.nest hist n.ms n.N s w _ (by omega) (by omega) hms H).mono ?_
    rintro e w' ⟨⟨rfl, HS⟩, hr⟩
    exact ⟨⟨_, rfl, hist, s, rws, h1, h2, h3, by rw [hh]; exact HS⟩, hr⟩
theorem sUndo (K : Ctx) (n : Now) (w : World) (R : Hp) (hN : n.N ≤ 1000000) (hms : n.ms.length ≤ 1000000) (h : SAt K w n R) :
    Calls Tryz.prog 28 #[pp K.lb] w fun e w' => (e = .returned (.int .i64 n.undoM.1) ∧ SAt K w' n.undoM.2 R) ∧ Ran w w' := by
  have hl := h.hist_le
  obtain ⟨hist, s, rws, h1, h2, h3, H⟩ := h
  have hh : n.hist.length = hist.length := by rw [h1, List.length_map]
  unfold Now.undoM
  cases hr : n.ms.reverse with
  | nil =>
    have h0 : n.ms = [] := by simpa using hr
    rw [h0] at H
    refine (undonone_things K.lb K.most K.nest hist n.N s w _ H).mono ?_
    rintro e w' ⟨⟨rfl, HS⟩, hr⟩
    exact ⟨⟨rfl, hist, s, rws, h1, h2, h3, by rw [h0]; exact HS⟩, hr⟩
  | cons m l =>
    have h0 : n.ms = l.reverse ++ [m] := by
      have := congrArg List.reverse hr
      simpa using this
    have hlen : l.reverse.length ≤ 1000000 := by rw [h0, List.length_append] at hms; omega
    rw [h0] at H
    refine (undo_things K.lb K.most K.nest hist l.reverse m n.N s w _ (by omega) hlen (by unfold maxLen; omega) H).mono ?_
    rintro e w' ⟨⟨rfl, HS⟩, hr⟩
    refine ⟨⟨rfl, hist.take m, (hist ++ [s]).getD m s, rws, ?_, ?_, ?_, HS⟩, hr⟩
    · show n.hist.take m = _
      rw [h1, List.map_take]
    · show (n.hist ++ [n.s]).getD m n.s = _
      rw [h1, h2, List.getD_eq_getElem?_getD, List.getD_eq_getElem?_getD, show hist.map plain ++ [plain s] = (hist ++ [s]).map plain by rw [List.map_append]; rfl, List.getElem?_map]
      cases (hist ++ [s])[m]? <;> rfl
    · intro x hx
      rcases List.mem_cons.1 hx with rfl | hx
      · rw [List.getD_eq_getElem?_getD]
        cases hg : (hist ++ [s])[m]? with
        | none => exact h3 s List.mem_cons_self
        | some y =>
          have hy := List.mem_of_getElem? hg
          rcases List.mem_append.1 hy with hy | hy
          · exact h3 y (List.mem_cons_of_mem _ hy)
          · rw [List.mem_singleton] at hy; subst hy; exact h3 y List.mem_cons_self
      · exact h3 x (List.mem_cons_of_mem _ (List.mem_of_mem_take hx))
theorem sMarks (K : Ctx) (n : Now) (w : World) (R : Hp) (h : SAt K w n R) :
    Calls Tryz.prog 26 #[pp K.lb] w fun e w' => e = .returned (.int .i64 (n.ms.length : Int)) ∧ w = w' := by
  obtain ⟨hist, s, rws, h1, h2, h3, H⟩ := h
  exact len_things K.lb K.most K.nest hist n.ms n.N s w _ H
end Go.Proofs.YtlmjidandjemjaaGreatDoor.State
