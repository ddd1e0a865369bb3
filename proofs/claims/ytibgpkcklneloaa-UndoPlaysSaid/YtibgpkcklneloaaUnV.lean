/- Plain facts of a log's machine: what stands behind a mark, and that undoing it comes back to what was ahead of it. -/
import Derived.Test.YtibgpkcklneloaaUnU
namespace Go.Proofs.Ytibgpkcklneloaa.Undo
open Go.RowKit Go.Proofs.Ytibgpkcklneloaa Go.Proofs.Ytibgpkcklneloaa.Hp
set_option linter.unusedVariables false

theorem step_marks (most nest : Int) (m : Mach) (o : Opr) : (step most nest m o).2.ms.length ≤ m.ms.length + 1 := by
  unfold step noted
  by_cases k0 : kind o.ask = 0
  · rw [if_pos k0]; split <;> simp
  · rw [if_neg k0]
    by_cases k1 : kind o.ask = 1
    · rw [if_pos k1]; split <;> simp <;> omega
    · rw [if_neg k1]
      by_cases k4 : kind o.ask = 4
      · rw [if_pos k4]; split <;> simp
      · rw [if_neg k4]; split <;> simp
/-- A mark is opened. -/
def markM (m : Mach) : Mach := ⟨m.hist, m.ms ++ [m.hist.length], m.s⟩
/-- The last mark is undone. -/
def undoM (m : Mach) : Mach := ⟨m.hist.take (m.ms.getLastD 0), m.ms.dropLast, (m.hist ++ [m.s]).getD (m.ms.getLastD 0) m.s⟩
/-- Behind a mark that was opened at m0; rest: the marks behind it. -/
structure Behind (m0 : Mach) (rest : List Nat) (m : Mach) : Prop where
  ms : m.ms = m0.ms ++ m0.hist.length :: rest
  hist : m.hist.take m0.hist.length = m0.hist
  s : (m.hist ++ [m.s])[m0.hist.length]? = some m0.s
theorem Behind.le {m0 m : Mach} {rest : List Nat} (h : Behind m0 rest m) : m0.hist.length ≤ m.hist.length := by
  have := congrArg List.length h.hist
  rw [List.length_take] at this; omega
theorem behind_mark (m : Mach) : Behind m [] (markM m) :=
  ⟨rfl, List.take_length, by show (m.hist ++ [m.s])[m.hist.length]? = _; rw [List.getElem?_append_right (Nat.le_refl _), Nat.sub_self]; rfl⟩
theorem marked_mem : ∀ (l : List Nat) (n : Nat), Marked n l → ∀ x ∈ l, x ≤ n := by
  intro l
  induction l with
  | nil => intro n _ x hx; cases hx
  | cons m l ih =>
    intro n h x hx
    rcases List.mem_cons.1 hx with rfl | hx
    · exact h.1
    · exact Nat.le_trans (ih m h.2 x hx) h.1
theorem behind_noted {most : Int} {m0 m : Mach} {rest : List Nat} (h : Behind m0 rest m) (s2 : St) : Behind m0 rest (noted most m s2).2 := by
  have hle := h.le
  have hne : m.ms ≠ [] := by rw [h.ms]; simp
  unfold noted tE tH
  simp only [if_neg hne]
  by_cases d : (m.hist.length : Int) < most
  · simp only [if_pos d, if_true]
    refine ⟨h.ms, ?_, ?_⟩
    · show (m.hist ++ [m.s]).take _ = _
      rw [List.take_append_of_le_length hle]; exact h.hist
    · show ((m.hist ++ [m.s]) ++ [s2])[m0.hist.length]? = _
      rw [List.getElem?_append_left (by simp; omega)]; exact h.s
  · simp only [if_neg d, show ¬ (43 : Int) = 0 by decide, if_false]
    exact ⟨h.ms, h.hist, h.s⟩
theorem behind_undo {m0 m : Mach} {rest : List Nat} {r : Nat} (h : Behind m0 (rest ++ [r]) m) (hm : Marked m.hist.length m.ms.reverse) : Behind m0 rest (undoM m) := by
  have hms : m.ms = (m0.ms ++ m0.hist.length :: rest) ++ [r] := by rw [h.ms]; simp
  have hgl : m.ms.getLastD 0 = r := by rw [hms, List.getLastD_eq_getLast?, List.getLast?_concat]; rfl
  have hdl : m.ms.dropLast = m0.ms ++ m0.hist.length :: rest := by rw [hms, List.dropLast_concat]
  rw [hms] at hm
  obtain ⟨hr, hm2⟩ := marked_undo hm
  have h0r : m0.hist.length ≤ r := marked_mem _ _ hm2 _ (by simp)
  unfold undoM
  rw [hgl, hdl]
  refine ⟨rfl, ?_, ?_⟩
  · show (m.hist.take r).take m0.hist.length = _
    rw [List.take_take, Nat.min_eq_left h0r]; exact h.hist
  · show (m.hist.take r ++ [(m.hist ++ [m.s]).getD r m.s])[m0.hist.length]? = _
    have hs := h.s
    by_cases c : m0.hist.length < r
    · rw [List.getElem?_append_left (by rw [List.length_take]; omega), List.getElem?_take, if_pos c]
      rw [List.getElem?_append_left (by omega)] at hs; exact hs
    · have e : m0.hist.length = r := by omega
      rw [List.getElem?_append_right (by rw [List.length_take]; omega), List.length_take, Nat.min_eq_left hr, e, Nat.sub_self]
      rw [e] at hs
      rw [List.getD_eq_getElem?_getD, hs]; rfl
/-- Undone, all is as it was. -/
theorem behind_back {m0 m : Mach} (h : Behind m0 [] m) : undoM m = m0 := by
  have hgl : m.ms.getLastD 0 = m0.hist.length := by rw [h.ms, List.getLastD_eq_getLast?, List.getLast?_concat]; rfl
  have hdl : m.ms.dropLast = m0.ms := by rw [h.ms, List.dropLast_concat]
  unfold undoM
  rw [hgl, hdl, h.hist, List.getD_eq_getElem?_getD, h.s]
  rfl
theorem step_undo (most nest : Int) (m : Mach) (o : Opr) (h : kind o.ask = 1) (hne : m.ms ≠ []) : step most nest m o = ((0, 0), undoM m) := by
  unfold step
  rw [if_neg (by omega), if_pos h, if_neg hne]; rfl
theorem behind_step {most nest : Int} {m0 m : Mach} {rest : List Nat} (h : Behind m0 rest m) (hm : Marked m.hist.length m.ms.reverse) (o : Opr) (ho : kind o.ask = 1 → rest ≠ []) : ∃ rest', Behind m0 rest' (step most nest m o).2 := by
  by_cases k1 : kind o.ask = 1
  · have hne : m.ms ≠ [] := by rw [h.ms]; simp
    rw [step_undo most nest m o k1 hne]
    have hr := ho k1
    rw [← List.dropLast_concat_getLast hr] at h
    exact ⟨_, behind_undo h hm⟩
  · unfold step
    by_cases k0 : kind o.ask = 0
    · rw [if_pos k0]
      by_cases hl : (m.ms.length : Int) = nest
      · rw [if_pos hl]; exact ⟨rest, h⟩
      · rw [if_neg hl]
        refine ⟨rest ++ [m.hist.length], ?_, h.hist, h.s⟩
        show m.ms ++ [m.hist.length] = _
        rw [h.ms]; simp
    · rw [if_neg k0, if_neg k1]
      by_cases k4 : kind o.ask = 4
      · rw [if_pos k4]
        by_cases hs : (m.s.M o.k).isSome = true
        · rw [if_pos hs]; exact ⟨rest, behind_noted h _⟩
        · rw [if_neg hs]; exact ⟨rest, h⟩
      · rw [if_neg k4]
        by_cases k5 : kind o.ask = 5
        · rw [if_pos k5]; exact ⟨rest, behind_noted h _⟩
        · rw [if_neg k5]; exact ⟨rest, behind_noted h _⟩
theorem Things.marked {w : World} {lb mb cb : Nat} {most nest : Int} {hist : List St} {ms : List Nat} {N : Nat} {s : St} {R : Hp} (h : Things w lb mb cb most nest hist ms N s R) : Marked hist.length ms.reverse := by
  obtain ⟨rs, B, h0, _⟩ := h
  exact h0
theorem good_mark {most nest : Int} {l : List ByteArray} {n : Nat} {m : Mach} (h : GoodM most nest l n m) (hl : (m.ms.length : Int) < nest) : GoodM most nest l n (markM m) :=
  ⟨h.notes, by show ((m.ms ++ [m.hist.length]).length : Int) ≤ nest; rw [List.length_append]; simp; omega, h.hist, h.now, h.len⟩
theorem GoodM.more {most nest : Int} {l l' : List ByteArray} {n n' : Nat} {m : Mach} (h : GoodM most nest l n m) (hl : ∀ k ∈ l, k ∈ l') (hn : n ≤ n') : GoodM most nest l' n' m :=
  ⟨h.notes, h.marks, fun s hs k hk => hl k (h.hist s hs k hk), fun k hk => hl k (h.now k hk), Nat.le_trans h.len hn⟩
theorem good_undo {most nest : Int} {l : List ByteArray} {n : Nat} {m : Mach} (h : GoodM most nest l n m) : GoodM most nest l n (undoM m) := by
  refine ⟨?_, ?_, ?_, ?_, ?_⟩
  · have := h.notes; show ((m.hist.take _).length : Int) ≤ most; rw [List.length_take]; omega
  · have := h.marks; show ((m.ms.dropLast).length : Int) ≤ nest; rw [List.length_dropLast]; omega
  · exact fun s hs => h.hist s (List.mem_of_mem_take hs)
  · show Within ((m.hist ++ [m.s]).getD (m.ms.getLastD 0) m.s) l
    rw [List.getD_eq_getElem?_getD]
    cases e : (m.hist ++ [m.s])[m.ms.getLastD 0]? with
    | none => exact h.now
    | some s =>
      rcases List.mem_append.1 (List.mem_of_getElem? e) with hs | hs
      · exact h.hist s hs
      · rw [List.mem_singleton] at hs; subst hs; exact h.now
  · have := h.len; show (m.hist.take _).length ≤ n; rw [List.length_take]; omega
end Go.Proofs.Ytibgpkcklneloaa.Undo
