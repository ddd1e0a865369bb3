/- Plain facts of a log's machine: bounds, what is refused changes nothing. -/
import Derived.Test.YtibgpkcklneloaaUnT
namespace Go.Proofs.Ytibgpkcklneloaa.Undo
open Go.RowKit Go.Proofs.Ytibgpkcklneloaa Go.Proofs.Ytibgpkcklneloaa.Hp
set_option linter.unusedVariables false

/-- The keys of a state are among those. -/
def Within (s : St) (l : List ByteArray) : Prop := ∀ k, (s.M k).isSome = true → k ∈ l
structure GoodM (most nest : Int) (l : List ByteArray) (n : Nat) (m : Mach) : Prop where
  notes : (m.hist.length : Int) ≤ most
  marks : (m.ms.length : Int) ≤ nest
  hist : ∀ s ∈ m.hist, Within s l
  now : Within m.s l
  len : m.hist.length ≤ n
theorem good_start (most nest : Int) (l : List ByteArray) (h1 : 0 ≤ most) (h2 : 0 ≤ nest) (c : ByteArray) : GoodM most nest l 0 ⟨[], [], ⟨fun _ => none, c⟩⟩ :=
  ⟨h1, h2, fun s h => (by cases h), fun k h => (by cases h), Nat.le_refl _⟩
theorem noted_good {most nest : Int} {l : List ByteArray} {n : Nat} {m : Mach} (h : GoodM most nest l n m) (s2 : St) (h2 : Within s2 l) : GoodM most nest l (n + 1) (noted most m s2).2 := by
  unfold noted tE tH
  by_cases c : m.ms = []
  · simp only [if_pos c, if_true]
    exact ⟨h.notes, h.marks, h.hist, h2, Nat.le_succ_of_le h.len⟩
  · simp only [if_neg c]
    by_cases d : (m.hist.length : Int) < most
    · simp only [if_pos d, if_true]
      refine ⟨by rw [List.length_append]; simp; omega, h.marks, ?_, h2, by rw [List.length_append]; have := h.len; simp; omega⟩
      intro s hs
      rcases List.mem_append.1 hs with hs | hs
      · exact h.hist s hs
      · rw [List.mem_singleton] at hs; subst hs; exact h.now
    · simp only [if_neg d, show ¬ (43 : Int) = 0 by decide, if_false]
      exact ⟨h.notes, h.marks, h.hist, h.now, Nat.le_succ_of_le h.len⟩
theorem step_good {most nest : Int} {l : List ByteArray} {n : Nat} {m : Mach} (h : GoodM most nest l n m) (o : Opr) (ho : o.k ∈ l) : GoodM most nest l (n + 1) (step most nest m o).2 := by
  have hw : GoodM most nest l (n + 1) m := ⟨h.notes, h.marks, h.hist, h.now, Nat.le_succ_of_le h.len⟩
  unfold step
  by_cases k0 : kind o.ask = 0
  · rw [if_pos k0]
    by_cases hl : (m.ms.length : Int) = nest
    · rw [if_pos hl]; exact hw
    · rw [if_neg hl]
      exact ⟨h.notes, by have := h.marks; rw [List.length_append]; simp; omega, h.hist, h.now, Nat.le_succ_of_le h.len⟩
  · rw [if_neg k0]
    by_cases k1 : kind o.ask = 1
    · rw [if_pos k1]
      by_cases hl : m.ms = []
      · rw [if_pos hl]; exact hw
      · rw [if_neg hl]
        refine ⟨?_, ?_, ?_, ?_, ?_⟩
        · have := h.notes; show ((m.hist.take _).length : Int) ≤ most; rw [List.length_take]; omega
        · have := h.marks; show ((m.ms.dropLast).length : Int) ≤ nest; rw [List.length_dropLast]; omega
        · exact fun s hs => h.hist s (List.mem_of_mem_take hs)
        · show Within ((m.hist ++ [m.s]).getD (m.ms.getLastD 0) m.s) l
          rw [List.getD_eq_getElem?_getD]
          cases e : (m.hist ++ [m.s])[m.ms.getLastD 0]? with
          | none => exact h.now
          | some s =>
            rcases List.mem_append.1 (List.mem_of_getElem? e) with hs | hs
            · exact h.hist s hs
            · rw [List.mem_singleton] at hs; subst hs; exact h.now
        · have := h.len; show (m.hist.take _).length ≤ n + 1; rw [List.length_take]; omega
    · rw [if_neg k1]
      by_cases k4 : kind o.ask = 4
      · rw [if_pos k4]
        by_cases hs : (m.s.M o.k).isSome = true
        · rw [if_pos hs]
          refine noted_good h _ fun k hk => h.now k ?_
          show (m.s.M k).isSome = true
          have hk' : (delM m.s.M o.k k).isSome = true := hk
          unfold delM at hk'
          by_cases c : k = o.k
          · rw [if_pos c] at hk'; cases hk'
          · rw [if_neg c] at hk'; exact hk'
        · rw [if_neg hs]; exact hw
      · rw [if_neg k4]
        by_cases k5 : kind o.ask = 5
        · rw [if_pos k5]; exact noted_good h _ h.now
        · rw [if_neg k5]
          refine noted_good h _ fun k hk => ?_
          have hk' : (putM m.s.M o.k o.v k).isSome = true := hk
          unfold putM at hk'
          by_cases c : k = o.k
          · rw [c]; exact ho
          · rw [if_neg c] at hk'; exact h.now k hk'
/-- What is refused changes nothing, and why it is refused. -/
theorem noted_cases (most : Int) (m : Mach) (s2 : St) : (noted most m s2).1 = (0, 0) ∨ ((noted most m s2) = ((0, 43), m) ∧ m.ms ≠ [] ∧ ¬ (m.hist.length : Int) < most) := by
  unfold noted tE tH
  by_cases c : m.ms = []
  · simp only [if_pos c, if_true]; exact .inl trivial
  · simp only [if_neg c]
    by_cases d : (m.hist.length : Int) < most
    · simp only [if_pos d, if_true]; exact .inl trivial
    · simp only [if_neg d, show ¬ (43 : Int) = 0 by decide, if_false]; exact .inr ⟨trivial, c, d⟩
theorem step_cases (most nest : Int) (m : Mach) (o : Opr) : (step most nest m o).1.2 = 0 ∨ ((step most nest m o) = ((0, 43), m) ∧ m.ms ≠ [] ∧ ¬ (m.hist.length : Int) < most) ∨ ((step most nest m o) = ((0, 42), m) ∧ (m.ms.length : Int) = nest) ∨ ((step most nest m o) = ((0, 1), m) ∧ m.ms = []) := by
  have hn : ∀ s2, (noted most m s2).1.2 = 0 ∨ ((noted most m s2) = ((0, 43), m) ∧ m.ms ≠ [] ∧ ¬ (m.hist.length : Int) < most) := fun s2 => (noted_cases most m s2).imp (fun h => by rw [h]) id
  have hn2 : ∀ s2, (noted most m s2).1.2 = 0 ∨ ((noted most m s2) = ((0, 43), m) ∧ m.ms ≠ [] ∧ ¬ (m.hist.length : Int) < most) ∨ ((noted most m s2) = ((0, 42), m) ∧ (m.ms.length : Int) = nest) ∨ ((noted most m s2) = ((0, 1), m) ∧ m.ms = []) := fun s2 => (hn s2).imp id Or.inl
  unfold step
  by_cases k0 : kind o.ask = 0
  · rw [if_pos k0]
    by_cases hl : (m.ms.length : Int) = nest
    · rw [if_pos hl]; exact .inr (.inr (.inl ⟨rfl, hl⟩))
    · rw [if_neg hl]; exact .inl rfl
  · rw [if_neg k0]
    by_cases k1 : kind o.ask = 1
    · rw [if_pos k1]
      by_cases hl : m.ms = []
      · rw [if_pos hl]; exact .inr (.inr (.inr ⟨rfl, hl⟩))
      · rw [if_neg hl]; exact .inl rfl
    · rw [if_neg k1]
      by_cases k4 : kind o.ask = 4
      · rw [if_pos k4]
        by_cases hs : (m.s.M o.k).isSome = true
        · rw [if_pos hs]; exact hn2 _
        · rw [if_neg hs]; exact .inl rfl
      · rw [if_neg k4]
        by_cases k5 : kind o.ask = 5
        · rw [if_pos k5]; exact hn2 _
        · rw [if_neg k5]; exact hn2 _
theorem nodup_len {α : Type} [DecidableEq α] : ∀ (a b : List α), a.Nodup → (∀ x ∈ a, x ∈ b) → a.length ≤ b.length := by
  intro a
  induction a with
  | nil => intro b _ _; exact Nat.zero_le _
  | cons x a ih =>
    intro b hn hs
    obtain ⟨h1, h2⟩ := List.nodup_cons.1 hn
    have hx := hs x (List.mem_cons_self ..)
    have := ih (b.erase x) h2 (fun y hy => (List.mem_erase_of_ne (fun e : y = x => h1 (e ▸ hy))).2 (hs y (List.mem_cons_of_mem _ hy)))
    rw [List.length_erase_of_mem hx] at this
    have hp : 0 < b.length := List.length_pos_of_mem hx
    rw [List.length_cons]; omega
theorem rising_nodup {ks : List ByteArray} (h : Rising ks) : ks.Nodup := h.imp fun {x y} h e => by subst e; exact List.lt_irrefl _ h
/-- A state's keys are few, and not too long. -/
theorem keys_few {s : St} {l : List ByteArray} (h : Within s l) (hs : ∀ k ∈ l, k.size ≤ maxLen) {ks : List ByteArray} (hk : KeysOf s.M ks) : ks.length ≤ l.length ∧ ∀ k ∈ ks, k.size ≤ maxLen :=
  ⟨nodup_len ks l (rising_nodup hk.1) fun k hx => h k ((hk.2 k).1 hx), fun k hx => hs k (h k ((hk.2 k).1 hx))⟩
theorem Things.idle {w : World} {lb mb cb : Nat} {most nest : Int} {hist : List St} {ms : List Nat} {N : Nat} {s : St} {R : Hp} (h : Things w lb mb cb most nest hist ms N s R) (hm : ms = []) : hist.length = 0 := by
  obtain ⟨rs, B, h0, _⟩ := h
  subst hm
  exact h0
end Go.Proofs.Ytibgpkcklneloaa.Undo
