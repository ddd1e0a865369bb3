/- awake walked: the chapter's examples. -/
import Derived.Test.YtlmjidandjemjaaGreatDoorStTk
import Derived.Test.YtlmjidandjemjaaGreatDoorStSs
import Derived.Test.YtlmjidandjemjaaGreatDoorStTf
namespace Go.Proofs.YtlmjidandjemjaaGreatDoor.State
open Go.RowKit Go.Proofs.YtlmjidandjemjaaGreatDoor Go.Proofs.YtlmjidandjemjaaGreatDoor.Hp Go.Proofs.YtlmjidandjemjaaGreatDoor.Undo
set_option linter.unusedVariables false
attribute [local go_sem] Oper.semAt_some

theorem keys_nil {α : Type} {ks : List ByteArray} (h : KeysOf (fun _ => (none : Option α)) ks) : ks = [] := by
  cases ks with
  | nil => rfl
  | cons k ks => have := (h.2 k).1 List.mem_cons_self; cases this
theorem keys_one {α : Type} {ks : List ByteArray} {k : ByteArray} {v : α} (h : KeysOf (putM (fun _ => none) k v) ks) : ks = [k] := by
  have hm : ∀ x, x ∈ ks ↔ x = k := fun x => by
    rw [h.2 x]; unfold putM
    by_cases c : x = k
    · rw [if_pos c]; simp [c]
    · rw [if_neg c]; simp [c]
  have hr := h.1
  cases ks with
  | nil => exact absurd ((hm k).2 rfl) (by simp)
  | cons a t =>
    have ha : a = k := (hm a).1 List.mem_cons_self
    subst ha
    cases t with
    | nil => rfl
    | cons b u =>
      have hb : b = a := (hm b).1 (by simp)
      subst hb
      have := (List.pairwise_cons.1 hr).1 b List.mem_cons_self
      exact absurd this (List.lt_irrefl _)
/-- Enter without an open mark: what does something is gone. -/
theorem enterL_free (most : Int) : ∀ (ks : List ByteArray) (n : Now), n.ms = [] → (Now.enterL most ks n).1 = 0 ∧ ((∀ k, k ∈ ks → ¬ ((n.s.T k).getD ⟨#[]⟩).size = 0 → (Now.enterL most ks n).2.s.T k = none) ∧ (∀ k, (k ∉ ks ∨ ((n.s.T k).getD ⟨#[]⟩).size = 0) → (Now.enterL most ks n).2.s.T k = n.s.T k)) ∧
    (Now.enterL most ks n).2.ms = [] ∧ (Now.enterL most ks n).2.N ≤ n.N + 2 * ks.length
  | [], n, h => ⟨rfl, ⟨fun k hk => absurd hk (by simp), fun k _ => rfl⟩, h, Nat.le_refl _⟩
  | k :: ks, n, h => by
    rw [enterL_cons]
    by_cases hz : ((n.s.T k).getD ⟨#[]⟩).size = 0
    · rw [if_pos hz]
      obtain ⟨h1, ⟨h2, h2'⟩, h3, h5⟩ := enterL_free most ks n h
      refine ⟨h1, ⟨fun x hx hn => ?_, fun x hx => ?_⟩, h3, by simp; omega⟩
      · rcases List.mem_cons.1 hx with rfl | hx
        · exact absurd hz hn
        · exact h2 x hx hn
      · rcases hx with hx | hx
        · exact h2' x (.inl fun h => hx (List.mem_cons_of_mem _ h))
        · exact h2' x (.inr hx)
    · rw [if_neg hz]
      have hsome : (n.s.T k).isSome = true := by
        cases hc : n.s.T k with
        | none => rw [hc] at hz; exact absurd rfl hz
        | some _ => rfl
      have hd : n.delT most k = n.put most { n.s with T := delM n.s.T k } := by
        unfold Now.delT
        rw [if_neg (by rw [hsome]; decide)]
      rw [hd]
      have he : tE most n.hist n.ms = 0 := by unfold tE; rw [if_pos h]
      have hp1 : (n.put most { n.s with T := delM n.s.T k }).1 = 0 := he
      have hp2 : (n.put most { n.s with T := delM n.s.T k }).2.s = { n.s with T := delM n.s.T k } := by
        show (if tE most n.hist n.ms = 0 then _ else _) = _
        rw [if_pos he]
      rw [if_pos hp1]
      obtain ⟨h1, ⟨h2, h2'⟩, h3, h5⟩ := enterL_free most ks (n.put most { n.s with T := delM n.s.T k }).2 h
      rw [hp2] at h2 h2'
      have hdel : ∀ x, delM n.s.T k x = if x = k then none else n.s.T x := fun x => rfl
      refine ⟨h1, ⟨fun x hx hn => ?_, fun x hx => ?_⟩, h3, ?_⟩
      · by_cases hxk : x = k
        · subst hxk
          rw [h2' x (.inr (by show ((delM n.s.T x x).getD ⟨#[]⟩).size = 0; rw [hdel, if_pos rfl]; rfl))]
          show delM n.s.T x x = none
          rw [hdel, if_pos rfl]
        · rcases List.mem_cons.1 hx with hx | hx
          · exact absurd hx hxk
          · exact h2 x hx (by show ¬ ((delM n.s.T k x).getD ⟨#[]⟩).size = 0; rw [hdel, if_neg hxk]; exact hn)
      · have hxk : x ≠ k := by
          rintro rfl
          rcases hx with hx | hx
          · exact hx List.mem_cons_self
          · exact hz hx
        have hs : delM n.s.T k x = n.s.T x := by rw [hdel, if_neg hxk]
        have := h2' x (by
          rcases hx with hx | hx
          · exact .inl fun h => hx (List.mem_cons_of_mem _ h)
          · exact .inr (by show ((delM n.s.T k x).getD ⟨#[]⟩).size = 0; rw [hs]; exact hx))
        rw [this]
        exact hs
      · have : (n.put most { n.s with T := delM n.s.T k }).2.N = n.N + 2 := rfl
        rw [this] at h5
        rw [List.length_cons]
        omega
/-- The row of arguments that awake hands in. -/
theorem row3 {w : World} {b : Nat} {x y z : ByteArray} (h : w.heap[b]? = some (.cells #[.string x, .string y, .string z] 9 (0, 0))) : StrsAt w (some ⟨b, 0, none⟩) [x, y, z] := by
  refine .inr ⟨b, 0, rfl, fun j hj => ?_⟩
  rw [Nat.zero_add, cell_at h]
  match j, hj with
  | 0, _ => rfl
  | 1, _ => rfl
  | 2, _ => rfl
theorem row1_cell {w : World} {S : Hp} {p : Option Addr} {cap : Nat} {x : ByteArray} (h : Sat w (arr 9 1 p 1 cap [.string x] * S)) : ∃ b o, p = some ⟨b, o, none⟩ ∧ w.cell? ⟨b, o, none⟩ = some (.string x) := by
  obtain ⟨b, o, rfl⟩ := h.arr_addr (by have := h.arr_len.2.1; omega)
  refine ⟨b, o, rfl, ?_⟩
  have := h.arr_cell 0 (by simp)
  simpa using this
end Go.Proofs.YtlmjidandjemjaaGreatDoor.State
