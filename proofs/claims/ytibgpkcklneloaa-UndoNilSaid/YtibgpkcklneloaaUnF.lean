/- A map from texts to numbers, in the words of the separation logic. -/
import Derived.Test.YtibgpkcklneloaaUnC
import Derived.Maps.OwnSet
import Derived.StringKeys
namespace Go.Proofs.Ytibgpkcklneloaa.Undo
open Go.RowKit Go.Maps Go.Proofs.Ytibgpkcklneloaa Go.Proofs.Ytibgpkcklneloaa.Hp
set_option linter.unusedVariables false

theorem strKey : Keyed Try.prog 9 := string_keyed Try.underlying9
theorem zeroInt (w : World) : (zeroValue 3).run Try.prog w = .ok (.int .i64 0) w := by kernel_rfl
abbrev kl (s : ByteArray) : Lit := .string s.data.toList
theorem key_of {s : ByteArray} (h : s.size ≤ maxLen) : keyOf Try.prog 9 (.string s) = some (kl s) := Go.WideMaps.keyOf_string_mk Try.underlying9 h
abbrev Owns (w : World) (b n : Nat) (D : DataW Unit) : Prop := w.ownsMap (H := Unit) Try.prog 9 (plainElem Try.prog 3) b n D
theorem owns_block {w w' : World} {b n : Nat} {D : DataW Unit} (h : Owns w b n D) (e : w'.heap[b]? = w.heap[b]?) : Owns w' b n D := by
  obtain ⟨es, clock, hb, r⟩ := h
  exact ⟨es, clock, e.trans hb, r⟩
/-- One block, a map that reads as D. -/
def mapD (b n : Nat) (D : DataW Unit) : Hp := ex fun o : Obj => fact (∀ w : World, w.heap[b]? = some o → Owns w b n D) * pts b o
theorem mapD_out {w : World} {b n : Nat} {D : DataW Unit} {S : Hp} (h : Sat w (mapD b n D * S)) : Owns w b n D ∧ ∃ o, Sat w (pts b o * S) := by
  unfold mapD at h
  obtain ⟨o, h⟩ := h.ex_out
  rw [sep_assoc] at h
  obtain ⟨hf, h⟩ := h.fact_out
  exact ⟨hf w h.get, o, h⟩
theorem mapD_in {w : World} {b n : Nat} {D : DataW Unit} {S : Hp} {o : Obj} (h : Sat w (pts b o * S)) (hO : Owns w b n D) : Sat w (mapD b n D * S) := by
  unfold mapD
  refine Sat.ex_in o ?_
  rw [sep_assoc]
  exact h.fact_in fun w' hw' => owns_block hO (hw'.trans h.get.symm)
theorem mapD_turned {w w' : World} {b n n' : Nat} {D D' : DataW Unit} {S : Hp} (h : Sat w (mapD b n D * S)) (ht : w.grownBy w' (some b)) (hO : Owns w' b n' D') : Sat w' (mapD b n' D' * S) := by
  obtain ⟨_, o, hs⟩ := mapD_out h
  obtain ⟨es, clock, hb, r⟩ := hO
  exact mapD_in (hs.put hb fun k hk hne => ht.block k hk (fun e => hne (by simpa using e))) ⟨es, clock, hb, r⟩
/-- What the datum says of each key. -/
def Reads (D : DataW Unit) (M : ByteArray → Option Int) : Prop := IsMap D ∧ ∀ s : ByteArray, Maps.has D (kl s) = (M s).isSome ∧ D.atKey (kl s) (.lit (.int .i64 0)) = .lit (.int .i64 ((M s).getD 0))
def mapHp (b n : Nat) (M : ByteArray → Option Int) : Hp := ex fun D : DataW Unit => fact (Reads D M) * mapD b n D
def putM (M : ByteArray → Option Int) (s : ByteArray) (c : Int) : ByteArray → Option Int := fun t => if t = s then some c else M t
def delM (M : ByteArray → Option Int) (s : ByteArray) : ByteArray → Option Int := fun t => if t = s then none else M t
theorem kl_ne {s t : ByteArray} (h : t ≠ s) : kl t ≠ kl s := by
  intro e
  apply h
  simp only [Lit.string.injEq] at e
  cases t; cases s
  simp at e
  rw [e]
theorem reads_put {D : DataW Unit} {M : ByteArray → Option Int} (h : Reads D M) (s : ByteArray) (hk : WideAt.IsKeyLit (kl s)) (c : Int) : Reads (D.put (kl s) (.lit (.int .i64 c))) (putM M s c) := by
  refine ⟨h.1.put _ _, fun t => ?_⟩
  unfold putM
  by_cases e : t = s
  · subst e; rw [if_pos rfl]; exact ⟨has_put_same h.1 hk _, atKey_put_same h.1 hk _ _⟩
  · rw [if_neg e, has_put_other (kl_ne e), atKey_put_other (kl_ne e)]; exact h.2 t
theorem reads_del {D : DataW Unit} {M : ByteArray → Option Int} (h : Reads D M) (s : ByteArray) : Reads (D.del (kl s)) (delM M s) := by
  refine ⟨h.1.del _, fun t => ?_⟩
  unfold delM
  by_cases e : t = s
  · subst e; rw [if_pos rfl]; exact ⟨has_del_same, atKey_del_same _⟩
  · rw [if_neg e, has_del_other (kl_ne e), atKey_del_other (kl_ne e)]; exact h.2 t
theorem mapHp_out {w : World} {b n : Nat} {M : ByteArray → Option Int} {S : Hp} (h : Sat w (mapHp b n M * S)) : ∃ D, Reads D M ∧ Sat w (mapD b n D * S) := by
  unfold mapHp at h
  obtain ⟨D, h⟩ := h.ex_out
  rw [sep_assoc] at h
  obtain ⟨hf, h⟩ := h.fact_out
  exact ⟨D, hf, h⟩
theorem mapHp_in {w : World} {b n : Nat} {M : ByteArray → Option Int} {S : Hp} {D : DataW Unit} (h : Sat w (mapD b n D * S)) (hR : Reads D M) : Sat w (mapHp b n M * S) := by
  unfold mapHp
  refine Sat.ex_in D ?_
  rw [sep_assoc]
  exact h.fact_in hR
/-- m[k] = v -/
theorem run_put {w : World} {b n : Nat} {M : ByteArray → Option Int} {S : Hp} (h : Sat w (mapHp b n M * S)) (hn : n < maxLen) (s : ByteArray) (hs : s.size ≤ maxLen) (c : Int) (hc : (Lit.int .i64 c).wf = true) :
    ∃ w', (Instr.mapUpdate 85 (.map (some b)) (.string s) (.int .i64 c)).run Try.prog w = .ok () w' ∧ Sat w' (mapHp b (n + 1) (putM M s c) * S) ∧ Ran w w' := by
  obtain ⟨D, hR, h⟩ := mapHp_out h
  obtain ⟨hO, _⟩ := mapD_out h
  obtain ⟨w', hrun, hO', ht⟩ := hO.store strKey Try.underlying85 hn (key_of hs) (plainElem_int Try.underlying3 hc)
  exact ⟨w', hrun, mapHp_in (mapD_turned h ht.grown hO') (reads_put hR s trivial c), ⟨ht.grown.os, ht.grown.tape, ht.grown.output, ht.grown.size, fun k hk => absurd hk (Nat.not_lt_zero _)⟩⟩
/-- delete(m, k) -/
theorem run_del {w : World} {b n : Nat} {M : ByteArray → Option Int} {S : Hp} (h : Sat w (mapHp b n M * S)) (s : ByteArray) (hs : s.size ≤ maxLen) (ty : TypeId) :
    ∃ w', (Builtin.delete_ #[85, 9] ty #[.map (some b), .string s]).run Try.prog w = .ok (.tuple #[]) w' ∧ Sat w' (mapHp b n (delM M s) * S) ∧ Ran w w' := by
  obtain ⟨D, hR, h⟩ := mapHp_out h
  obtain ⟨hO, _⟩ := mapD_out h
  obtain ⟨w', hrun, hO', ht⟩ := hO.drop strKey Try.underlying85 (key_of hs) ty
  exact ⟨w', hrun, mapHp_in (mapD_turned h ht.grown hO') (reads_del hR s), ⟨ht.grown.os, ht.grown.tape, ht.grown.output, ht.grown.size, fun k hk => absurd hk (Nat.not_lt_zero _)⟩⟩
/-- v, ok := m[k] -/
theorem run_look {w : World} {b n : Nat} {M : ByteArray → Option Int} {S : Hp} (h : Sat w (mapHp b n M * S)) (s : ByteArray) (hs : s.size ≤ maxLen) :
    (Instr.lookup 85 (.map (some b)) (.string s) true).run Try.prog w = .ok (.tuple #[.int .i64 ((M s).getD 0), .bool (M s).isSome]) w := by
  obtain ⟨D, hR, h⟩ := mapHp_out h
  obtain ⟨hO, _⟩ := mapD_out h
  obtain ⟨v, ps, hrun, hv⟩ := hO.look_ok strKey Try.underlying85 (zeroInt w) (plainElem_int Try.underlying3 (by decide)) (key_of hs)
  obtain ⟨c, rfl, hc, _⟩ := plainElem_int_inv Try.underlying3 hv
  obtain ⟨h1, h2⟩ := hR.2 s
  have h3 := congrArg Prod.fst hc
  simp only at h3
  rw [h2] at h3
  simp only [DataW.lit.injEq, Lit.int.injEq, true_and] at h3
  rw [hrun, h1, h3]
theorem map_made {w : World} {S : Hp} (h : Sat w S) : Sat (w.alloc (.map #[] 0)) (mapHp w.heap.size 0 (fun _ => none) * S) :=
  mapHp_in (mapD_in (h.alloc _) (World.ownsMap_made w _ _ _)) ⟨isMap_empty, fun s => ⟨rfl, rfl⟩⟩
end Go.Proofs.Ytibgpkcklneloaa.Undo
