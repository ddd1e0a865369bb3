/- HandlesPlays, part 6 of 31: the texts HdK, joined by a program. -/
import Derived.Test.YteienbdbhnikbaaGreatDoorPw5
import Derived.StringKeys
namespace Go.Proofs.YteienbdbhnikbaaGreatDoor.Hd.K
open Go.RowKit Go.Maps Go.Proofs.YteienbdbhnikbaaGreatDoor Go.Proofs.YteienbdbhnikbaaGreatDoor.Hp
set_option linter.unusedVariables false

theorem strKey : Keyed Tryz.prog 9 := string_keyed Tryz.underlying9
theorem zeroInt (w : World) : (zeroValue 3).run Tryz.prog w = .ok (.int .i64 0) w := by kernel_rfl
abbrev kl (s : ByteArray) : Lit := .string s.data.toList
theorem key_of {s : ByteArray} (h : s.size ≤ maxLen) : keyOf Tryz.prog 9 (.string s) = some (kl s) := Go.WideMaps.keyOf_string_mk Tryz.underlying9 h
abbrev Owns (w : World) (b n : Nat) (D : DataW Unit) : Prop := w.ownsMap (H := Unit) Tryz.prog 9 (plainElem Tryz.prog 3) b n D
theorem owns_block {w w' : World} {b n : Nat} {D : DataW Unit} (h : Owns w b n D) (e : w'.heap[b]? = w.heap[b]?) : Owns w' b n D := by
  obtain ⟨es, clock, hb, r⟩ := h
  exact ⟨es, clock, e.trans hb, r⟩
def mapD (b n : Nat) (D : DataW Unit) : Hp := ex fun o : Obj => fact (∀ w : World, w.heap[b]? = some o → Owns w b n D) * pts b o
theorem mapD_out {w : World} {b n : Nat} {D : DataW Unit} {S : Hp} (h : Sat w (mapD b n D * S)) : Owns w b n D ∧ ∃ o, Sat w (pts b o * S) := by
  unfold mapD at h
  obtain ⟨o, h⟩ := h.ex_out
  rw [sep_assoc] at h
  obtain ⟨hf, h⟩ := h.fact_out
  exact ⟨hf w h.get, o, h⟩
theorem mapD_in {w : World} {b n : Nat} {D : DataW Unit} {S : Hp} {o : Obj} (h : Sat w (pts b o * S)) (hO : Owns w b n D) : Sat w (mapD b n D * S) := by
  unfold mapD
  refine Sat.ex_in o ?_
  rw [sep_assoc]
  exact h.fact_in fun w' hw' => owns_block hO (hw'.trans h.get.symm)
theorem mapD_turned {w w' : World} {b n n' : Nat} {D D' : DataW Unit} {S : Hp} (h : Sat w (mapD b n D * S)) (ht : w.grownBy w' (some b)) (hO : Owns w' b n' D') : Sat w' (mapD b n' D' * S) := by
  obtain ⟨_, o, hs⟩ := mapD_out h
  obtain ⟨es, clock, hb, r⟩ := hO
  exact mapD_in (hs.put hb fun k hk hne => ht.block k hk (fun e => hne (by simpa using e))) ⟨es, clock, hb, r⟩
abbrev SM := ByteArray → Option Int
structure Reads (D : DataW Unit) (M : SM) (sz : Nat) : Prop where
  ism : IsMap D
  has : ∀ k : ByteArray, Maps.has D (kl k) = (M k).isSome
  val : ∀ k : ByteArray, D.atKey (kl k) (.lit (.int .i64 0)) = .lit (.int .i64 ((M k).getD 0))
  size : Maps.size D = sz
def smap (b : Nat) (M : SM) (sz n : Nat) : Hp := ex fun D : DataW Unit => fact (Reads D M sz) * mapD b n D
def putM (M : SM) (k : ByteArray) (c : Int) : SM := fun t => if t = k then some c else M t
def delM (M : SM) (k : ByteArray) : SM := fun t => if t = k then none else M t
theorem kl_ne {s t : ByteArray} (h : t ≠ s) : kl t ≠ kl s := by
  intro e
  apply h
  simp only [Lit.string.injEq] at e
  cases t; cases s
  simp at e
  rw [e]
theorem reads_put {D : DataW Unit} {M : SM} {sz : Nat} (h : Reads D M sz) (ht : Tidy D) (k : ByteArray) (hM : M k = none) (c : Int) : Reads (D.put (kl k) (.lit (.int .i64 c))) (putM M k c) (sz + 1) where
  ism := h.ism.put _ _
  has t := by
    unfold putM
    by_cases e : t = k
    · subst e; rw [if_pos rfl]; exact has_put_same h.ism (show WideAt.IsKeyLit (kl t) from trivial) _
    · rw [if_neg e, has_put_other (kl_ne e)]; exact h.has t
  val t := by
    unfold putM
    by_cases e : t = k
    · subst e; rw [if_pos rfl]; exact atKey_put_same h.ism (show WideAt.IsKeyLit (kl t) from trivial) _ _
    · rw [if_neg e, atKey_put_other (kl_ne e)]; exact h.val t
  size := by
    rw [size_put ht, h.has, hM, h.size]
    rfl
theorem reads_del {D : DataW Unit} {M : SM} {sz : Nat} (h : Reads D M (sz + 1)) (ht : Tidy D) (k : ByteArray) (hM : (M k).isSome = true) : Reads (D.del (kl k)) (delM M k) sz where
  ism := h.ism.del _
  has t := by
    unfold delM
    by_cases e : t = k
    · subst e; rw [if_pos rfl]; exact has_del_same
    · rw [if_neg e, has_del_other (kl_ne e)]; exact h.has t
  val t := by
    unfold delM
    by_cases e : t = k
    · subst e; rw [if_pos rfl]; exact atKey_del_same _
    · rw [if_neg e, atKey_del_other (kl_ne e)]; exact h.val t
  size := by
    have := size_del (k := kl k) ht
    rw [h.has, hM, h.size] at this
    simp at this
    omega
theorem smap_out {w : World} {b sz n : Nat} {M : SM} {S : Hp} (h : Sat w (smap b M sz n * S)) : ∃ D, Reads D M sz ∧ Sat w (mapD b n D * S) := by
  unfold smap at h
  obtain ⟨D, h⟩ := h.ex_out
  rw [sep_assoc] at h
  obtain ⟨hf, h⟩ := h.fact_out
  exact ⟨D, hf, h⟩
theorem smap_in {w : World} {b sz n : Nat} {M : SM} {S : Hp} {D : DataW Unit} (h : Sat w (mapD b n D * S)) (hR : Reads D M sz) : Sat w (smap b M sz n * S) := by
  unfold smap
  refine Sat.ex_in D ?_
  rw [sep_assoc]
  exact h.fact_in hR
/-- m[k] -/
theorem smap_look {w : World} {b sz n : Nat} {M : SM} {S : Hp} (h : Sat w (smap b M sz n * S)) (k : ByteArray) (hk : k.size ≤ maxLen) :
    (Instr.lookup 116 (.map (some b)) (.string k) false).run Tryz.prog w = .ok (.int .i64 ((M k).getD 0)) w := by
  obtain ⟨D, hR, h⟩ := smap_out h
  obtain ⟨hO, _⟩ := mapD_out h
  obtain ⟨c, hrun, hv, _⟩ := hO.lookup_int strKey Tryz.underlying116 Tryz.underlying3 (zeroInt w) (key_of hk)
  rw [hR.val] at hv
  simp only [DataW.lit.injEq, Lit.int.injEq, true_and] at hv
  rw [hrun, ← hv]
/-- m[k] = v, where nothing was -/
theorem smap_put {w : World} {b sz n : Nat} {M : SM} {S : Hp} (h : Sat w (smap b M sz n * S)) (hn : n < maxLen) (k : ByteArray) (hk : k.size ≤ maxLen) (hM : M k = none) (c : Int) (hc : I64 c) :
    ∃ w', (Instr.mapUpdate 116 (.map (some b)) (.string k) (.int .i64 c)).run Tryz.prog w = .ok () w' ∧ Sat w' (smap b (putM M k c) (sz + 1) (n + 1) * S) ∧ Ran w w' := by
  obtain ⟨D, hR, h⟩ := smap_out h
  obtain ⟨hO, _⟩ := mapD_out h
  obtain ⟨w', hrun, hO', ht2⟩ := hO.store strKey Tryz.underlying116 hn (key_of hk) (plainElem_int Tryz.underlying3 (i64_wf hc))
  exact ⟨w', hrun, smap_in (mapD_turned h ht2.grown hO') (reads_put hR (hO.tidy strKey) k hM c), ⟨ht2.grown.os, ht2.grown.tape, ht2.grown.output, ht2.grown.size, fun k hk => absurd hk (Nat.not_lt_zero _)⟩⟩
/-- delete(m, k) -/
theorem smap_del {w : World} {b sz n : Nat} {M : SM} {S : Hp} (h : Sat w (smap b M (sz + 1) n * S)) (k : ByteArray) (hk : k.size ≤ maxLen) (hM : (M k).isSome = true) (ty : TypeId) :
    ∃ w', (Builtin.delete_ #[116, 9] ty #[.map (some b), .string k]).run Tryz.prog w = .ok (.tuple #[]) w' ∧ Sat w' (smap b (delM M k) sz n * S) ∧ Ran w w' := by
  obtain ⟨D, hR, h⟩ := smap_out h
  obtain ⟨hO, _⟩ := mapD_out h
  obtain ⟨w', hrun, hO', ht2⟩ := hO.drop strKey Tryz.underlying116 (key_of hk) ty
  exact ⟨w', hrun, smap_in (mapD_turned h ht2.grown hO') (reads_del hR (hO.tidy strKey) k hM), ⟨ht2.grown.os, ht2.grown.tape, ht2.grown.output, ht2.grown.size, fun k hk => absurd hk (Nat.not_lt_zero _)⟩⟩
/-- len(m) -/
theorem smap_len {w : World} {b sz n : Nat} {M : SM} {S : Hp} (h : Sat w (smap b M sz n * S)) (ty : TypeId) :
    (Builtin.len_ #[116] ty #[.map (some b)]).run Tryz.prog w = .ok (.int .i64 (sz : Int)) w := by
  obtain ⟨D, hR, h⟩ := smap_out h
  obtain ⟨hO, _⟩ := mapD_out h
  rw [hO.len Tryz.underlying116 ty, hR.size]
theorem smap_nil (w : World) (ty : TypeId) : (Builtin.len_ #[116] ty #[.map none]).run Tryz.prog w = .ok (.int .i64 0) w := Maps.len_nil Tryz.underlying116 ty
theorem smap_made {w : World} {S : Hp} (h : Sat w S) : Sat (w.alloc (.map #[] 0)) (smap w.heap.size (fun _ => none) 0 0 * S) :=
  smap_in (mapD_in (h.alloc _) (World.ownsMap_made w _ _ _)) ⟨isMap_empty, fun s => rfl, fun s => rfl, rfl⟩
end Go.Proofs.YteienbdbhnikbaaGreatDoor.Hd.K

