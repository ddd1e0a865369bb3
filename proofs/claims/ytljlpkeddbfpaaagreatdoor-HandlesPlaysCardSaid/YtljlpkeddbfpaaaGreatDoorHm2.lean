/- HandlesPlays, part 2 of 34: the texts HdA HdK, joined by a program. -/
import Derived.Test.YtljlpkeddbfpaaaGreatDoorHm1
import Derived.Test.YtljlpkeddbfpaaaGreatDoorRows
import Derived.Maps.OwnSet
import Derived.StringKeys
namespace Go.Proofs.YtljlpkeddbfpaaaGreatDoor.Hd
open Go.RowKit Go.Maps Go.Proofs.YtljlpkeddbfpaaaGreatDoor Go.Proofs.YtljlpkeddbfpaaaGreatDoor.Hp
set_option linter.unusedVariables false

def I64 (x : Int) : Prop := -9223372036854775808 ≤ x ∧ x ≤ 9223372036854775807
abbrev ik (n : Int) : Lit := .int .i64 n
theorem i64_wf {n : Int} (h : I64 n) : (ik n).wf = true := by
  unfold I64 at h
  simp [Lit.wf, IntKind.min, IntKind.max, IntKind.signed, IntKind.bits]
  omega
theorem intKey : Keyed Tryz.prog 3 := int_keyed Tryz.underlying3
theorem ikey {n : Int} (h : I64 n) : keyOf Tryz.prog 3 (.int .i64 n) = some (ik n) := keyOf_int_mk Tryz.underlying3 (i64_wf h)
/-- A pointer to a block's beginning, or none. -/
def pv : Option Nat → Value
  | none => .pointer none
  | some b => .pointer (some ⟨b, 0, none⟩)
def cod : Option Nat → Int
  | none => 0
  | some b => b + 1
theorem cod_inj {a b : Option Nat} (h : cod a = cod b) : a = b := by
  cases a <;> cases b <;> simp [cod] at h ⊢ <;> omega
def pel : Value → Option (DataW Unit × List MemPlace)
  | .pointer none => some (.lit (.int .i64 0), [])
  | .pointer (some ⟨b, 0, none⟩) => some (.lit (.int .i64 (b + 1)), [])
  | _ => none
theorem pel_pv (o : Option Nat) : pel (pv o) = some (.lit (ik (cod o)), []) := by cases o <;> rfl
theorem pel_inv {v : Value} {o : Option Nat} {ps : List MemPlace} (h : pel v = some (.lit (ik (cod o)), ps)) : v = pv o := by
  unfold pel at h
  split at h
  · injection h with h; injection h with h _; injection h with h; injection h with _ h
    have : o = none := cod_inj (a := o) (b := none) (by rw [← h]; rfl)
    rw [this]; rfl
  · rename_i b
    injection h with h; injection h with h _; injection h with h; injection h with _ h
    have : o = some b := cod_inj (a := o) (b := some b) (by rw [← h]; rfl)
    rw [this]; rfl
  · cases h
abbrev Owns (w : World) (b n : Nat) (D : DataW Unit) : Prop := w.ownsMap (H := Unit) Tryz.prog 3 pel b n D
theorem owns_block {w w' : World} {b n : Nat} {D : DataW Unit} (h : Owns w b n D) (e : w'.heap[b]? = w.heap[b]?) : Owns w' b n D := by
  obtain ⟨es, clock, hb, r⟩ := h
  exact ⟨es, clock, e.trans hb, r⟩
def mapD (b n : Nat) (D : DataW Unit) : Hp := ex fun o : Obj => fact (∀ w : World, w.heap[b]? = some o → Owns w b n D) * pts b o
theorem mapD_out {w : World} {b n : Nat} {D : DataW Unit} {S : Hp} (h : Sat w (mapD b n D * S)) : Owns w b n D ∧ ∃ o, Sat w (pts b o * S) := by
  unfold mapD at h
  obtain ⟨o, h⟩ := h.ex_out
  rw [sep_assoc] at h
  obtain ⟨hf, h⟩ := h.fact_out
  exact ⟨hf w h.get, o, h⟩
theorem mapD_in {w : World} {b n : Nat} {D : DataW Unit} {S : Hp} {o : Obj} (h : Sat w (pts b o * S)) (hO : Owns w b n D) : Sat w (mapD b n D * S) := by
  unfold mapD
  refine Sat.ex_in o ?_
  rw [sep_assoc]
  exact h.fact_in fun w' hw' => owns_block hO (hw'.trans h.get.symm)
theorem mapD_turned {w w' : World} {b n n' : Nat} {D D' : DataW Unit} {S : Hp} (h : Sat w (mapD b n D * S)) (ht : w.grownBy w' (some b)) (hO : Owns w' b n' D') : Sat w' (mapD b n' D' * S) := by
  obtain ⟨_, o, hs⟩ := mapD_out h
  obtain ⟨es, clock, hb, r⟩ := hO
  exact mapD_in (hs.put hb fun k hk hne => ht.block k hk (fun e => hne (by simpa using e))) ⟨es, clock, hb, r⟩
/-- What the datum says of each number. -/
structure Reads (D : DataW Unit) (M : Int → Option Nat) (sz : Nat) : Prop where
  ism : IsMap D
  has : ∀ k : Int, Maps.has D (ik k) = (M k).isSome
  val : ∀ k : Int, D.atKey (ik k) (.lit (ik 0)) = .lit (ik (cod (M k)))
  size : Maps.size D = sz
/-- A map of at most n entries ever; sz there are. -/
def pmap (b : Nat) (M : Int → Option Nat) (sz n : Nat) : Hp := ex fun D : DataW Unit => fact (Reads D M sz) * mapD b n D
def putP (M : Int → Option Nat) (k : Int) (b : Nat) : Int → Option Nat := fun t => if t = k then some b else M t
def delP (M : Int → Option Nat) (k : Int) : Int → Option Nat := fun t => if t = k then none else M t
theorem ik_ne {a b : Int} (h : a ≠ b) : ik a ≠ ik b := fun e => h (by injection e)
theorem reads_put {D : DataW Unit} {M : Int → Option Nat} {sz : Nat} (h : Reads D M sz) (ht : Tidy D) (k : Int) (hM : M k = none) (b : Nat) : Reads (D.put (ik k) (.lit (ik (cod (some b))))) (putP M k b) (sz + 1) where
  ism := h.ism.put _ _
  has t := by
    unfold putP
    by_cases e : t = k
    · subst e; rw [if_pos rfl]; exact has_put_same h.ism (show WideAt.IsKeyLit (ik t) from trivial) _
    · rw [if_neg e, has_put_other (ik_ne e)]; exact h.has t
  val t := by
    unfold putP
    by_cases e : t = k
    · subst e; rw [if_pos rfl]; exact atKey_put_same h.ism (show WideAt.IsKeyLit (ik t) from trivial) _ _
    · rw [if_neg e, atKey_put_other (ik_ne e)]; exact h.val t
  size := by
    rw [size_put ht, h.has, hM, h.size]
    rfl
theorem reads_del {D : DataW Unit} {M : Int → Option Nat} {sz : Nat} (h : Reads D M (sz + 1)) (ht : Tidy D) (k : Int) (hM : (M k).isSome = true) : Reads (D.del (ik k)) (delP M k) sz where
  ism := h.ism.del _
  has t := by
    unfold delP
    by_cases e : t = k
    · subst e; rw [if_pos rfl]; exact has_del_same
    · rw [if_neg e, has_del_other (ik_ne e)]; exact h.has t
  val t := by
    unfold delP
    by_cases e : t = k
    · subst e; rw [if_pos rfl]; exact atKey_del_same _
    · rw [if_neg e, atKey_del_other (ik_ne e)]; exact h.val t
  size := by
    have := size_del (k := ik k) ht
    rw [h.has, hM, h.size] at this
    simp at this
    omega
theorem pmap_out {w : World} {b sz n : Nat} {M : Int → Option Nat} {S : Hp} (h : Sat w (pmap b M sz n * S)) : ∃ D, Reads D M sz ∧ Sat w (mapD b n D * S) := by
  unfold pmap at h
  obtain ⟨D, h⟩ := h.ex_out
  rw [sep_assoc] at h
  obtain ⟨hf, h⟩ := h.fact_out
  exact ⟨D, hf, h⟩
theorem pmap_in {w : World} {b sz n : Nat} {M : Int → Option Nat} {S : Hp} {D : DataW Unit} (h : Sat w (mapD b n D * S)) (hR : Reads D M sz) : Sat w (pmap b M sz n * S) := by
  unfold pmap
  refine Sat.ex_in D ?_
  rw [sep_assoc]
  exact h.fact_in hR
theorem pmap_le {w : World} {b sz n : Nat} {M : Int → Option Nat} {S : Hp} (h : Sat w (pmap b M sz n * S)) : sz ≤ n := by
  obtain ⟨D, hR, h⟩ := pmap_out h
  obtain ⟨hO, _⟩ := mapD_out h
  rw [← hR.size]
  exact hO.size_le
variable {t e : TypeId}
/-- m[k] -/
theorem pmap_look (ht : Tryz.prog.underlying t = some (.map 3 e)) (hz : ∀ w, (zeroValue e).run Tryz.prog w = .ok (.pointer none) w) {w : World} {b sz n : Nat} {M : Int → Option Nat} {S : Hp} (h : Sat w (pmap b M sz n * S)) (k : Int) (hk : I64 k) :
    (Instr.lookup t (.map (some b)) (.int .i64 k) false).run Tryz.prog w = .ok (pv (M k)) w := by
  obtain ⟨D, hR, h⟩ := pmap_out h
  obtain ⟨hO, _⟩ := mapD_out h
  obtain ⟨v, ps, hrun, hv⟩ := hO.lookup intKey ht (hz w) (zd := .lit (ik 0)) (zp := []) rfl (ikey hk)
  rw [hR.val] at hv
  rw [hrun, pel_inv hv]
/-- m[k] = v, where nothing was -/
theorem pmap_put (ht : Tryz.prog.underlying t = some (.map 3 e)) {w : World} {b sz n : Nat} {M : Int → Option Nat} {S : Hp} (h : Sat w (pmap b M sz n * S)) (hn : n < maxLen) (k : Int) (hk : I64 k) (hM : M k = none) (c : Nat) :
    ∃ w', (Instr.mapUpdate t (.map (some b)) (.int .i64 k) (.pointer (some ⟨c, 0, none⟩))).run Tryz.prog w = .ok () w' ∧ Sat w' (pmap b (putP M k c) (sz + 1) (n + 1) * S) ∧ Ran w w' := by
  obtain ⟨D, hR, h⟩ := pmap_out h
  obtain ⟨hO, _⟩ := mapD_out h
  obtain ⟨w', hrun, hO', ht2⟩ := hO.store intKey ht hn (ikey hk) (pel_pv (some c))
  exact ⟨w', hrun, pmap_in (mapD_turned h ht2.grown hO') (reads_put hR (hO.tidy intKey) k hM c), ⟨ht2.grown.os, ht2.grown.tape, ht2.grown.output, ht2.grown.size, fun k hk => absurd hk (Nat.not_lt_zero _)⟩⟩
/-- delete(m, k) -/
theorem pmap_del (ht : Tryz.prog.underlying t = some (.map 3 e)) {w : World} {b sz n : Nat} {M : Int → Option Nat} {S : Hp} (h : Sat w (pmap b M (sz + 1) n * S)) (k : Int) (hk : I64 k) (hM : (M k).isSome = true) (ty : TypeId) :
    ∃ w', (Builtin.delete_ #[t, 3] ty #[.map (some b), .int .i64 k]).run Tryz.prog w = .ok (.tuple #[]) w' ∧ Sat w' (pmap b (delP M k) sz n * S) ∧ Ran w w' := by
  obtain ⟨D, hR, h⟩ := pmap_out h
  obtain ⟨hO, _⟩ := mapD_out h
  obtain ⟨w', hrun, hO', ht2⟩ := hO.drop intKey ht (ikey hk) ty
  exact ⟨w', hrun, pmap_in (mapD_turned h ht2.grown hO') (reads_del hR (hO.tidy intKey) k hM), ⟨ht2.grown.os, ht2.grown.tape, ht2.grown.output, ht2.grown.size, fun k hk => absurd hk (Nat.not_lt_zero _)⟩⟩
/-- len(m) -/
theorem pmap_len (ht : Tryz.prog.underlying t = some (.map 3 e)) {w : World} {b sz n : Nat} {M : Int → Option Nat} {S : Hp} (h : Sat w (pmap b M sz n * S)) (ty : TypeId) :
    (Builtin.len_ #[t] ty #[.map (some b)]).run Tryz.prog w = .ok (.int .i64 (sz : Int)) w := by
  obtain ⟨D, hR, h⟩ := pmap_out h
  obtain ⟨hO, _⟩ := mapD_out h
  rw [hO.len ht ty, hR.size]
theorem pmap_made {w : World} {S : Hp} (h : Sat w S) : Sat (w.alloc (.map #[] 0)) (pmap w.heap.size (fun _ => none) 0 0 * S) :=
  pmap_in (mapD_in (h.alloc _) (World.ownsMap_made w _ _ _)) ⟨isMap_empty, fun s => rfl, fun s => rfl, rfl⟩
theorem zeroNode (w : World) : (zeroValue 95).run Tryz.prog w = .ok (.pointer none) w := by kernel_rfl
theorem zeroHandle (w : World) : (zeroValue 86).run Tryz.prog w = .ok (.pointer none) w := by kernel_rfl
end Go.Proofs.YtljlpkeddbfpaaaGreatDoor.Hd

namespace Go.Proofs.YtljlpkeddbfpaaaGreatDoor.Hd.K
open Go.RowKit Go.Maps Go.Proofs.YtljlpkeddbfpaaaGreatDoor Go.Proofs.YtljlpkeddbfpaaaGreatDoor.Hp
set_option linter.unusedVariables false

theorem strKey : Keyed Tryz.prog 9 := string_keyed Tryz.underlying9
theorem zeroInt (w : World) : (zeroValue 3).run Tryz.prog w = .ok (.int .i64 0) w := by kernel_rfl
abbrev kl (s : ByteArray) : Lit := .string s.data.toList
theorem key_of {s : ByteArray} (h : s.size ≤ maxLen) : keyOf Tryz.prog 9 (.string s) = some (kl s) := Go.WideMaps.keyOf_string_mk Tryz.underlying9 h
abbrev Owns (w : World) (b n : Nat) (D : DataW Unit) : Prop := w.ownsMap (H := Unit) Tryz.prog 9 (plainElem Tryz.prog 3) b n D
theorem owns_block {w w' : World} {b n : Nat} {D : DataW Unit} (h : Owns w b n D) (e : w'.heap[b]? = w.heap[b]?) : Owns w' b n D := by
  obtain ⟨es, clock, hb, r⟩ := h
  exact ⟨es, clock, e.trans hb, r⟩
def mapD (b n : Nat) (D : DataW Unit) : Hp := ex fun o : Obj => fact (∀ w : World, w.heap[b]? = some o → Owns w b n D) * pts b o
theorem mapD_out {w : World} {b n : Nat} {D : DataW Unit} {S : Hp} (h : Sat w (mapD b n D * S)) : Owns w b n D ∧ ∃ o, Sat w (pts b o * S) := by
  unfold mapD at h
  obtain ⟨o, h⟩ := h.ex_out
  rw [sep_assoc] at h
  obtain ⟨hf, h⟩ := h.fact_out
  exact ⟨hf w h.get, o, h⟩
theorem mapD_in {w : World} {b n : Nat} {D : DataW Unit} {S : Hp} {o : Obj} (h : Sat w (pts b o * S)) (hO : Owns w b n D) : Sat w (mapD b n D * S) := by
  unfold mapD
  refine Sat.ex_in o ?_
  rw [sep_assoc]
  exact h.fact_in fun w' hw' => owns_block hO (hw'.trans h.get.symm)
theorem mapD_turned {w w' : World} {b n n' : Nat} {D D' : DataW Unit} {S : Hp} (h : Sat w (mapD b n D * S)) (ht : w.grownBy w' (some b)) (hO : Owns w' b n' D') : Sat w' (mapD b n' D' * S) := by
  obtain ⟨_, o, hs⟩ := mapD_out h
  obtain ⟨es, clock, hb, r⟩ := hO
  exact mapD_in (hs.put hb fun k hk hne => ht.block k hk (fun e => hne (by simpa using e))) ⟨es, clock, hb, r⟩
abbrev SM := ByteArray → Option Int
structure Reads (D : DataW Unit) (M : SM) (sz : Nat) : Prop where
  ism : IsMap D
  has : ∀ k : ByteArray, Maps.has D (kl k) = (M k).isSome
  val : ∀ k : ByteArray, D.atKey (kl k) (.lit (.int .i64 0)) = .lit (.int .i64 ((M k).getD 0))
  size : Maps.size D = sz
def smap (b : Nat) (M : SM) (sz n : Nat) : Hp := ex fun D : DataW Unit => fact (Reads D M sz) * mapD b n D
def putM (M : SM) (k : ByteArray) (c : Int) : SM := fun t => if t = k then some c else M t
def delM (M : SM) (k : ByteArray) : SM := fun t => if t = k then none else M t
theorem kl_ne {s t : ByteArray} (h : t ≠ s) : kl t ≠ kl s := by
  intro e
  apply h
  simp only [Lit.string.injEq] at e
  cases t; cases s
  simp at e
  rw [e]
theorem reads_put {D : DataW Unit} {M : SM} {sz : Nat} (h : Reads D M sz) (ht : Tidy D) (k : ByteArray) (hM : M k = none) (c : Int) : Reads (D.put (kl k) (.lit (.int .i64 c))) (putM M k c) (sz + 1) where
  ism := h.ism.put _ _
  has t := by
    unfold putM
    by_cases e : t = k
    · subst e; rw [if_pos rfl]; exact has_put_same h.ism (show WideAt.IsKeyLit (kl t) from trivial) _
    · rw [if_neg e, has_put_other (kl_ne e)]; exact h.has t
  val t := by
    unfold putM
    by_cases e : t = k
    · subst e; rw [if_pos rfl]; exact atKey_put_same h.ism (show WideAt.IsKeyLit (kl t) from trivial) _ _
    · rw [if_neg e, atKey_put_other (kl_ne e)]; exact h.val t
  size := by
    rw [size_put ht, h.has, hM, h.size]
    rfl
theorem reads_del {D : DataW Unit} {M : SM} {sz : Nat} (h : Reads D M (sz + 1)) (ht : Tidy D) (k : ByteArray) (hM : (M k).isSome = true) : Reads (D.del (kl k)) (delM M k) sz where
  ism := h.ism.del _
  has t := by
    unfold delM
    by_cases e : t = k
    · subst e; rw [if_pos rfl]; exact has_del_same
    · rw [if_neg e, has_del_other (kl_ne e)]; exact h.has t
  val t := by
    unfold delM
    by_cases e : t = k
    · subst e; rw [if_pos rfl]; exact atKey_del_same _
    · rw [if_neg e, atKey_del_other (kl_ne e)]; exact h.val t
  size := by
    have := size_del (k := kl k) ht
    rw [h.has, hM, h.size] at this
    simp at this
    omega
theorem smap_out {w : World} {b sz n : Nat} {M : SM} {S : Hp} (h : Sat w (smap b M sz n * S)) : ∃ D, Reads D M sz ∧ Sat w (mapD b n D * S) := by
  unfold smap at h
  obtain ⟨D, h⟩ := h.ex_out
  rw [sep_assoc] at h
  obtain ⟨hf, h⟩ := h.fact_out
  exact ⟨D, hf, h⟩
theorem smap_in {w : World} {b sz n : Nat} {M : SM} {S : Hp} {D : DataW Unit} (h : Sat w (mapD b n D * S)) (hR : Reads D M sz) : Sat w (smap b M sz n * S) := by
  unfold smap
  refine Sat.ex_in D ?_
  rw [sep_assoc]
  exact h.fact_in hR
/-- m[k] -/
theorem smap_look {w : World} {b sz n : Nat} {M : SM} {S : Hp} (h : Sat w (smap b M sz n * S)) (k : ByteArray) (hk : k.size ≤ maxLen) :
    (Instr.lookup 98 (.map (some b)) (.string k) false).run Tryz.prog w = .ok (.int .i64 ((M k).getD 0)) w := by
  obtain ⟨D, hR, h⟩ := smap_out h
  obtain ⟨hO, _⟩ := mapD_out h
  obtain ⟨c, hrun, hv, _⟩ := hO.lookup_int strKey Tryz.underlying98 Tryz.underlying3 (zeroInt w) (key_of hk)
  rw [hR.val] at hv
  simp only [DataW.lit.injEq, Lit.int.injEq, true_and] at hv
  rw [hrun, ← hv]
/-- m[k] = v, where nothing was -/
theorem smap_put {w : World} {b sz n : Nat} {M : SM} {S : Hp} (h : Sat w (smap b M sz n * S)) (hn : n < maxLen) (k : ByteArray) (hk : k.size ≤ maxLen) (hM : M k = none) (c : Int) (hc : I64 c) :
    ∃ w', (Instr.mapUpdate 98 (.map (some b)) (.string k) (.int .i64 c)).run Tryz.prog w = .ok () w' ∧ Sat w' (smap b (putM M k c) (sz + 1) (n + 1) * S) ∧ Ran w w' := by
  obtain ⟨D, hR, h⟩ := smap_out h
  obtain ⟨hO, _⟩ := mapD_out h
  obtain ⟨w', hrun, hO', ht2⟩ := hO.store strKey Tryz.underlying98 hn (key_of hk) (plainElem_int Tryz.underlying3 (i64_wf hc))
  exact ⟨w', hrun, smap_in (mapD_turned h ht2.grown hO') (reads_put hR (hO.tidy strKey) k hM c), ⟨ht2.grown.os, ht2.grown.tape, ht2.grown.output, ht2.grown.size, fun k hk => absurd hk (Nat.not_lt_zero _)⟩⟩
/-- len(m) -/
theorem smap_len {w : World} {b sz n : Nat} {M : SM} {S : Hp} (h : Sat w (smap b M sz n * S)) (ty : TypeId) :
    (Builtin.len_ #[98] ty #[.map (some b)]).run Tryz.prog w = .ok (.int .i64 (sz : Int)) w := by
  obtain ⟨D, hR, h⟩ := smap_out h
  obtain ⟨hO, _⟩ := mapD_out h
  rw [hO.len Tryz.underlying98 ty, hR.size]
theorem smap_nil (w : World) (ty : TypeId) : (Builtin.len_ #[98] ty #[.map none]).run Tryz.prog w = .ok (.int .i64 0) w := Maps.len_nil Tryz.underlying98 ty
theorem smap_made {w : World} {S : Hp} (h : Sat w S) : Sat (w.alloc (.map #[] 0)) (smap w.heap.size (fun _ => none) 0 0 * S) :=
  smap_in (mapD_in (h.alloc _) (World.ownsMap_made w _ _ _)) ⟨isMap_empty, fun s => rfl, fun s => rfl, rfl⟩
end Go.Proofs.YtljlpkeddbfpaaaGreatDoor.Hd.K

