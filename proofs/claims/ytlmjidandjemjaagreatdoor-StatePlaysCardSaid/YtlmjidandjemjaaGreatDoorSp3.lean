/- HandlesPlays, part 3 of 29: the texts StF, joined by a program. -/
import Derived.Test.YtlmjidandjemjaaGreatDoorSp2
import Derived.Maps.OwnSet
import Derived.StringKeys
namespace Go.Proofs.YtlmjidandjemjaaGreatDoor.Undo
open Go.RowKit Go.Maps Go.Proofs.YtlmjidandjemjaaGreatDoor Go.Proofs.YtlmjidandjemjaaGreatDoor.Hp
set_option linter.unusedVariables false

def tokR (v : Value) : Option (DataW Value × List MemPlace) := some (.held v, [])
theorem strKey : Keyed Tryz.prog 9 := string_keyed Tryz.underlying9
abbrev kl (s : ByteArray) : Lit := .string s.data.toList
theorem key_of {s : ByteArray} (h : s.size ≤ maxLen) : keyOf Tryz.prog 9 (.string s) = some (kl s) := Go.WideMaps.keyOf_string_mk Tryz.underlying9 h
abbrev Owns (w : World) (b n : Nat) (D : DataW Value) : Prop := w.ownsMap (H := Value) Tryz.prog 9 tokR b n D
theorem owns_block {w w' : World} {b n : Nat} {D : DataW Value} (h : Owns w b n D) (e : w'.heap[b]? = w.heap[b]?) : Owns w' b n D := by
  obtain ⟨es, clock, hb, r⟩ := h
  exact ⟨es, clock, e.trans hb, r⟩
/-- One block, a map that reads as D. -/
def mapD (b n : Nat) (D : DataW Value) : Hp := ex fun o : Obj => fact (∀ w : World, w.heap[b]? = some o → Owns w b n D) * pts b o
theorem mapD_out {w : World} {b n : Nat} {D : DataW Value} {S : Hp} (h : Sat w (mapD b n D * S)) : Owns w b n D ∧ ∃ o, Sat w (pts b o * S) := by
  unfold mapD at h
  obtain ⟨o, h⟩ := h.ex_out
  rw [sep_assoc] at h
  obtain ⟨hf, h⟩ := h.fact_out
  exact ⟨hf w h.get, o, h⟩
theorem mapD_in {w : World} {b n : Nat} {D : DataW Value} {S : Hp} {o : Obj} (h : Sat w (pts b o * S)) (hO : Owns w b n D) : Sat w (mapD b n D * S) := by
  unfold mapD
  refine Sat.ex_in o ?_
  rw [sep_assoc]
  exact h.fact_in fun w' hw' => owns_block hO (hw'.trans h.get.symm)
theorem mapD_turned {w w' : World} {b n n' : Nat} {D D' : DataW Value} {S : Hp} (h : Sat w (mapD b n D * S)) (ht : w.grownBy w' (some b)) (hO : Owns w' b n' D') : Sat w' (mapD b n' D' * S) := by
  obtain ⟨_, o, hs⟩ := mapD_out h
  obtain ⟨es, clock, hb, r⟩ := hO
  exact mapD_in (hs.put hb fun k hk hne => ht.block k hk (fun e => hne (by simpa using e))) ⟨es, clock, hb, r⟩
/-- What the datum says of each key. -/
def Reads (D : DataW Value) (M : ByteArray → Option Value) : Prop := IsMap D ∧ ∀ s : ByteArray, Maps.has D (kl s) = (M s).isSome ∧ ∀ z : DataW Value, D.atKey (kl s) z = (match M s with | some v => .held v | none => z)
def mapHp (b n : Nat) (M : ByteArray → Option Value) : Hp := ex fun D : DataW Value => fact (Reads D M) * mapD b n D
section
variable {α : Type}
def putM (M : ByteArray → Option α) (s : ByteArray) (c : α) : ByteArray → Option α := fun t => if t = s then some c else M t
def delM (M : ByteArray → Option α) (s : ByteArray) : ByteArray → Option α := fun t => if t = s then none else M t
/-- k has again what it had. -/
def rest (M : ByteArray → Option α) (k : ByteArray) (o : Option α) : ByteArray → Option α := fun t => if t = k then o else M t
theorem rest_some (M : ByteArray → Option α) (k : ByteArray) (v : α) : rest M k (some v) = putM M k v := rfl
theorem rest_none (M : ByteArray → Option α) (k : ByteArray) : rest M k none = delM M k := rfl
theorem rest_put (M : ByteArray → Option α) (k : ByteArray) (v : α) : rest (putM M k v) k (M k) = M := by
  funext t; unfold rest putM
  by_cases c : t = k
  · rw [if_pos c, c]
  · rw [if_neg c, if_neg c]
theorem rest_del (M : ByteArray → Option α) (k : ByteArray) : rest (delM M k) k (M k) = M := by
  funext t; unfold rest delM
  by_cases c : t = k
  · rw [if_pos c, c]
  · rw [if_neg c, if_neg c]
def mapM (enc : α → Value) (M : ByteArray → Option α) : ByteArray → Option Value := fun s => (M s).map enc
theorem mapM_put (enc : α → Value) (M : ByteArray → Option α) (s : ByteArray) (c : α) : mapM enc (putM M s c) = putM (mapM enc M) s (enc c) := by
  funext t; unfold mapM putM
  by_cases e : t = s
  · rw [if_pos e, if_pos e]; rfl
  · rw [if_neg e, if_neg e]
theorem mapM_del (enc : α → Value) (M : ByteArray → Option α) (s : ByteArray) : mapM enc (delM M s) = delM (mapM enc M) s := by
  funext t; unfold mapM delM
  by_cases e : t = s
  · rw [if_pos e, if_pos e]; rfl
  · rw [if_neg e, if_neg e]
end
theorem kl_ne {s t : ByteArray} (h : t ≠ s) : kl t ≠ kl s := by
  intro e
  apply h
  simp only [Lit.string.injEq] at e
  cases t; cases s
  simp at e
  rw [e]
theorem reads_put {D : DataW Value} {M : ByteArray → Option Value} (h : Reads D M) (s : ByteArray) (hk : WideAt.IsKeyLit (kl s)) (c : Value) : Reads (D.put (kl s) (.held c)) (putM M s c) := by
  refine ⟨h.1.put _ _, fun t => ?_⟩
  unfold putM
  by_cases e : t = s
  · subst e; rw [if_pos rfl]; exact ⟨has_put_same h.1 hk _, fun z => atKey_put_same h.1 hk _ _⟩
  · rw [if_neg e, has_put_other (kl_ne e)]; exact ⟨(h.2 t).1, fun z => by rw [atKey_put_other (kl_ne e)]; exact (h.2 t).2 z⟩
theorem reads_del {D : DataW Value} {M : ByteArray → Option Value} (h : Reads D M) (s : ByteArray) : Reads (D.del (kl s)) (delM M s) := by
  refine ⟨h.1.del _, fun t => ?_⟩
  unfold delM
  by_cases e : t = s
  · subst e; rw [if_pos rfl]; exact ⟨has_del_same, fun z => atKey_del_same _⟩
  · rw [if_neg e, has_del_other (kl_ne e)]; exact ⟨(h.2 t).1, fun z => by rw [atKey_del_other (kl_ne e)]; exact (h.2 t).2 z⟩
theorem mapHp_out {w : World} {b n : Nat} {M : ByteArray → Option Value} {S : Hp} (h : Sat w (mapHp b n M * S)) : ∃ D, Reads D M ∧ Sat w (mapD b n D * S) := by
  unfold mapHp at h
  obtain ⟨D, h⟩ := h.ex_out
  rw [sep_assoc] at h
  obtain ⟨hf, h⟩ := h.fact_out
  exact ⟨D, hf, h⟩
theorem mapHp_in {w : World} {b n : Nat} {M : ByteArray → Option Value} {S : Hp} {D : DataW Value} (h : Sat w (mapD b n D * S)) (hR : Reads D M) : Sat w (mapHp b n M * S) := by
  unfold mapHp
  refine Sat.ex_in D ?_
  rw [sep_assoc]
  exact h.fact_in hR
theorem run_putV {w : World} {b n : Nat} {M : ByteArray → Option Value} {S : Hp} (mt e : TypeId) (hm : Tryz.prog.underlying mt = some (.map 9 e)) (h : Sat w (mapHp b n M * S)) (hn : n < maxLen) (s : ByteArray) (hs : s.size ≤ maxLen) (c : Value) :
    ∃ w', (Instr.mapUpdate mt (.map (some b)) (.string s) c).run Tryz.prog w = .ok () w' ∧ Sat w' (mapHp b (n + 1) (putM M s c) * S) ∧ Ran w w' := by
  obtain ⟨D, hR, h⟩ := mapHp_out h
  obtain ⟨hO, _⟩ := mapD_out h
  obtain ⟨w', hrun, hO', ht⟩ := hO.store strKey hm hn (key_of hs) (show tokR c = some (.held c, []) from rfl)
  exact ⟨w', hrun, mapHp_in (mapD_turned h ht.grown hO') (reads_put hR s trivial c), ⟨ht.grown.os, ht.grown.tape, ht.grown.output, ht.grown.size, fun k hk => absurd hk (Nat.not_lt_zero _)⟩⟩
theorem run_delV {w : World} {b n : Nat} {M : ByteArray → Option Value} {S : Hp} (mt e : TypeId) (hm : Tryz.prog.underlying mt = some (.map 9 e)) (h : Sat w (mapHp b n M * S)) (s : ByteArray) (hs : s.size ≤ maxLen) (ty : TypeId) :
    ∃ w', (Builtin.delete_ #[mt, 9] ty #[.map (some b), .string s]).run Tryz.prog w = .ok (.tuple #[]) w' ∧ Sat w' (mapHp b n (delM M s) * S) ∧ Ran w w' := by
  obtain ⟨D, hR, h⟩ := mapHp_out h
  obtain ⟨hO, _⟩ := mapD_out h
  obtain ⟨w', hrun, hO', ht⟩ := hO.drop strKey hm (key_of hs) ty
  exact ⟨w', hrun, mapHp_in (mapD_turned h ht.grown hO') (reads_del hR s), ⟨ht.grown.os, ht.grown.tape, ht.grown.output, ht.grown.size, fun k hk => absurd hk (Nat.not_lt_zero _)⟩⟩
theorem run_lookV {w : World} {b n : Nat} {M : ByteArray → Option Value} {S : Hp} (mt e : TypeId) (hm : Tryz.prog.underlying mt = some (.map 9 e)) (z : Value) (hz : (zeroValue e).run Tryz.prog w = .ok z w) (h : Sat w (mapHp b n M * S)) (s : ByteArray) (hs : s.size ≤ maxLen) :
    (Instr.lookup mt (.map (some b)) (.string s) true).run Tryz.prog w = .ok (.tuple #[(M s).getD z, .bool (M s).isSome]) w := by
  obtain ⟨D, hR, h⟩ := mapHp_out h
  obtain ⟨hO, _⟩ := mapD_out h
  obtain ⟨v, ps, hrun, hv⟩ := hO.look_ok strKey hm hz (show tokR z = some (.held z, []) from rfl) (key_of hs)
  obtain ⟨h1, h2⟩ := hR.2 s
  have h3 := congrArg Prod.fst (Option.some.inj hv)
  rw [h2] at h3
  have h4 : v = (M s).getD z := by
    cases hM : M s with
    | none => rw [hM] at h3; exact DataW.held.inj h3
    | some u => rw [hM] at h3; exact DataW.held.inj h3
  rw [hrun, h1, h4]
theorem map_made {w : World} {S : Hp} (h : Sat w S) : Sat (w.alloc (.map #[] 0)) (mapHp w.heap.size 0 (fun _ => none) * S) :=
  mapHp_in (mapD_in (h.alloc _) (World.ownsMap_made w _ _ _)) ⟨isMap_empty, fun s => ⟨rfl, fun _ => rfl⟩⟩
theorem LogAt.below {w w' : World} {lb : Nat} {most nest : Int} {fs : List Value} {ms : List Nat} {R : Hp} (h : LogAt w lb most nest fs ms R) (hb : Below w.heap.size w w') : LogAt w' lb most nest fs ms R := by
  obtain ⟨np, nc, mp, mc, HS⟩ := h
  exact ⟨np, nc, mp, mc, HS.below hb⟩
attribute [local go_sem] Oper.semAt_some
abbrev kO (k : ByteArray) : Obj := .cells #[.string k] 9 (0, 0)
theorem one_cell {w : World} {b : Nat} {v : Value} {T : TypeId} {S : Hp} (h : Sat w (pts b (.cells #[v] T (0, 0)) * S)) : w.cell? ⟨b, 0, none⟩ = some v := by rw [cell_at h.get]; rfl
set_option maxRecDepth 100000 in
set_option maxHeartbeats 1000000 in
/-- Note with no room. -/
theorem note_full (lb : Nat) (most nest : Int) (fs : List Value) (ms : List Nat) (fn : Nat) (cs : Array Value) (w : World) (R : Hp) (h : LogAt w lb most nest fs ms R) (hm : ms ≠ []) (hl : most ≤ (fs.length : Int)) :
    Calls Tryz.prog 104 #[.pointer (some ⟨lb, 0, none⟩), .func (.func fn) #[] cs] w fun e w' => e = .returned (.int .i64 43) ∧ LogAt w' lb most nest fs ms R ∧ Ran w w' := by
  obtain ⟨np, nc, mp, mc, HS⟩ := h
  obtain ⟨c0, c1, c2, c3, cz⟩ := log_cells HS.get
  have hml : ((ms.length : Int) == 0) = false := by
    rw [beq_eq_false_iff_ne]
    have := List.length_pos_iff.2 hm
    omega
  have HS0 := Lib.hid HS
  clear HS hm
  have efn := eql_func_nil fn cs
  go_enter Tryz.func104, Tryz.ntmps104
  go_wp2_with fail
  go_quiet (fail)
  go_wp2_with fail
  go_ret
  exact ⟨rfl, ⟨np, nc, mp, mc, HS0.out.drewN _⟩, Ran.drewN (Below.refl 0 w) _⟩
/-- What Note answers; which notes there are behind it. -/
def nE (most : Int) (fs : List Value) (ms : List Nat) : Int := if ms = [] then 0 else if (fs.length : Int) < most then 0 else 43
def nF (most : Int) (fs : List Value) (ms : List Nat) (f : Value) : List Value := if ms = [] then fs else if (fs.length : Int) < most then fs ++ [f] else fs
theorem note_any (lb : Nat) (most nest : Int) (fs : List Value) (ms : List Nat) (fn : Nat) (cs : Array Value) (w : World) (R : Hp) (h : LogAt w lb most nest fs ms R) (hb : fs.length ≤ 1000000000) (hms : ms.length ≤ 1000000) :
    Calls Tryz.prog 104 #[.pointer (some ⟨lb, 0, none⟩), .func (.func fn) #[] cs] w fun e w' => e = .returned (.int .i64 (nE most fs ms)) ∧ LogAt w' lb most nest (nF most fs ms (.func (.func fn) #[] cs)) ms R ∧ Ran w w' := by
  unfold nE nF
  by_cases hm : ms = []
  · subst hm
    rw [if_pos rfl, if_pos rfl]
    exact (note_idle lb most nest fs fn cs w R h).mono fun e w' ⟨h1, h2⟩ => ⟨h1, h2 ▸ h, h2 ▸ Below.refl 0 w⟩
  · rw [if_neg hm, if_neg hm]
    by_cases hl : (fs.length : Int) < most
    · rw [if_pos hl, if_pos hl]
      exact note_calls lb most nest fs ms fn cs w R h hm hl hb hms
    · rw [if_neg hl, if_neg hl]
      exact note_full lb most nest fs ms fn cs w R h hm (by omega)

section
variable {w : World} {A B C D E F G H I J R : Hp}
theorem pull1 (h : Sat w (A * (B * R))) : Sat w (B * (A * R)) := h.perm (by ac_rfl)
theorem pull2 (h : Sat w (A * (B * (C * R)))) : Sat w (C * (A * (B * R))) := h.perm (by ac_rfl)
theorem pull3 (h : Sat w (A * (B * (C * (D * R))))) : Sat w (D * (A * (B * (C * R)))) := h.perm (by ac_rfl)
theorem pull4 (h : Sat w (A * (B * (C * (D * (E * R)))))) : Sat w (E * (A * (B * (C * (D * R))))) := h.perm (by ac_rfl)
end
theorem nE_cases (most : Int) (fs : List Value) (ms : List Nat) : nE most fs ms = 0 ∨ nE most fs ms = 43 := by
  unfold nE
  by_cases h : ms = []
  · rw [if_pos h]; exact .inl rfl
  · rw [if_neg h]
    by_cases h2 : (fs.length : Int) < most
    · rw [if_pos h2]; exact .inl rfl
    · rw [if_neg h2]; exact .inr rfl
theorem marks_calls (lb : Nat) (most nest : Int) (fs : List Value) (ms : List Nat) (w : World) (R : Hp) (h : LogAt w lb most nest fs ms R) :
    Calls Tryz.prog 26 #[.pointer (some ⟨lb, 0, none⟩)] w fun e w' => e = .returned (.int .i64 (ms.length : Int)) ∧ w = w' := by
  obtain ⟨np, nc, mp, mc, HS⟩ := h
  obtain ⟨c0, c1, c2, c3, cz⟩ := log_cells HS.get
  clear HS
  go_enter Tryz.func26, Tryz.ntmps26
  go_wp2_with fail
  go_ret
  exact ⟨rfl, rfl⟩
set_option maxRecDepth 100000 in
/-- Undo without an open mark. -/
theorem undo_idle (lb : Nat) (most nest : Int) (fs : List Value) (w : World) (R : Hp) (h : LogAt w lb most nest fs [] R) :
    Calls Tryz.prog 28 #[.pointer (some ⟨lb, 0, none⟩)] w fun e w' => e = .returned (.int .i64 1) ∧ LogAt w' lb most nest fs [] R ∧ Ran w w' := by
  obtain ⟨np, nc, mp, mc, HS⟩ := h
  obtain ⟨c0, c1, c2, c3, cz⟩ := log_cells HS.get
  have HS0 := Lib.hid HS
  clear HS
  refine calls_of_wp_marks Tryz.func28 rfl ?_
  simp only [Tryz.ntmps28, List.size_toArray, List.length_cons, List.length_nil, Nat.reduceAdd, Nat.reduceSub, Array.replicate_succ, Array.replicate_zero, List.push_toArray, List.append_toArray, List.nil_append, List.cons_append]
  go_wp2_with fail
  refine marks_ret (results_tmp rfl _ _ _) rfl ?_
  exact ⟨rfl, ⟨np, nc, mp, mc, HS0.out⟩, Below.refl 0 w⟩
end Go.Proofs.YtlmjidandjemjaaGreatDoor.Undo

