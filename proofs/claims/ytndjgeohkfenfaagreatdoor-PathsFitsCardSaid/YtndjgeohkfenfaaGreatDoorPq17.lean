/- HandlesPlays, part 17 of 26: the texts PnA PnB PnC PnP PnQ PnR PnS, joined by a program. -/
import Derived.Test.YtndjgeohkfenfaaGreatDoorPq2
import Derived.Test.YtndjgeohkfenfaaGreatDoorRows
import Derived.Maps.OwnSet
import Derived.StringKeys
import Derived.Lib.Hide
import Derived.Test.YtndjgeohkfenfaaGreatDoorShf
import Derived.StillTailTactics
import Derived.Lib.CutLaws
namespace Go.Proofs.YtndjgeohkfenfaaGreatDoor.Hd
open Go.RowKit Go.Maps Go.Proofs.YtndjgeohkfenfaaGreatDoor Go.Proofs.YtndjgeohkfenfaaGreatDoor.Hp
set_option linter.unusedVariables false

def I64 (x : Int) : Prop := -9223372036854775808 ≤ x ∧ x ≤ 9223372036854775807
abbrev ik (n : Int) : Lit := .int .i64 n
theorem i64_wf {n : Int} (h : I64 n) : (ik n).wf = true := by
  unfold I64 at h
  simp [Lit.wf, IntKind.min, IntKind.max, IntKind.signed, IntKind.bits]
  omega
theorem intKey : Keyed Tryz.prog 3 := int_keyed Tryz.underlying3
theorem ikey {n : Int} (h : I64 n) : keyOf Tryz.prog 3 (.int .i64 n) = some (ik n) := keyOf_int_mk Tryz.underlying3 (i64_wf h)
/-- A pointer to a block's beginning, or none. -/
def pv : Option Nat → Value
  | none => .pointer none
  | some b => .pointer (some ⟨b, 0, none⟩)
def cod : Option Nat → Int
  | none => 0
  | some b => b + 1
theorem cod_inj {a b : Option Nat} (h : cod a = cod b) : a = b := by
  cases a <;> cases b <;> simp [cod] at h ⊢ <;> omega
def pel : Value → Option (DataW Unit × List MemPlace)
  | .pointer none => some (.lit (.int .i64 0), [])
  | .pointer (some ⟨b, 0, none⟩) => some (.lit (.int .i64 (b + 1)), [])
  | _ => none
theorem pel_pv (o : Option Nat) : pel (pv o) = some (.lit (ik (cod o)), []) := by cases o <;> rfl
theorem pel_inv {v : Value} {o : Option Nat} {ps : List MemPlace} (h : pel v = some (.lit (ik (cod o)), ps)) : v = pv o := by
  unfold pel at h
  split at h
  · injection h with h; injection h with h _; injection h with h; injection h with _ h
    have : o = none := cod_inj (a := o) (b := none) (by rw [← h]; rfl)
    rw [this]; rfl
  · rename_i b
    injection h with h; injection h with h _; injection h with h; injection h with _ h
    have : o = some b := cod_inj (a := o) (b := some b) (by rw [← h]; rfl)
    rw [this]; rfl
  · cases h
abbrev Owns (w : World) (b n : Nat) (D : DataW Unit) : Prop := w.ownsMap (H := Unit) Tryz.prog 3 pel b n D
theorem owns_block {w w' : World} {b n : Nat} {D : DataW Unit} (h : Owns w b n D) (e : w'.heap[b]? = w.heap[b]?) : Owns w' b n D := by
  obtain ⟨es, clock, hb, r⟩ := h
  exact ⟨es, clock, e.trans hb, r⟩
def mapD (b n : Nat) (D : DataW Unit) : Hp := ex fun o : Obj => fact (∀ w : World, w.heap[b]? = some o → Owns w b n D) * pts b o
theorem mapD_out {w : World} {b n : Nat} {D : DataW Unit} {S : Hp} (h : Sat w (mapD b n D * S)) : Owns w b n D ∧ ∃ o, Sat w (pts b o * S) := by
  unfold mapD at h
  obtain ⟨o, h⟩ := h.ex_out
  rw [sep_assoc] at h
  obtain ⟨hf, h⟩ := h.fact_out
  exact ⟨hf w h.get, o, h⟩
theorem mapD_in {w : World} {b n : Nat} {D : DataW Unit} {S : Hp} {o : Obj} (h : Sat w (pts b o * S)) (hO : Owns w b n D) : Sat w (mapD b n D * S) := by
  unfold mapD
  refine Sat.ex_in o ?_
  rw [sep_assoc]
  exact h.fact_in fun w' hw' => owns_block hO (hw'.trans h.get.symm)
theorem mapD_turned {w w' : World} {b n n' : Nat} {D D' : DataW Unit} {S : Hp} (h : Sat w (mapD b n D * S)) (ht : w.grownBy w' (some b)) (hO : Owns w' b n' D') : Sat w' (mapD b n' D' * S) := by
  obtain ⟨_, o, hs⟩ := mapD_out h
  obtain ⟨es, clock, hb, r⟩ := hO
  exact mapD_in (hs.put hb fun k hk hne => ht.block k hk (fun e => hne (by simpa using e))) ⟨es, clock, hb, r⟩
/-- What the datum says of each number. -/
structure Reads (D : DataW Unit) (M : Int → Option Nat) (sz : Nat) : Prop where
  ism : IsMap D
  has : ∀ k : Int, Maps.has D (ik k) = (M k).isSome
  val : ∀ k : Int, D.atKey (ik k) (.lit (ik 0)) = .lit (ik (cod (M k)))
  size : Maps.size D = sz
/-- A map of at most n entries ever; sz there are. -/
def pmap (b : Nat) (M : Int → Option Nat) (sz n : Nat) : Hp := ex fun D : DataW Unit => fact (Reads D M sz) * mapD b n D
def putP (M : Int → Option Nat) (k : Int) (b : Nat) : Int → Option Nat := fun t => if t = k then some b else M t
theorem ik_ne {a b : Int} (h : a ≠ b) : ik a ≠ ik b := fun e => h (by injection e)
theorem reads_put {D : DataW Unit} {M : Int → Option Nat} {sz : Nat} (h : Reads D M sz) (ht : Tidy D) (k : Int) (hM : M k = none) (b : Nat) : Reads (D.put (ik k) (.lit (ik (cod (some b))))) (putP M k b) (sz + 1) where
  ism := h.ism.put _ _
  has t := by
    unfold putP
    by_cases e : t = k
    · subst e; rw [if_pos rfl]; exact has_put_same h.ism (show WideAt.IsKeyLit (ik t) from trivial) _
    · rw [if_neg e, has_put_other (ik_ne e)]; exact h.has t
  val t := by
    unfold putP
    by_cases e : t = k
    · subst e; rw [if_pos rfl]; exact atKey_put_same h.ism (show WideAt.IsKeyLit (ik t) from trivial) _ _
    · rw [if_neg e, atKey_put_other (ik_ne e)]; exact h.val t
  size := by
    rw [size_put ht, h.has, hM, h.size]
    rfl
theorem pmap_out {w : World} {b sz n : Nat} {M : Int → Option Nat} {S : Hp} (h : Sat w (pmap b M sz n * S)) : ∃ D, Reads D M sz ∧ Sat w (mapD b n D * S) := by
  unfold pmap at h
  obtain ⟨D, h⟩ := h.ex_out
  rw [sep_assoc] at h
  obtain ⟨hf, h⟩ := h.fact_out
  exact ⟨D, hf, h⟩
theorem pmap_in {w : World} {b sz n : Nat} {M : Int → Option Nat} {S : Hp} {D : DataW Unit} (h : Sat w (mapD b n D * S)) (hR : Reads D M sz) : Sat w (pmap b M sz n * S) := by
  unfold pmap
  refine Sat.ex_in D ?_
  rw [sep_assoc]
  exact h.fact_in hR
theorem pmap_le {w : World} {b sz n : Nat} {M : Int → Option Nat} {S : Hp} (h : Sat w (pmap b M sz n * S)) : sz ≤ n := by
  obtain ⟨D, hR, h⟩ := pmap_out h
  obtain ⟨hO, _⟩ := mapD_out h
  rw [← hR.size]
  exact hO.size_le
variable {t e : TypeId}
/-- m[k] -/
theorem pmap_look (ht : Tryz.prog.underlying t = some (.map 3 e)) (hz : ∀ w, (zeroValue e).run Tryz.prog w = .ok (.pointer none) w) {w : World} {b sz n : Nat} {M : Int → Option Nat} {S : Hp} (h : Sat w (pmap b M sz n * S)) (k : Int) (hk : I64 k) :
    (Instr.lookup t (.map (some b)) (.int .i64 k) false).run Tryz.prog w = .ok (pv (M k)) w := by
  obtain ⟨D, hR, h⟩ := pmap_out h
  obtain ⟨hO, _⟩ := mapD_out h
  obtain ⟨v, ps, hrun, hv⟩ := hO.lookup intKey ht (hz w) (zd := .lit (ik 0)) (zp := []) rfl (ikey hk)
  rw [hR.val] at hv
  rw [hrun, pel_inv hv]
/-- m[k] = v, where nothing was -/
theorem pmap_put (ht : Tryz.prog.underlying t = some (.map 3 e)) {w : World} {b sz n : Nat} {M : Int → Option Nat} {S : Hp} (h : Sat w (pmap b M sz n * S)) (hn : n < maxLen) (k : Int) (hk : I64 k) (hM : M k = none) (c : Nat) :
    ∃ w', (Instr.mapUpdate t (.map (some b)) (.int .i64 k) (.pointer (some ⟨c, 0, none⟩))).run Tryz.prog w = .ok () w' ∧ Sat w' (pmap b (putP M k c) (sz + 1) (n + 1) * S) ∧ Ran w w' := by
  obtain ⟨D, hR, h⟩ := pmap_out h
  obtain ⟨hO, _⟩ := mapD_out h
  obtain ⟨w', hrun, hO', ht2⟩ := hO.store intKey ht hn (ikey hk) (pel_pv (some c))
  exact ⟨w', hrun, pmap_in (mapD_turned h ht2.grown hO') (reads_put hR (hO.tidy intKey) k hM c), ⟨ht2.grown.os, ht2.grown.tape, ht2.grown.output, ht2.grown.size, fun k hk => absurd hk (Nat.not_lt_zero _)⟩⟩
/-- len(m) -/
theorem pmap_len (ht : Tryz.prog.underlying t = some (.map 3 e)) {w : World} {b sz n : Nat} {M : Int → Option Nat} {S : Hp} (h : Sat w (pmap b M sz n * S)) (ty : TypeId) :
    (Builtin.len_ #[t] ty #[.map (some b)]).run Tryz.prog w = .ok (.int .i64 (sz : Int)) w := by
  obtain ⟨D, hR, h⟩ := pmap_out h
  obtain ⟨hO, _⟩ := mapD_out h
  rw [hO.len ht ty, hR.size]
theorem pmap_made {w : World} {S : Hp} (h : Sat w S) : Sat (w.alloc (.map #[] 0)) (pmap w.heap.size (fun _ => none) 0 0 * S) :=
  pmap_in (mapD_in (h.alloc _) (World.ownsMap_made w _ _ _)) ⟨isMap_empty, fun s => rfl, fun s => rfl, rfl⟩
theorem zeroNode (w : World) : (zeroValue 80).run Tryz.prog w = .ok (.pointer none) w := by kernel_rfl
end Go.Proofs.YtndjgeohkfenfaaGreatDoor.Hd
namespace Go.Proofs.YtndjgeohkfenfaaGreatDoor.Hd.K
open Go.RowKit Go.Maps Go.Proofs.YtndjgeohkfenfaaGreatDoor Go.Proofs.YtndjgeohkfenfaaGreatDoor.Hp
set_option linter.unusedVariables false

theorem strKey : Keyed Tryz.prog 9 := string_keyed Tryz.underlying9
theorem zeroInt (w : World) : (zeroValue 3).run Tryz.prog w = .ok (.int .i64 0) w := by kernel_rfl
abbrev kl (s : ByteArray) : Lit := .string s.data.toList
theorem key_of {s : ByteArray} (h : s.size ≤ maxLen) : keyOf Tryz.prog 9 (.string s) = some (kl s) := Go.WideMaps.keyOf_string_mk Tryz.underlying9 h
abbrev Owns (w : World) (b n : Nat) (D : DataW Unit) : Prop := w.ownsMap (H := Unit) Tryz.prog 9 (plainElem Tryz.prog 3) b n D
theorem owns_block {w w' : World} {b n : Nat} {D : DataW Unit} (h : Owns w b n D) (e : w'.heap[b]? = w.heap[b]?) : Owns w' b n D := by
  obtain ⟨es, clock, hb, r⟩ := h
  exact ⟨es, clock, e.trans hb, r⟩
def mapD (b n : Nat) (D : DataW Unit) : Hp := ex fun o : Obj => fact (∀ w : World, w.heap[b]? = some o → Owns w b n D) * pts b o
theorem mapD_out {w : World} {b n : Nat} {D : DataW Unit} {S : Hp} (h : Sat w (mapD b n D * S)) : Owns w b n D ∧ ∃ o, Sat w (pts b o * S) := by
  unfold mapD at h
  obtain ⟨o, h⟩ := h.ex_out
  rw [sep_assoc] at h
  obtain ⟨hf, h⟩ := h.fact_out
  exact ⟨hf w h.get, o, h⟩
theorem mapD_in {w : World} {b n : Nat} {D : DataW Unit} {S : Hp} {o : Obj} (h : Sat w (pts b o * S)) (hO : Owns w b n D) : Sat w (mapD b n D * S) := by
  unfold mapD
  refine Sat.ex_in o ?_
  rw [sep_assoc]
  exact h.fact_in fun w' hw' => owns_block hO (hw'.trans h.get.symm)
theorem mapD_turned {w w' : World} {b n n' : Nat} {D D' : DataW Unit} {S : Hp} (h : Sat w (mapD b n D * S)) (ht : w.grownBy w' (some b)) (hO : Owns w' b n' D') : Sat w' (mapD b n' D' * S) := by
  obtain ⟨_, o, hs⟩ := mapD_out h
  obtain ⟨es, clock, hb, r⟩ := hO
  exact mapD_in (hs.put hb fun k hk hne => ht.block k hk (fun e => hne (by simpa using e))) ⟨es, clock, hb, r⟩
abbrev SM := ByteArray → Option Int
structure Reads (D : DataW Unit) (M : SM) (sz : Nat) : Prop where
  ism : IsMap D
  has : ∀ k : ByteArray, Maps.has D (kl k) = (M k).isSome
  val : ∀ k : ByteArray, D.atKey (kl k) (.lit (.int .i64 0)) = .lit (.int .i64 ((M k).getD 0))
  size : Maps.size D = sz
def smap (b : Nat) (M : SM) (sz n : Nat) : Hp := ex fun D : DataW Unit => fact (Reads D M sz) * mapD b n D
def putM (M : SM) (k : ByteArray) (c : Int) : SM := fun t => if t = k then some c else M t
def delM (M : SM) (k : ByteArray) : SM := fun t => if t = k then none else M t
theorem kl_ne {s t : ByteArray} (h : t ≠ s) : kl t ≠ kl s := by
  intro e
  apply h
  simp only [Lit.string.injEq] at e
  cases t; cases s
  simp at e
  rw [e]
theorem reads_put {D : DataW Unit} {M : SM} {sz : Nat} (h : Reads D M sz) (ht : Tidy D) (k : ByteArray) (hM : M k = none) (c : Int) : Reads (D.put (kl k) (.lit (.int .i64 c))) (putM M k c) (sz + 1) where
  ism := h.ism.put _ _
  has t := by
    unfold putM
    by_cases e : t = k
    · subst e; rw [if_pos rfl]; exact has_put_same h.ism (show WideAt.IsKeyLit (kl t) from trivial) _
    · rw [if_neg e, has_put_other (kl_ne e)]; exact h.has t
  val t := by
    unfold putM
    by_cases e : t = k
    · subst e; rw [if_pos rfl]; exact atKey_put_same h.ism (show WideAt.IsKeyLit (kl t) from trivial) _ _
    · rw [if_neg e, atKey_put_other (kl_ne e)]; exact h.val t
  size := by
    rw [size_put ht, h.has, hM, h.size]
    rfl
theorem smap_out {w : World} {b sz n : Nat} {M : SM} {S : Hp} (h : Sat w (smap b M sz n * S)) : ∃ D, Reads D M sz ∧ Sat w (mapD b n D * S) := by
  unfold smap at h
  obtain ⟨D, h⟩ := h.ex_out
  rw [sep_assoc] at h
  obtain ⟨hf, h⟩ := h.fact_out
  exact ⟨D, hf, h⟩
theorem smap_in {w : World} {b sz n : Nat} {M : SM} {S : Hp} {D : DataW Unit} (h : Sat w (mapD b n D * S)) (hR : Reads D M sz) : Sat w (smap b M sz n * S) := by
  unfold smap
  refine Sat.ex_in D ?_
  rw [sep_assoc]
  exact h.fact_in hR
/-- m[k] -/
theorem smap_look {w : World} {b sz n : Nat} {M : SM} {S : Hp} (h : Sat w (smap b M sz n * S)) (k : ByteArray) (hk : k.size ≤ maxLen) :
    (Instr.lookup 89 (.map (some b)) (.string k) false).run Tryz.prog w = .ok (.int .i64 ((M k).getD 0)) w := by
  obtain ⟨D, hR, h⟩ := smap_out h
  obtain ⟨hO, _⟩ := mapD_out h
  obtain ⟨c, hrun, hv, _⟩ := hO.lookup_int strKey Tryz.underlying89 Tryz.underlying3 (zeroInt w) (key_of hk)
  rw [hR.val] at hv
  simp only [DataW.lit.injEq, Lit.int.injEq, true_and] at hv
  rw [hrun, ← hv]
/-- m[k] = v, where nothing was -/
theorem smap_put {w : World} {b sz n : Nat} {M : SM} {S : Hp} (h : Sat w (smap b M sz n * S)) (hn : n < maxLen) (k : ByteArray) (hk : k.size ≤ maxLen) (hM : M k = none) (c : Int) (hc : I64 c) :
    ∃ w', (Instr.mapUpdate 89 (.map (some b)) (.string k) (.int .i64 c)).run Tryz.prog w = .ok () w' ∧ Sat w' (smap b (putM M k c) (sz + 1) (n + 1) * S) ∧ Ran w w' := by
  obtain ⟨D, hR, h⟩ := smap_out h
  obtain ⟨hO, _⟩ := mapD_out h
  obtain ⟨w', hrun, hO', ht2⟩ := hO.store strKey Tryz.underlying89 hn (key_of hk) (plainElem_int Tryz.underlying3 (i64_wf hc))
  exact ⟨w', hrun, smap_in (mapD_turned h ht2.grown hO') (reads_put hR (hO.tidy strKey) k hM c), ⟨ht2.grown.os, ht2.grown.tape, ht2.grown.output, ht2.grown.size, fun k hk => absurd hk (Nat.not_lt_zero _)⟩⟩
theorem smap_made {w : World} {S : Hp} (h : Sat w S) : Sat (w.alloc (.map #[] 0)) (smap w.heap.size (fun _ => none) 0 0 * S) :=
  smap_in (mapD_in (h.alloc _) (World.ownsMap_made w _ _ _)) ⟨isMap_empty, fun s => rfl, fun s => rfl, rfl⟩
end Go.Proofs.YtndjgeohkfenfaaGreatDoor.Hd.K
namespace Go.Proofs.YtndjgeohkfenfaaGreatDoor.Hd
open Go.RowKit Go.Maps Go.Proofs.YtndjgeohkfenfaaGreatDoor Go.Proofs.YtndjgeohkfenfaaGreatDoor.Hp
set_option linter.unusedVariables false
attribute [local go_sem] Oper.semAt_some

/-- A directory's names: the map's block, what it says, how many there are, how many there ever were at most. -/
structure Kd where
  b : Nat
  M : K.SM
  sz : Nat
  n : Nat
structure Nd where
  b : Nat
  kind : Int
  text : ByteArray
  kids : Option Kd
  par : Int
  names : Int
  holds : Int
def kv : Option Kd → Value
  | none => .map none
  | some k => .map (some k.b)
def ndO (x : Nd) : Obj := .cells #[.int .i64 x.kind, .string x.text, kv x.kids, .int .i64 x.par, .int .i64 x.names, .int .i64 x.holds] 91 (0, 0)
def kidsHp : Option Kd → Hp
  | none => emp
  | some k => K.smap k.b k.M k.sz k.n
def ndHp (x : Nd) : Hp := pts x.b (ndO x) * kidsHp x.kids
abbrev NL := List (Int × Nd)
def find : NL → Int → Option Nd
  | [], _ => none
  | p :: L, k => if p.1 = k then some p.2 else find L k
def upd : NL → Int → Nd → NL
  | [], _, _ => []
  | p :: L, k, x => if p.1 = k then (k, x) :: L else p :: upd L k x
def nds (L : NL) : Hp := all (fun p : Int × Nd => ndHp p.2) L
def blk (L : NL) : Int → Option Nat := fun k => (find L k).map Nd.b
theorem focus : ∀ (L : NL) (k : Int) (x : Nd), find L k = some x → ∃ F : Hp, nds L = ndHp x * F ∧ ∀ x', nds (upd L k x') = ndHp x' * F
  | [], _, _, h => by cases h
  | p :: L, k, x, h => by
    unfold find at h
    by_cases e : p.1 = k
    · rw [if_pos e] at h
      injection h with h
      refine ⟨nds L, by rw [← h]; rfl, fun x' => by unfold upd; rw [if_pos e]; rfl⟩
    · rw [if_neg e] at h
      obtain ⟨F, h1, h2⟩ := focus L k x h
      refine ⟨ndHp p.2 * F, ?_, fun x' => ?_⟩
      · show ndHp p.2 * nds L = _
        rw [h1]; ac_rfl
      · unfold upd; rw [if_neg e]
        show ndHp p.2 * nds (upd L k x') = _
        rw [h2 x']; ac_rfl
theorem find_upd : ∀ (L : NL) (k j : Int) (x : Nd), (find L k).isSome = true → find (upd L k x) j = if j = k then some x else find L j
  | [], _, _, _, h => by cases h
  | p :: L, k, j, x, h => by
    unfold find at h
    by_cases e : p.1 = k
    · unfold upd; rw [if_pos e]
      show (if k = j then some x else find L j) = if j = k then some x else (if p.1 = j then some p.2 else find L j)
      by_cases e2 : j = k
      · subst e2; simp
      · rw [if_neg e2, if_neg (fun h => e2 h.symm), if_neg (fun h => e2 (by rw [← h, e]))]
    · rw [if_neg e] at h
      unfold upd; rw [if_neg e]; unfold find
      by_cases e2 : p.1 = j
      · rw [if_pos e2, if_neg (fun h => e (by rw [e2, h])), if_pos e2]
      · rw [if_neg e2, find_upd L k j x h, if_neg e2]
theorem upd_len : ∀ (L : NL) (k : Int) (x : Nd), (upd L k x).length = L.length
  | [], _, _ => rfl
  | p :: L, k, x => by
    unfold upd
    split
    · rfl
    · show (upd L k x).length + 1 = _; rw [upd_len L k x]; rfl
theorem blk_upd (L : NL) (k : Int) (x x' : Nd) (h : find L k = some x) (hb : x'.b = x.b) : blk (upd L k x') = blk L := by
  funext j
  unfold blk
  rw [find_upd L k j x' (by rw [h]; rfl)]
  by_cases e : j = k
  · subst e; rw [if_pos rfl, h]; simp [hb]
  · rw [if_neg e]
/-- A tree: its bounds, what is used, its nodes; how many entries its map ever had at most. -/
structure Fs where
  most : Int
  room : Int
  used : Int
  L : NL
  n : Nat
def fsO (F : Fs) (mb : Nat) : Obj := .cells #[.int .i64 F.most, .int .i64 F.room, .int .i64 F.used, .map (some mb)] 83 (0, 0)
def fsHp (fb mb : Nat) (F : Fs) : Hp := pts fb (fsO F mb) * (pmap mb (blk F.L) F.L.length F.n * nds F.L)
abbrev pp (b : Nat) : Value := .pointer (some ⟨b, 0, none⟩)
theorem fs_cells {w : World} {fb mb : Nat} {F : Fs} {R : Hp} (h : Sat w (fsHp fb mb F * R)) : w.cell? ⟨fb, 0, none⟩ = some (.int .i64 F.most) ∧ w.cell? ⟨fb, 1, none⟩ = some (.int .i64 F.room) ∧ w.cell? ⟨fb, 2, none⟩ = some (.int .i64 F.used) ∧ w.cell? ⟨fb, 3, none⟩ = some (.map (some mb)) := by
  have hb := (h.perm (show _ = pts fb (fsO F mb) * (pmap mb (blk F.L) F.L.length F.n * nds F.L * R) by unfold fsHp; ac_rfl)).get
  refine ⟨?_, ?_, ?_, ?_⟩ <;> rw [cell_at hb] <;> rfl
theorem fs_look {w : World} {fb mb : Nat} {F : Fs} {R : Hp} (h : Sat w (fsHp fb mb F * R)) (k : Int) (hk : I64 k) : (Instr.lookup 81 (.map (some mb)) (.int .i64 k) false).run Tryz.prog w = .ok (pv (blk F.L k)) w :=
  pmap_look Tryz.underlying81 zeroNode (h.perm (show _ = pmap mb (blk F.L) F.L.length F.n * (pts fb (fsO F mb) * nds F.L * R) by unfold fsHp; ac_rfl)) k hk
/-- One node, and how another one takes its place. -/
theorem fs_node {w : World} {fb mb : Nat} {F : Fs} {R : Hp} (h : Sat w (fsHp fb mb F * R)) {k : Int} {x : Nd} (hx : find F.L k = some x) :
    ∃ X : Hp, Sat w (pts x.b (ndO x) * (kidsHp x.kids * (pts fb (fsO F mb) * (X * R)))) ∧
      ∀ (w' : World) (x' : Nd) (F' : Fs) (R' : Hp), x'.b = x.b → F'.L = upd F.L k x' → F'.n = F.n → Sat w' (pts x'.b (ndO x') * (kidsHp x'.kids * (pts fb (fsO F' mb) * (X * R')))) → Sat w' (fsHp fb mb F' * R') := by
  obtain ⟨X, h1, h2⟩ := focus F.L k x hx
  refine ⟨pmap mb (blk F.L) F.L.length F.n * X, h.perm ?_, fun w' x' F' R' hb hL hn h' => h'.perm ?_⟩
  · unfold fsHp; rw [h1]; unfold ndHp; ac_rfl
  · unfold fsHp
    rw [hL, h2 x', blk_upd F.L k x x' hx hb, upd_len, hn]; unfold ndHp; ac_rfl
theorem nd_cells {w : World} {x : Nd} {S : Hp} (h : Sat w (pts x.b (ndO x) * S)) : w.cell? ⟨x.b, 0, none⟩ = some (.int .i64 x.kind) ∧ w.cell? ⟨x.b, 1, none⟩ = some (.string x.text) ∧ w.cell? ⟨x.b, 2, none⟩ = some (kv x.kids) ∧ w.cell? ⟨x.b, 3, none⟩ = some (.int .i64 x.par) ∧ w.cell? ⟨x.b, 4, none⟩ = some (.int .i64 x.names) ∧ w.cell? ⟨x.b, 5, none⟩ = some (.int .i64 x.holds) := by
  have hb := h.get
  refine ⟨?_, ?_, ?_, ?_, ?_, ?_⟩ <;> rw [cell_at hb] <;> rfl
/-- What stands where a node stands. -/
theorem fs_at {w : World} {fb mb : Nat} {F : Fs} {R : Hp} (h : Sat w (fsHp fb mb F * R)) {k : Int} {x : Nd} (hx : find F.L k = some x) : w.cell? ⟨x.b, 0, none⟩ = some (.int .i64 x.kind) ∧ w.cell? ⟨x.b, 1, none⟩ = some (.string x.text) ∧ w.cell? ⟨x.b, 2, none⟩ = some (kv x.kids) ∧ w.cell? ⟨x.b, 3, none⟩ = some (.int .i64 x.par) ∧ w.cell? ⟨x.b, 4, none⟩ = some (.int .i64 x.names) ∧ w.cell? ⟨x.b, 5, none⟩ = some (.int .i64 x.holds) := by
  obtain ⟨X, h1, _⟩ := fs_node h hx
  exact nd_cells h1
def isK (F : Fs) (k kd : Int) : Bool := match find F.L k with
  | none => false
  | some x => x.kind == kd
set_option maxRecDepth 100000 in
set_option maxHeartbeats 4000000 in
theorem is_calls (fb mb : Nat) (F : Fs) (k kd : Int) (hk : I64 k) (w : World) (R : Hp) (h : Sat w (fsHp fb mb F * R)) :
    Calls Tryz.prog 39 #[pp fb, .int .i64 k, .int .i64 kd] w fun e w' => e = .returned (.bool (isK F k kd)) ∧ w = w' := by
  obtain ⟨c0, c1, c2, c3⟩ := fs_cells h
  have hl := fs_look h k hk
  unfold isK
  cases hx : find F.L k with
  | none =>
    have : blk F.L k = none := by unfold blk; rw [hx]; rfl
    rw [this] at hl
    clear h hx this
    unfold pv at hl
    go_enter Tryz.func39, Tryz.ntmps39
    go_wp2_with fail
    go_ret
    exact ⟨rfl, rfl⟩
  | some x =>
    have : blk F.L k = some x.b := by unfold blk; rw [hx]; rfl
    rw [this] at hl
    obtain ⟨d0, d1, d2, d3, d4, d5⟩ := fs_at h hx
    show Calls _ _ _ _ (fun e w' => e = .returned (.bool (x.kind == kd)) ∧ w = w')
    unfold pv at hl
    clear h hx this
    go_enter Tryz.func39, Tryz.ntmps39
    go_wp2_with fail
    go_ret
    exact ⟨rfl, rfl⟩
/-- The node of a number that has bytes, and what is wrong with it. -/
def textE (F : Fs) (k : Int) : Int := match find F.L k with
  | none => 10
  | some x => if x.kind = 1 then 13 else 0
def textV (F : Fs) (k : Int) : Option Nat := match find F.L k with
  | none => none
  | some x => if x.kind = 1 then none else some x.b
set_option maxRecDepth 100000 in
set_option maxHeartbeats 4000000 in
theorem text_calls (fb mb : Nat) (F : Fs) (k : Int) (hk : I64 k) (w : World) (R : Hp) (h : Sat w (fsHp fb mb F * R)) :
    Calls Tryz.prog 102 #[pp fb, .int .i64 k] w fun e w' => e = .returned (.tuple #[pv (textV F k), .int .i64 (textE F k)]) ∧ w = w' := by
  obtain ⟨c0, c1, c2, c3⟩ := fs_cells h
  have hl := fs_look h k hk
  have HI := is_calls fb mb F k 1 hk w R h
  unfold isK at HI
  unfold textE textV
  cases hx : find F.L k with
  | none =>
    have : blk F.L k = none := by unfold blk; rw [hx]; rfl
    rw [this] at hl
    clear h hx this HI
    unfold pv at hl
    go_enter Tryz.func102, Tryz.ntmps102
    go_wp2_with fail
    go_ret2
    exact ⟨rfl, rfl⟩
  | some x =>
    have : blk F.L k = some x.b := by unfold blk; rw [hx]; rfl
    rw [this] at hl
    rw [hx] at HI
    unfold pv at hl
    by_cases e : x.kind = 1
    · rw [show (match some x with | none => false | some x => x.kind == 1) = true by simp [e]] at HI
      have HI := Lib.hid HI
      dsimp only
      rw [if_pos e, if_pos e]
      clear h hx this e
      go_enter Tryz.func102, Tryz.ntmps102
      go_wp2_with fail
      refine HI.out.mono ?_
      rintro e w1 ⟨rfl, rfl⟩
      go_wp2_with fail
      go_ret2
      exact ⟨rfl, rfl⟩
    · rw [show (match some x with | none => false | some x => x.kind == 1) = false by simp [e]] at HI
      have HI := Lib.hid HI
      dsimp only
      rw [if_neg e, if_neg e]
      clear h hx this e
      go_enter Tryz.func102, Tryz.ntmps102
      go_wp2_with fail
      refine HI.out.mono ?_
      rintro e w1 ⟨rfl, rfl⟩
      go_wp2_with fail
      go_ret2
      exact ⟨rfl, rfl⟩
end Go.Proofs.YtndjgeohkfenfaaGreatDoor.Hd
namespace Go.Proofs.YtndjgeohkfenfaaGreatDoor.Hd
open Go.RowKit Go.Maps Go.Proofs.YtndjgeohkfenfaaGreatDoor Go.Proofs.YtndjgeohkfenfaaGreatDoor.Hp
set_option linter.unusedVariables false
attribute [local go_sem] Oper.semAt_some

def ksz : Option Kd → Nat
  | none => 0
  | some k => k.sz
def NdSmall (x : Nd) : Prop := x.text.size ≤ 1000000 ∧ ksz x.kids ≤ 1000000
end Go.Proofs.YtndjgeohkfenfaaGreatDoor.Hd

namespace Go.Proofs.YtndjgeohkfenfaaGreatDoor.Hd
open Go.RowKit Go.Maps Go.Proofs.YtndjgeohkfenfaaGreatDoor Go.Proofs.YtndjgeohkfenfaaGreatDoor.Hp
set_option linter.unusedVariables false
attribute [local go_sem] Oper.semAt_some

structure NdOk (x : Nd) : Prop where
  text : x.text.size ≤ 1000000
  kids : ksz x.kids ≤ 1000000
  holds : 0 ≤ x.holds ∧ x.holds ≤ 1000000
  names : 0 ≤ x.names ∧ x.names ≤ 1000000
def FsOk (F : Fs) : Prop := ∀ k x, find F.L k = some x → NdOk x
theorem FsOk.small {F : Fs} (h : FsOk F) (k : Int) : ∀ x, find F.L k = some x → NdSmall x := fun x hx => ⟨(h k x hx).text, (h k x hx).kids⟩
def Fs.put (F : Fs) (k : Int) (x : Nd) : Fs := { F with L := upd F.L k x }
def holdP (F : Fs) (k : Int) : Fs := match find F.L k with
  | none => F
  | some x => F.put k { x with holds := x.holds + 1 }
theorem below_ran {w w' : World} {B : Nat} (h : Below B w w') : Ran w w' := h.mono (Nat.zero_le _)
end Go.Proofs.YtndjgeohkfenfaaGreatDoor.Hd
namespace Go.Proofs.YtndjgeohkfenfaaGreatDoor.Hd
open Go.RowKit Go.Maps Go.Proofs.YtndjgeohkfenfaaGreatDoor Go.Proofs.YtndjgeohkfenfaaGreatDoor.Hp
set_option linter.unusedVariables false
attribute [local go_sem] Oper.semAt_some

end Go.Proofs.YtndjgeohkfenfaaGreatDoor.Hd
namespace Go.Proofs.YtndjgeohkfenfaaGreatDoor.Hd
open Go.RowKit Go.Maps Go.Proofs.YtndjgeohkfenfaaGreatDoor Go.Proofs.YtndjgeohkfenfaaGreatDoor.Hp
set_option linter.unusedVariables false
attribute [local go_sem] Oper.semAt_some

end Go.Proofs.YtndjgeohkfenfaaGreatDoor.Hd
namespace Go.Proofs.YtndjgeohkfenfaaGreatDoor.Hd
open Go.RowKit Go.Maps Go.Proofs.YtndjgeohkfenfaaGreatDoor Go.Proofs.YtndjgeohkfenfaaGreatDoor.Hp
set_option linter.unusedVariables false
attribute [local go_sem] Oper.semAt_some

end Go.Proofs.YtndjgeohkfenfaaGreatDoor.Hd

namespace Go.Proofs.YtndjgeohkfenfaaGreatDoor.Hd
open Go.RowKit Go.Maps Go.Proofs.YtndjgeohkfenfaaGreatDoor Go.Proofs.YtndjgeohkfenfaaGreatDoor.Hp
set_option linter.unusedVariables false
attribute [local go_sem] Oper.semAt_some

section
variable {α : Type}
def findA : List (Int × α) → Int → Option α
  | [], _ => none
  | p :: L, k => if p.1 = k then some p.2 else findA L k
def updA : List (Int × α) → Int → α → List (Int × α)
  | [], _, _ => []
  | p :: L, k, x => if p.1 = k then (k, x) :: L else p :: updA L k x
def delA : List (Int × α) → Int → List (Int × α)
  | [], _ => []
  | p :: L, k => if p.1 = k then L else p :: delA L k
theorem findA_upd : ∀ (L : List (Int × α)) (k j : Int) (x : α), (findA L k).isSome = true → findA (updA L k x) j = if j = k then some x else findA L j
  | [], _, _, _, h => by cases h
  | p :: L, k, j, x, h => by
    unfold findA at h
    by_cases e : p.1 = k
    · unfold updA; rw [if_pos e]
      show (if k = j then some x else findA L j) = if j = k then some x else (if p.1 = j then some p.2 else findA L j)
      by_cases e2 : j = k
      · subst e2; simp
      · rw [if_neg e2, if_neg (fun h => e2 h.symm), if_neg (fun h => e2 (by rw [← h, e]))]
    · rw [if_neg e] at h
      unfold updA; rw [if_neg e]; unfold findA
      by_cases e2 : p.1 = j
      · rw [if_pos e2, if_neg (fun h => e (by rw [e2, h])), if_pos e2]
      · rw [if_neg e2, findA_upd L k j x h, if_neg e2]
theorem findA_mem : ∀ (L : List (Int × α)) (k : Int), (findA L k).isSome = true → k ∈ L.map Prod.fst
  | [], k, h => by cases h
  | p :: L, k, h => by
    unfold findA at h
    by_cases e : p.1 = k
    · rw [← e]; exact List.mem_cons_self
    · rw [if_neg e] at h; exact List.mem_cons_of_mem _ (findA_mem L k h)
end
end Go.Proofs.YtndjgeohkfenfaaGreatDoor.Hd
namespace Go.Proofs.YtndjgeohkfenfaaGreatDoor.Hd
open Go.RowKit Go.Maps Go.Proofs.YtndjgeohkfenfaaGreatDoor Go.Proofs.YtndjgeohkfenfaaGreatDoor.Hp
set_option linter.unusedVariables false
attribute [local go_sem] Oper.semAt_some

theorem find_findA : ∀ (L : NL) (k : Int), find L k = findA L k
  | [], _ => rfl
  | p :: L, k => by unfold find findA; rw [find_findA L k]
structure FreeN (L : NL) (g : Nat) : Prop where
  pos : 1 ≤ g
  le : g ≤ L.length + 1
  none : find L (g : Int) = none
  least : ∀ j : Nat, 1 ≤ j → j < g → (find L (j : Int)).isSome = true
theorem find_cons (L : NL) (k j : Int) (x : Nd) : find ((k, x) :: L) j = if j = k then some x else find L j := by
  show (if k = j then some x else find L j) = _
  by_cases e : j = k
  · subst e; simp
  · rw [if_neg e, if_neg (fun h => e h.symm)]
theorem blk_cons (L : NL) (k : Int) (x : Nd) : blk ((k, x) :: L) = putP (blk L) k x.b := by
  funext j
  unfold blk putP
  rw [find_cons]
  by_cases e : j = k
  · rw [if_pos e, if_pos e]; rfl
  · rw [if_neg e, if_neg e]
end Go.Proofs.YtndjgeohkfenfaaGreatDoor.Hd
namespace Go.Proofs.YtndjgeohkfenfaaGreatDoor.Hd
open Go.RowKit Go.Maps Go.Proofs.YtndjgeohkfenfaaGreatDoor Go.Proofs.YtndjgeohkfenfaaGreatDoor.Hp
set_option linter.unusedVariables false
attribute [local go_sem] Oper.semAt_some

theorem findA_del {α : Type} : ∀ (L : List (Int × α)) (k j : Int), (L.map Prod.fst).Nodup → findA (delA L k) j = if j = k then none else findA L j
  | [], k, j, _ => by unfold delA findA; simp
  | p :: L, k, j, h => by
    rw [List.map_cons, List.nodup_cons] at h
    unfold delA
    by_cases e : p.1 = k
    · rw [if_pos e]
      by_cases e2 : j = k
      · rw [if_pos e2]
        cases hf : findA L j with
        | none => rfl
        | some z => exact absurd (findA_mem L j (by rw [hf]; rfl)) (by rw [e2, ← e]; exact h.1)
      · rw [if_neg e2]
        show _ = (if p.1 = j then some p.2 else findA L j)
        rw [if_neg (fun h => e2 (by rw [← h, e]))]
    · rw [if_neg e]
      show (if p.1 = j then some p.2 else findA (delA L k) j) = if j = k then none else (if p.1 = j then some p.2 else findA L j)
      by_cases e2 : p.1 = j
      · rw [if_pos e2, if_pos e2, if_neg (fun h => e (by rw [e2, h]))]
      · rw [if_neg e2, if_neg e2, findA_del L k j h.2]
theorem delA_len {α : Type} : ∀ (L : List (Int × α)) (k : Int), (findA L k).isSome = true → (delA L k).length + 1 = L.length
  | [], k, h => by cases h
  | p :: L, k, h => by
    unfold findA at h
    unfold delA
    by_cases e : p.1 = k
    · rw [if_pos e]; rfl
    · rw [if_neg e] at h ⊢
      show (delA L k).length + 1 + 1 = L.length + 1
      rw [delA_len L k h]
end Go.Proofs.YtndjgeohkfenfaaGreatDoor.Hd

namespace Go.Proofs.YtndjgeohkfenfaaGreatDoor.Hd
open Go.RowKit Go.Maps Go.Proofs.YtndjgeohkfenfaaGreatDoor Go.Proofs.YtndjgeohkfenfaaGreatDoor.Hp
set_option linter.unusedVariables false

abbrev dotB : ByteArray := ⟨#[46]⟩
abbrev dotsB : ByteArray := ⟨#[46, 46]⟩
/-- May it be a name? -/
def rightB (s : ByteArray) : Bool := !decide (s.size = 0) && !decide (s = dotB) && !decide (s = dotsB) && decide (s.size ≤ 32) && decide (Lib.indexByte s.data.toList 0 < 0)
def tellP (n : Int) : Int × Int := if n = 0 then (0, 10) else (n, 0)
/-- The number that a directory has at a name. -/
def kidP (x : Nd) (s : ByteArray) : Int := match x.kids with
  | none => 0
  | some kd => (kd.M s).getD 0
def stepP (F : Fs) (d : Int) (s : ByteArray) : Int × Int := match find F.L d with
  | none => (0, 12)
  | some x => if x.kind = 1 then (if s = dotB then tellP d else if s = dotsB then tellP x.par else if rightB s = false then (0, 16) else tellP (kidP x s)) else (0, 12)
def textOf (F : Fs) (k : Int) : ByteArray := ((find F.L k).map Nd.text).getD ⟨#[]⟩
def beginP (at_ : Int) (s : ByteArray) : Int × Int := if s.size = 0 then (0, 10) else if 256 < s.size then (0, 21) else if s.data.toList.head? = some 47 then (1, 0) else (at_, 0)
/-- Where a path comes to, by parts: a node, what is wrong, the links that were followed. -/
def loopP (F : Fs) : Nat → Int → Int → List UInt8 → Bool → (Int × Int) × Int
  | 0, links, _, _, _ => ((0, 17), links)
  | g + 1, links, at_, path, follow =>
    if (Lib.cut (Lib.trimLeftB path 47) [47]).1 = [] then ((at_, 0), links)
    else if (stepP F at_ ⟨(Lib.cut (Lib.trimLeftB path 47) [47]).1.toArray⟩).2 ≠ 0 then ((0, (stepP F at_ ⟨(Lib.cut (Lib.trimLeftB path 47) [47]).1.toArray⟩).2), links)
    else
      let c := Lib.cut (Lib.trimLeftB path 47) [47]
      let n := (stepP F at_ ⟨c.1.toArray⟩).1
      let fin : Int → Int → (Int × Int) × Int := fun n lk => if c.2.2 = false then ((n, 0), lk) else if isK F n 1 = false then ((0, 12), lk) else loopP F g lk n c.2.1 follow
      if (isK F n 3 && (c.2.2 || follow)) = true then
        if 8 < links + 1 then ((0, 17), links + 1)
        else if (beginP at_ (textOf F n)).2 ≠ 0 then ((0, (beginP at_ (textOf F n)).2), links + 1)
        else
          let r := loopP F g (links + 1) (beginP at_ (textOf F n)).1 (textOf F n).data.toList true
          if r.1.2 ≠ 0 then ((0, r.1.2), r.2) else fin r.1.1 r.2
      else fin n links
theorem loop_links (F : Fs) : ∀ (g : Nat) (links at_ : Int) (path : List UInt8) (follow : Bool), links ≤ (loopP F g links at_ path follow).2
  | 0, links, _, _, _ => Int.le_refl _
  | g + 1, links, at_, path, follow => by
    have ih := loop_links F g
    unfold loopP
    dsimp only
    split
    · exact Int.le_refl _
    split
    · exact Int.le_refl _
    split
    · split
      · show links ≤ links + 1; omega
      split
      · show links ≤ links + 1; omega
      split
      · have := ih (links + 1) (beginP at_ (textOf F (stepP F at_ ⟨(Lib.cut (Lib.trimLeftB path 47) [47]).1.toArray⟩).1)).1 (textOf F (stepP F at_ ⟨(Lib.cut (Lib.trimLeftB path 47) [47]).1.toArray⟩).1).data.toList true
        show links ≤ _
        omega
      · have h1 := ih (links + 1) (beginP at_ (textOf F (stepP F at_ ⟨(Lib.cut (Lib.trimLeftB path 47) [47]).1.toArray⟩).1)).1 (textOf F (stepP F at_ ⟨(Lib.cut (Lib.trimLeftB path 47) [47]).1.toArray⟩).1).data.toList true
        split
        · show links ≤ _; omega
        split
        · show links ≤ _; omega
        · refine Int.le_trans ?_ (ih _ _ _ _)
          omega
    · split
      · exact Int.le_refl _
      split
      · exact Int.le_refl _
      · exact ih _ _ _ _
end Go.Proofs.YtndjgeohkfenfaaGreatDoor.Hd

namespace Go.Proofs.YtndjgeohkfenfaaGreatDoor.Hd
open Go.RowKit Go.Maps Go.Proofs.YtndjgeohkfenfaaGreatDoor Go.Proofs.YtndjgeohkfenfaaGreatDoor.Hp
set_option linter.unusedVariables false
attribute [local go_sem] Oper.semAt_some

theorem ba_ne {s t : ByteArray} (h : s ≠ t) : (s.toList == t.toList) = false := by
  cases e : (s.toList == t.toList) with
  | false => rfl
  | true =>
    rw [beq_iff_eq, ByteArray.toList_eq, ByteArray.toList_eq] at e
    exact absurd (ByteArray.ext (Array.ext' e)) h
theorem ba_nil {s : ByteArray} (h : s.size = 0) : s = ⟨#[]⟩ := by
  obtain ⟨d⟩ := s
  rw [Array.eq_empty_of_size_eq_zero (show d.size = 0 from h)]
set_option maxRecDepth 100000 in
theorem rightN_calls (s : ByteArray) (w : World) (hs : s.size ≤ 1000000) :
    Calls Tryz.prog 117 #[.string s] w fun e w' => e = .returned (.bool (rightB s)) ∧ w = w' := by
  by_cases h0 : s.size = 0
  · obtain rfl := ba_nil h0
    rw [show rightB ⟨#[]⟩ = false from rfl]
    clear h0
    go_enter Tryz.func117, Tryz.ntmps117
    go_wp2_with fail
    go_ret
    exact ⟨rfl, rfl⟩
  by_cases h1 : s = dotB
  · subst h1
    rw [show rightB dotB = false by decide]
    clear h0
    go_enter Tryz.func117, Tryz.ntmps117
    go_wp2_with fail
    go_ret
    exact ⟨rfl, rfl⟩
  by_cases h2 : s = dotsB
  · subst h2
    rw [show rightB dotsB = false by decide]
    clear h0 h1
    go_enter Tryz.func117, Tryz.ntmps117
    go_wp2_with fail
    go_ret
    exact ⟨rfl, rfl⟩
  have hn0 : s ≠ ⟨#[]⟩ := fun e => h0 (by rw [e]; rfl)
  have e0 := ba_ne hn0
  have e1 := ba_ne h1
  have e2 := ba_ne h2
  rw [show (ByteArray.toList ⟨#[]⟩) = ([] : List UInt8) by rw [ByteArray.toList_eq]] at e0
  rw [show (ByteArray.toList dotB) = ([46] : List UInt8) by rw [ByteArray.toList_eq]] at e1
  rw [show (ByteArray.toList dotsB) = ([46, 46] : List UInt8) by rw [ByteArray.toList_eq]] at e2
  have hr : rightB s = (decide (s.size ≤ 32) && decide (Lib.indexByte s.data.toList 0 < 0)) := by
    unfold rightB
    rw [decide_eq_false h0, decide_eq_false h1, decide_eq_false h2]
    simp
  rw [hr]
  have hsI : (s.size : Int) ≤ 1000000 := by omega
  clear hn0 hr h0 h1 h2
  by_cases h3 : s.size ≤ 32
  · have HIx := Tryz.strings_IndexByte s 0 w
    have h3I : (s.size : Int) ≤ 32 := by omega
    rw [decide_eq_true h3, Bool.true_and]
    obtain ⟨x, hx⟩ : ∃ x, x = Lib.indexByte s.data.toList 0 := ⟨_, rfl⟩
    rw [← hx]
    have HX := Lib.hid hx
    have HIx := Lib.hid HIx
    clear hx h3
    go_enter Tryz.func117, Tryz.ntmps117
    go_wp2_with fail
    refine HIx.out.mono ?_
    rintro e w1 ⟨rfl, rfl⟩
    rw [show Lib.indexByte s.data.toList (Int.toNat 0).toUInt8 = x from HX.out.symm]
    go_wp2_with fail
    go_ret
    exact ⟨rfl, rfl⟩
  · have h3I : ¬ (s.size : Int) ≤ 32 := by omega
    rw [decide_eq_false h3, Bool.false_and]
    clear h3
    go_enter Tryz.func117, Tryz.ntmps117
    go_wp2_with fail
    go_ret
    exact ⟨rfl, rfl⟩
end Go.Proofs.YtndjgeohkfenfaaGreatDoor.Hd

namespace Go.Proofs.YtndjgeohkfenfaaGreatDoor.Hd
open Go.RowKit Go.Maps Go.Proofs.YtndjgeohkfenfaaGreatDoor Go.Proofs.YtndjgeohkfenfaaGreatDoor.Hp
set_option linter.unusedVariables false
attribute [local go_sem] Oper.semAt_some

theorem smap_none (k : ByteArray) (hk : k.size ≤ maxLen) (w : World) : (Instr.lookup 89 (.map none) (.string k) false).run Tryz.prog w = .ok (.int .i64 0) w := by
  have := Maps.look_nil (w := w) false K.strKey Tryz.underlying89 (K.zeroInt w) (K.key_of hk)
  simpa using this
set_option maxRecDepth 100000 in
set_option maxHeartbeats 4000000 in
theorem stepN_calls (fb mb : Nat) (F : Fs) (d : Int) (s : ByteArray) (hd : I64 d) (hs : s.size ≤ 1000000) (w : World) (R : Hp) (h : Sat w (fsHp fb mb F * R)) :
    Calls Tryz.prog 84 #[pp fb, .int .i64 d, .string s] w fun e w' => e = .returned (.tuple #[.int .i64 (stepP F d s).1, .int .i64 (stepP F d s).2]) ∧ w = w' := by
  have HI := is_calls fb mb F d 1 hd w R h
  unfold isK at HI
  unfold stepP
  cases hx : find F.L d with
  | none =>
    rw [hx] at HI
    have HI := Lib.hid HI
    clear h hx
    go_enter Tryz.func84, Tryz.ntmps84
    go_wp2_with fail
    refine HI.out.mono ?_
    rintro e w1 ⟨rfl, rfl⟩
    go_wp2_with fail
    go_ret2
    exact ⟨rfl, rfl⟩
  | some x =>
    rw [hx] at HI
    dsimp only at HI ⊢
    by_cases h1 : x.kind = 1
    · rw [if_pos h1]
      rw [h1, show ((1 : Int) == 1) = true by rfl] at HI
      have HI := Lib.hid HI
      obtain ⟨c0, c1, c2, c3⟩ := fs_cells h
      have hl := fs_look h d hd
      rw [show blk F.L d = some x.b by unfold blk; rw [hx]; rfl] at hl
      unfold pv at hl
      obtain ⟨X, S1, -⟩ := fs_node h hx
      obtain ⟨d0, d1, d2, d3, d4, d5⟩ := nd_cells S1
      by_cases hs1 : s = dotB
      · rw [if_pos hs1]
        subst hs1
        clear h hx S1
        unfold tellP
        by_cases hz : d = 0
        · rw [if_pos hz]
          subst hz
          go_enter Tryz.func84, Tryz.ntmps84
          go_wp2_with fail
          refine HI.out.mono ?_
          rintro e w1 ⟨rfl, rfl⟩
          go_wp2_with fail
          go_ret2
          exact ⟨rfl, rfl⟩
        · rw [if_neg hz]
          go_enter Tryz.func84, Tryz.ntmps84
          go_wp2_with fail
          refine HI.out.mono ?_
          rintro e w1 ⟨rfl, rfl⟩
          go_wp2_with fail
          go_ret2
          exact ⟨rfl, rfl⟩
      rw [if_neg hs1]
      by_cases hs2 : s = dotsB
      · rw [if_pos hs2]
        subst hs2
        clear h hx S1 hs1
        unfold tellP
        obtain ⟨y, hy⟩ : ∃ y, y = x.par := ⟨_, rfl⟩
        rw [← hy] at d3 ⊢
        clear hy
        by_cases hz : y = 0
        · rw [if_pos hz]
          subst hz
          go_enter Tryz.func84, Tryz.ntmps84
          go_wp2_with fail
          refine HI.out.mono ?_
          rintro e w1 ⟨rfl, rfl⟩
          go_wp2_with fail
          go_ret2
          exact ⟨rfl, rfl⟩
        · rw [if_neg hz]
          go_enter Tryz.func84, Tryz.ntmps84
          go_wp2_with fail
          refine HI.out.mono ?_
          rintro e w1 ⟨rfl, rfl⟩
          go_wp2_with fail
          go_ret2
          exact ⟨rfl, rfl⟩
      rw [if_neg hs2]
      have e1 := ba_ne hs1
      have e2 := ba_ne hs2
      rw [show (ByteArray.toList dotB) = ([46] : List UInt8) by rw [ByteArray.toList_eq]] at e1
      rw [show (ByteArray.toList dotsB) = ([46, 46] : List UInt8) by rw [ByteArray.toList_eq]] at e2
      have HR := rightN_calls s w hs
      by_cases hr : rightB s = false
      · rw [if_pos hr]
        rw [hr] at HR
        have HR := Lib.hid HR
        clear h hx S1 hs1 hs2 hr
        go_enter Tryz.func84, Tryz.ntmps84
        go_wp2_with fail
        refine HI.out.mono ?_
        rintro e w1 ⟨rfl, rfl⟩
        go_wp2_with fail
        refine HR.out.mono ?_
        rintro e w1 ⟨rfl, rfl⟩
        go_wp2_with fail
        go_ret2
        exact ⟨rfl, rfl⟩
      rw [if_neg hr]
      rw [show rightB s = true by simpa using hr] at HR
      have HR := Lib.hid HR
      have hlk : ∃ v, (Instr.lookup 89 (kv x.kids) (.string s) false).run Tryz.prog w = .ok (.int .i64 v) w ∧ v = kidP x s := by
        unfold kidP
        cases hk : x.kids with
        | none => exact ⟨0, smap_none s (by unfold maxLen; omega) w, rfl⟩
        | some kd =>
          rw [hk] at S1
          exact ⟨_, K.smap_look (S1.perm (show _ = K.smap kd.b kd.M kd.sz kd.n * (pts x.b (ndO x) * (pts fb (fsO F mb) * (X * R))) by unfold kidsHp; ac_rfl)) s (by unfold maxLen; omega), rfl⟩
      obtain ⟨v, hlv, hv⟩ := hlk
      rw [← hv]
      unfold tellP
      obtain ⟨kw, hkw⟩ : ∃ k, k = kv x.kids := ⟨_, rfl⟩
      rw [← hkw] at d2 hlv
      clear h hx S1 hs1 hs2 hr hv hkw
      by_cases hz : v = 0
      · rw [if_pos hz]
        subst hz
        go_enter Tryz.func84, Tryz.ntmps84
        go_wp2_with fail
        refine HI.out.mono ?_
        rintro e w1 ⟨rfl, rfl⟩
        go_wp2_with fail
        refine HR.out.mono ?_
        rintro e w1 ⟨rfl, rfl⟩
        go_wp2_with fail
        go_ret2
        exact ⟨rfl, rfl⟩
      · rw [if_neg hz]
        go_enter Tryz.func84, Tryz.ntmps84
        go_wp2_with fail
        refine HI.out.mono ?_
        rintro e w1 ⟨rfl, rfl⟩
        go_wp2_with fail
        refine HR.out.mono ?_
        rintro e w1 ⟨rfl, rfl⟩
        go_wp2_with fail
        go_ret2
        exact ⟨rfl, rfl⟩
    · rw [if_neg h1]
      rw [show (x.kind == 1) = false by simpa using h1] at HI
      have HI := Lib.hid HI
      clear h hx h1
      go_enter Tryz.func84, Tryz.ntmps84
      go_wp2_with fail
      refine HI.out.mono ?_
      rintro e w1 ⟨rfl, rfl⟩
      go_wp2_with fail
      go_ret2
      exact ⟨rfl, rfl⟩
end Go.Proofs.YtndjgeohkfenfaaGreatDoor.Hd

namespace Go.Proofs.YtndjgeohkfenfaaGreatDoor.Hd
open Go.RowKit Go.Maps Go.Proofs.YtndjgeohkfenfaaGreatDoor Go.Proofs.YtndjgeohkfenfaaGreatDoor.Hp
set_option linter.unusedVariables false
attribute [local go_sem] Oper.semAt_some

theorem head_eq {s : ByteArray} (h : 0 < s.size) : s.data.toList.head? = some s[0] := by
  obtain ⟨d⟩ := s
  have h2 : 0 < d.size := h
  show d.toList.head? = some d[0]
  rw [List.head?_eq_getElem?, Array.getElem?_toList, Array.getElem?_eq_getElem h2]
set_option maxRecDepth 100000 in
theorem beginN_calls (wb : Nat) (at_ : Int) (s : ByteArray) (hs : s.size ≤ 1000000) (w : World) :
    Calls Tryz.prog 81 #[pp wb, .int .i64 at_, .string s] w fun e w' => e = .returned (.tuple #[.int .i64 (beginP at_ s).1, .int .i64 (beginP at_ s).2]) ∧ w = w' := by
  unfold beginP
  by_cases h0 : s.size = 0
  · rw [if_pos h0]
    obtain rfl := ba_nil h0
    clear h0
    go_enter Tryz.func81, Tryz.ntmps81
    go_wp2_with fail
    go_ret2
    exact ⟨rfl, rfl⟩
  rw [if_neg h0]
  have hn0 : s ≠ ⟨#[]⟩ := fun e => h0 (by rw [e]; rfl)
  have e0 := ba_ne hn0
  rw [show (ByteArray.toList ⟨#[]⟩) = ([] : List UInt8) by rw [ByteArray.toList_eq]] at e0
  by_cases h1 : 256 < s.size
  · rw [if_pos h1]
    have h1I : (256 : Int) < (s.size : Int) := by omega
    clear h0 h1 hn0
    go_enter Tryz.func81, Tryz.ntmps81
    go_wp2_with fail
    go_ret2
    exact ⟨rfl, rfl⟩
  rw [if_neg h1]
  have h1I : ¬ (256 : Int) < (s.size : Int) := by omega
  have hp : 0 < s.size := by omega
  have hpI : (0 : Int) < (s.size : Int) := by omega
  rw [head_eq hp]
  by_cases h2 : s[0] = 47
  · rw [if_pos (by rw [h2])]
    clear h0 h1 hn0
    go_enter Tryz.func81, Tryz.ntmps81
    go_wp2_with fail
    go_ret2
    exact ⟨rfl, rfl⟩
  · rw [if_neg (fun e => h2 (Option.some.inj e))]
    have h2I : ¬ ((s[0].toNat : Nat) : Int) = 47 := fun e => h2 (UInt8.toNat_inj.1 (show s[0].toNat = 47 by omega))
    clear h0 h1 hn0
    go_enter Tryz.func81, Tryz.ntmps81
    go_wp2_with fail
    go_ret2
    exact ⟨rfl, rfl⟩
end Go.Proofs.YtndjgeohkfenfaaGreatDoor.Hd

