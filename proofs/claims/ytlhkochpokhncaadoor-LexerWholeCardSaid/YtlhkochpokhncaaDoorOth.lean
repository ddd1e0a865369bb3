/- An owned slice and all other blocks as they are: what an append leaves alone, and where the new slice may lie. -/
import Derived.Test.YtlhkochpokhncaaDoorArr
namespace Go.Proofs.YtlhkochpokhncaaDoor
open Go.RowKit Go.Proofs.YtlhkochpokhncaaDoor.Hp

/-- All blocks of a world but a slice's. -/
def others (w : World) (p : Option Addr) : Hp := fun h => ∀ k, h k = match p with
  | none => w.heap[k]?
  | some a => if k = a.block then none else w.heap[k]?

theorem Sat.others {w : World} {R : Hp} {E sz n cap : Nat} {p : Option Addr} {xs : List Value} (h : Sat w (arr E sz p n cap xs * R)) : Sat w (arr E sz p n cap xs * others w p) := by
  cases p with
  | none =>
    have hf := h.fact_out
    exact Sat.fact_in hf.1 ⟨fun k => w.heap[k]?, fun _ _ h => h, fun _ => rfl⟩
  | some a =>
    obtain ⟨cur, h1, h2, h3, h4, h5, h6, hh⟩ := h.arr_some
    have hg := hh.get
    obtain ⟨b, o, s⟩ := a
    simp at h1 h4 h6 hg; subst h1
    refine Sat.arr_mk h2 h3 h4 h5 h6 ?_
    refine ⟨fun k => w.heap[k]?, fun _ _ h => h, fun k => if k = b then some (.cells cur E (0, 0)) else none, fun k => if k = b then none else w.heap[k]?, fun k => ?_, fun k => ?_, fun k => rfl, fun k => rfl⟩
    · by_cases e : k = b <;> simp [e]
    · by_cases e : k = b
      · subst e; simp [hg]
      · simp [e]
theorem keep_others (w : World) : keep w = Go.Proofs.YtlhkochpokhncaaDoor.others w none := rfl
theorem Sat.others_kept {w w' : World} {P : Hp} {p : Option Addr} (h : Sat w' (P * Go.Proofs.YtlhkochpokhncaaDoor.others w p)) (k : Nat) (hk : k < w.heap.size) (hne : ∀ a, p = some a → k ≠ a.block) : w'.heap[k]? = w.heap[k]? := by
  obtain ⟨hh, hw, hp⟩ := h.right
  have := hp k
  rw [Array.getElem?_eq_getElem hk]
  refine hw k _ ?_
  rw [this]
  cases p with
  | none => simp [hk]
  | some a => simp [hne a rfl, hk]
theorem Sat.others_fresh {w w' : World} {E sz n cap : Nat} {a' : Addr} {xs : List Value} {p : Option Addr} (h : Sat w' (arr E sz (some a') n cap xs * Go.Proofs.YtlhkochpokhncaaDoor.others w p)) : (∃ a, p = some a ∧ a'.block = a.block) ∨ w.heap.size ≤ a'.block := by
  obtain ⟨cur, _, _, _, _, _, _, hh⟩ := h.arr_some
  rcases Nat.lt_or_ge a'.block w.heap.size with hlt | hge
  · left
    obtain ⟨hh, hw, h1, h2, hd, he, p1, p2⟩ := hh
    have e1 := p1 a'.block
    have e2 := p2 a'.block
    rw [if_pos rfl] at e1
    cases p with
    | none =>
      simp [hlt] at e2
      rcases hd a'.block with e | e
      · rw [e1] at e; cases e
      · rw [e2] at e; cases e
    | some a =>
      refine ⟨a, rfl, ?_⟩
      rcases Nat.decEq a'.block a.block with hne | heq
      · simp [hne, hlt] at e2
        rcases hd a'.block with e | e
        · rw [e1] at e; cases e
        · rw [e2] at e; cases e
      · exact heq
  · exact .inr hge
theorem Sat.keep_fresh {w w' : World} {E sz n cap : Nat} {a' : Addr} {xs : List Value} (h : Sat w' (arr E sz (some a') n cap xs * keep w)) : w.heap.size ≤ a'.block := by
  rcases Sat.others_fresh (p := none) h with ⟨a, e, _⟩ | h
  · cases e
  · exact h
/-- What an append to p leaves: all other blocks; the new slice lies where the old one lay, or in a new block. -/
def Moved (w w' : World) (p p' : Option Addr) : Prop :=
  (∀ k, k < w.heap.size → (∀ a, p = some a → k ≠ a.block) → w'.heap[k]? = w.heap[k]?) ∧ (∀ a', p' = some a' → (∃ a, p = some a ∧ a'.block = a.block) ∨ w.heap.size ≤ a'.block)

section
variable {P : Program}
theorem run_append_arr2 {w : World} {R : Hp} (t tx ty e : TypeId) (i : TypeInfo) (z : Value) (sz bytes : Nat) (ht : P.underlying t = some (.slice e)) (hi : P.info? e = some i) (hz : i.zero = some z) (hsize : i.size = sz) (hby : i.bytes = bytes) (hzs : z.cells.size = sz)
    (p : Option Addr) (n cap : Nat) (xs : List Value) (h : Sat w (arr e sz p n cap xs * R)) (x : Value) (m : Nat) (news : List Value) (hs : Src P i.size tx x m news w) (hbytes : (n + m) * bytes ≤ 140737488355328) (h63 : n + m ≤ maxLen) :
    ∃ p' cap' w', (Builtin.append_ #[t, tx] ty #[.slice p n cap, x]).run P w = .ok (.slice p' (n + m) cap') w' ∧ Sat w' (arr e sz p' (n + m) cap' (xs ++ news) * R) ∧ Ran w w' ∧ Moved w w' p p' := by
  obtain ⟨p1, c1, w1, r1, s1, g1, _, _⟩ := run_append_arr (P := P) t tx ty e i z sz bytes ht hi hz hsize hby hzs p n cap xs h x m news hs hbytes h63
  obtain ⟨p2, c2, w2, r2, s2, _, _, _⟩ := run_append_arr (P := P) t tx ty e i z sz bytes ht hi hz hsize hby hzs p n cap xs h.others x m news hs hbytes h63
  rw [r1] at r2
  injection r2 with e1 e2
  injection e1 with e3 e4 e5
  subst e2 e3 e5
  exact ⟨p1, c1, w1, r1, s1, g1, fun k hk hne => s2.others_kept k hk hne, fun a' ha => by subst ha; exact s2.others_fresh⟩
theorem wp_append_arr2 {w : World} {R : Hp} {o : Oper} {a : Act} {K : Act → World → Prop} {Q : Exit → Act → World → Prop} (s x : Operand) (t tx : TypeId)
    (ho : o.op = .call { callee := .builtin .append, args := #[s, x], argTypes := #[t, tx] }) (e : TypeId) (i : TypeInfo) (z : Value) (sz bytes : Nat) (ht : P.underlying t = some (.slice e)) (hi : P.info? e = some i) (hz : i.zero = some z) (hsize : i.size = sz) (hby : i.bytes = bytes) (hzs : z.cells.size = sz)
    (p : Option Addr) (n cap : Nat) (xs : List Value) (hp : a.eval s = .slice p n cap) (h : Sat w (arr e sz p n cap xs * R)) (vx : Value) (hvx : a.eval x = vx) (m : Nat) (news : List Value) (hs : Src P i.size tx vx m news w) (hbytes : (n + m) * bytes ≤ 140737488355328) (h63 : n + m ≤ maxLen)
    (hk : ∀ p' cap' w', Sat w' (arr e sz p' (n + m) cap' (xs ++ news) * R) → Ran w w' → Moved w w' p p' → K (a.put o.dst (.slice p' (n + m) cap')) w') : o.wp P a w K Q := by
  obtain ⟨p', cap', w', hr, h1, h2, h3⟩ := run_append_arr2 (P := P) t tx o.type e i z sz bytes ht hi hz hsize hby hzs p n cap xs h vx m news hs hbytes h63
  unfold Oper.wp execOp
  simp only [ho, resolve, invoke, builtin, Sem.run_bind, Sem.run_pure, Result.andThen_ok, List.map_toArray, List.map_cons, List.map_nil, hp, hvx, hr]
  exact hk p' cap' w' h1 h2 h3
theorem wpList_append_arr2 {w : World} {R : Hp} {ops : Array Oper} {rest : List Oper} {o : Oper} {a : Act} {Q : Exit → Act → World → Prop} (hgd : o.guard = none) (s x : Operand) (t tx : TypeId)
    (ho : o.op = .call { callee := .builtin .append, args := #[s, x], argTypes := #[t, tx] }) (e : TypeId) (i : TypeInfo) (z : Value) (sz bytes : Nat) (ht : P.underlying t = some (.slice e)) (hi : P.info? e = some i) (hz : i.zero = some z) (hsize : i.size = sz) (hby : i.bytes = bytes) (hzs : z.cells.size = sz)
    (p : Option Addr) (n cap : Nat) (xs : List Value) (hp : a.eval s = .slice p n cap) (h : Sat w (arr e sz p n cap xs * R)) (vx : Value) (hvx : a.eval x = vx) (m : Nat) (news : List Value) (hs : Src P i.size tx vx m news w) (hbytes : (n + m) * bytes ≤ 140737488355328) (h63 : n + m ≤ maxLen)
    (hk : ∀ p' cap' w', Sat w' (arr e sz p' (n + m) cap' (xs ++ news) * R) → Ran w w' → Moved w w' p p' → wpList P ops Q rest (a.put o.dst (.slice p' (n + m) cap')) w') : wpList P ops Q (o :: rest) a w :=
  wpList_plain hgd fun _ hK => wp_append_arr2 s x t tx ho e i z sz bytes ht hi hz hsize hby hzs p n cap xs hp h vx hvx m news hs hbytes h63 fun p' cap' w' h1 h2 h3 => hK _ _ (hk p' cap' w' h1 h2 h3)
end
end Go.Proofs.YtlhkochpokhncaaDoor
