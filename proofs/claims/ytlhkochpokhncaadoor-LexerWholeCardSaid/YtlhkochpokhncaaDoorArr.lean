/- Slices that a call owns, as heap predicates: what stands in them, append (in place or into new memory), cuts, reads. -/
import Derived.Test.YtlhkochpokhncaaDoorSep
import Derived.Deep.AppendSrc
import Derived.Laws.CopyOwn
namespace Go.Proofs.YtlhkochpokhncaaDoor
open Go.RowKit Go.Proofs.YtlhkochpokhncaaDoor.Hp

/-- A slice of n elements of type E (sz cells each) and its array, which nobody else holds: xs are its cells. -/
def arr (E sz : Nat) (p : Option Addr) (n cap : Nat) (xs : List Value) : Hp :=
  match p with
  | none => fact (n = 0 ∧ cap = 0 ∧ xs = [])
  | some a => ex fun cur : Array Value => fact (a.spot = none ∧ n ≤ cap ∧ cap ≤ maxLen ∧ a.off + cap * sz ≤ cur.size ∧ xs.length = n * sz ∧ ∀ j, j < xs.length → cur[a.off + j]? = xs[j]?) * pts a.block (.cells cur E (0, 0))

theorem arr_nil (E sz : Nat) : arr E sz none 0 0 [] = emp := by
  funext h; exact propext ⟨fun x => x.2, fun x => ⟨⟨rfl, rfl, rfl⟩, x⟩⟩
theorem Sat.nil_arr {w : World} {R : Hp} (h : Sat w R) (E sz : Nat) : Sat w (arr E sz none 0 0 [] * R) := by
  rw [arr_nil, emp_sep]; exact h

theorem Sat.arr_none {w : World} {R : Hp} {E sz n cap : Nat} {xs : List Value} (h : Sat w (arr E sz none n cap xs * R)) : n = 0 ∧ cap = 0 ∧ xs = [] := (h.fact_out).1

theorem Sat.arr_some {w : World} {R : Hp} {E sz n cap : Nat} {a : Addr} {xs : List Value} (h : Sat w (arr E sz (some a) n cap xs * R)) :
    ∃ cur : Array Value, a.spot = none ∧ n ≤ cap ∧ cap ≤ maxLen ∧ a.off + cap * sz ≤ cur.size ∧ xs.length = n * sz ∧ (∀ j, j < xs.length → cur[a.off + j]? = xs[j]?) ∧ Sat w (pts a.block (.cells cur E (0, 0)) * R) := by
  obtain ⟨cur, h⟩ := Sat.ex_out h
  rw [sep_assoc] at h
  obtain ⟨⟨h1, h2, h3, h4, h5, h6⟩, h⟩ := h.fact_out
  exact ⟨cur, h1, h2, h3, h4, h5, h6, h⟩

theorem Sat.arr_mk {w : World} {R : Hp} {E sz n cap b o : Nat} {xs : List Value} {cur : Array Value} (h2 : n ≤ cap) (h3 : cap ≤ maxLen) (h4 : o + cap * sz ≤ cur.size) (h5 : xs.length = n * sz)
    (h6 : ∀ j, j < xs.length → cur[o + j]? = xs[j]?) (h : Sat w (pts b (.cells cur E (0, 0)) * R)) : Sat w (arr E sz (some ⟨b, o, none⟩) n cap xs * R) := by
  refine Sat.ex_in cur ?_
  rw [sep_assoc]
  exact h.fact_in ⟨rfl, h2, h3, h4, h5, h6⟩

theorem Sat.arr_len {w : World} {R : Hp} {E sz n cap : Nat} {p : Option Addr} {xs : List Value} (h : Sat w (arr E sz p n cap xs * R)) : xs.length = n * sz ∧ n ≤ cap ∧ cap ≤ maxLen := by
  cases p with
  | none => obtain ⟨rfl, rfl, rfl⟩ := h.arr_none; simp [maxLen]
  | some a => obtain ⟨cur, h1, h2, h3, h4, h5, h6, h⟩ := h.arr_some; exact ⟨h5, h2, h3⟩

theorem Sat.arr_addr {w : World} {R : Hp} {E sz n cap : Nat} {p : Option Addr} {xs : List Value} (h : Sat w (arr E sz p n cap xs * R)) (hn : 0 < cap) : ∃ b o, p = some ⟨b, o, none⟩ := by
  cases p with
  | none => obtain ⟨rfl, rfl, rfl⟩ := h.arr_none; omega
  | some a => obtain ⟨cur, h1, _⟩ := h.arr_some; obtain ⟨b, o, s⟩ := a; exact ⟨b, o, by simp at h1; rw [h1]⟩

/-- A cell of it. -/
theorem Sat.arr_cell {w : World} {R : Hp} {E sz n cap b o : Nat} {xs : List Value} (h : Sat w (arr E sz (some ⟨b, o, none⟩) n cap xs * R)) (j : Nat) (hj : j < xs.length) : w.cell? ⟨b, o + j, none⟩ = some xs[j] := by
  obtain ⟨cur, h1, h2, h3, h4, h5, h6, h⟩ := h.arr_some
  rw [cell_at h.get, h6 j hj, List.getElem?_eq_getElem hj]
theorem Sat.arr_free {w : World} {R : Hp} {E sz n cap b o : Nat} {xs : List Value} (h : Sat w (arr E sz (some ⟨b, o, none⟩) n cap xs * R)) (i : Nat) : w.frozen? ⟨b, i, none⟩ = false := by
  obtain ⟨cur, h1, h2, h3, h4, h5, h6, h⟩ := h.arr_some
  exact free_at h.get i

/-- The first k elements. -/
theorem Sat.arr_take {w : World} {R : Hp} {E sz n cap : Nat} {p : Option Addr} {xs : List Value} (h : Sat w (arr E sz p n cap xs * R)) (k : Nat) (hk : k ≤ n) : Sat w (arr E sz p k cap (xs.take (k * sz)) * R) := by
  cases p with
  | none => obtain ⟨rfl, rfl, rfl⟩ := h.arr_none; obtain rfl : k = 0 := by omega
            simpa using h
  | some a =>
    obtain ⟨cur, h1, h2, h3, h4, h5, h6, hh⟩ := h.arr_some
    obtain ⟨b, o, s⟩ := a
    simp at h1 h4 h6 hh; subst h1
    have hks : k * sz ≤ n * sz := Nat.mul_le_mul_right _ hk
    refine Sat.arr_mk (by omega) h3 h4 (by rw [List.length_take]; omega) (fun j hj => ?_) hh
    rw [List.length_take] at hj
    rw [h6 j (by omega), List.getElem?_take, if_pos (by omega)]
/-- All but the first k elements; the slice begins k elements on (where there is capacity left). -/
theorem Sat.arr_drop {w : World} {R : Hp} {E sz n cap b o : Nat} {xs : List Value} (h : Sat w (arr E sz (some ⟨b, o, none⟩) n cap xs * R)) (k : Nat) (hk : k ≤ n) : Sat w (arr E sz (some ⟨b, o + k * sz, none⟩) (n - k) (cap - k) (xs.drop (k * sz)) * R) := by
  obtain ⟨cur, h1, h2, h3, h4, h5, h6, h⟩ := h.arr_some
  simp at h4 h6 h
  have hks : k * sz ≤ n * sz := Nat.mul_le_mul_right _ hk
  have e1 : (cap - k) * sz = cap * sz - k * sz := Nat.sub_mul _ _ _
  have e2 : (n - k) * sz = n * sz - k * sz := Nat.sub_mul _ _ _
  have hkc : k * sz ≤ cap * sz := Nat.mul_le_mul_right _ (by omega)
  refine Sat.arr_mk (by omega) (by omega) (by omega) (by rw [List.length_drop]; omega) (fun j hj => ?_) h
  rw [List.length_drop] at hj
  rw [List.getElem?_drop, show o + k * sz + j = o + (k * sz + j) by omega, h6 _ (by omega)]
/-- Cut at the end of the capacity, the slice stays where it began. -/
theorem Sat.arr_none_left {w : World} {R : Hp} {E sz n cap b o : Nat} {xs : List Value} (h : Sat w (arr E sz (some ⟨b, o, none⟩) n cap xs * R)) : Sat w (arr E sz (some ⟨b, o, none⟩) 0 0 [] * R) := by
  obtain ⟨cur, h1, h2, h3, h4, h5, h6, h⟩ := h.arr_some
  simp at h4 h6 h
  exact Sat.arr_mk (Nat.le_refl _) (by omega) (by omega) (by simp) (fun j hj => by simp at hj) h
/-- One cell of it is written. -/
theorem Sat.arr_set {w : World} {R : Hp} {E sz n cap b o : Nat} {xs : List Value} (h : Sat w (arr E sz (some ⟨b, o, none⟩) n cap xs * R)) (j : Nat) (v : Value) : Sat (w.setCell ⟨b, o + j, none⟩ v) (arr E sz (some ⟨b, o, none⟩) n cap (xs.set j v) * R) := by
  obtain ⟨cur, h1, h2, h3, h4, h5, h6, h⟩ := h.arr_some
  simp at h4 h6 h
  refine Sat.arr_mk h2 h3 (by simpa using h4) (by simpa using h5) (fun k hk => ?_) (h.set (i := o + j) v)
  simp at hk
  have hks : n * sz ≤ cap * sz := Nat.mul_le_mul_right _ h2
  by_cases e : j = k
  · subst e; rw [Array.getElem?_setIfInBounds_self_of_lt (by omega), List.getElem?_set_self hk]
  · rw [Array.getElem?_setIfInBounds_ne (by omega), List.getElem?_set_ne e, h6 k hk]

theorem heap_setCells (b : Nat) : ∀ (vs : List Value) (o : Nat) (w : World) (cur : Array Value) (T : Nat) (fz : Nat × Nat), w.heap[b]? = some (.cells cur T fz) → o + vs.length ≤ cur.size →
    (∃ cur' : Array Value, (w.setCells b o vs).heap[b]? = some (.cells cur' T fz) ∧ cur'.size = cur.size ∧ ∀ k, cur'[k]? = if o ≤ k ∧ k < o + vs.length then vs[k - o]? else cur[k]?) ∧
      (∀ k, k ≠ b → (w.setCells b o vs).heap[k]? = w.heap[k]?) ∧ Ran w (w.setCells b o vs)
  | [], o, w, cur, T, fz, h, _ => ⟨⟨cur, h, rfl, fun k => by rw [if_neg (by simp)]⟩, fun _ _ => rfl, Below.refl _ _⟩
  | v :: vs, o, w, cur, T, fz, h, hl => by
    simp only [List.length_cons] at hl
    have hb : (w.setCell ⟨b, o, none⟩ v).heap[b]? = some (.cells (cur.setIfInBounds o v) T fz) := by simp [World.setCell, Array.getElem?_modify, h]
    obtain ⟨⟨cur', h1, h2, h3⟩, h4, h5⟩ := heap_setCells b vs (o + 1) (w.setCell ⟨b, o, none⟩ v) (cur.setIfInBounds o v) T fz hb (by simp; omega)
    refine ⟨⟨cur', h1, by simpa using h2, fun k => ?_⟩, fun k hk => (h4 k hk).trans (Below.heap_setCell w ⟨b, o, none⟩ v k hk), (Ran.set (Below.refl _ _) _ _).trans h5⟩
    rw [h3 k]
    by_cases e : k = o
    · subst e
      rw [if_neg (by omega), if_pos (by simp), Array.getElem?_setIfInBounds_self_of_lt (by omega)]
      simp
    · by_cases e2 : o + 1 ≤ k ∧ k < o + 1 + vs.length
      · rw [if_pos e2, if_pos (by simp; omega), show k - o = (k - (o + 1)) + 1 by omega]; simp
      · rw [if_neg e2, if_neg (by simp; omega), Array.getElem?_setIfInBounds_ne (by omega)]

section
variable {P : Program}
/-- append: whatever the source, in place or into a new array. -/
theorem run_append_arr {w : World} {R : Hp} (t tx ty e : TypeId) (i : TypeInfo) (z : Value) (sz bytes : Nat) (ht : P.underlying t = some (.slice e)) (hi : P.info? e = some i) (hz : i.zero = some z) (hsize : i.size = sz) (hby : i.bytes = bytes) (hzs : z.cells.size = sz)
    (p : Option Addr) (n cap : Nat) (xs : List Value) (h : Sat w (arr e sz p n cap xs * R)) (x : Value) (m : Nat) (news : List Value) (hs : Src P i.size tx x m news w) (hbytes : (n + m) * bytes ≤ 140737488355328) (h63 : n + m ≤ maxLen) :
    ∃ p' cap' w', (Builtin.append_ #[t, tx] ty #[.slice p n cap, x]).run P w = .ok (.slice p' (n + m) cap') w' ∧ Sat w' (arr e sz p' (n + m) cap' (xs ++ news) * R) ∧ Ran w w' ∧ (0 < m → p'.isSome = true) ∧ (p.isSome = true → p'.isSome = true) := by
  subst hsize; subst hby
  have hsm : n + m ≤ 9223372036854775807 := by unfold maxLen at h63; omega
  obtain ⟨hxl, hnc, hcm⟩ := h.arr_len
  by_cases hr : n + m ≤ cap
  · by_cases hc0 : cap = 0
    · obtain rfl : n = 0 := by omega
      obtain rfl : m = 0 := by omega
      subst hc0
      obtain rfl : xs = [] := List.eq_nil_of_length_eq_zero (by simpa using hxl)
      have hnl : news = [] := List.eq_nil_of_length_eq_zero (by simpa using hs.newsLen)
      subst hnl
      have hst : ∀ a : Addr, (storeCells a [] 0).run P w = .ok () w := fun a => by simp [storeCells]
      refine ⟨p, 0, w, ?_, by simpa using h, Below.refl _ _, by omega, id⟩
      cases p <;> rcases hs.kind with ⟨e', hk⟩ | hk <;> simp [Builtin.append_, run_underlying ht, run_underlying hk, sizeOf, typeInfo, hi, hs.len, hs.cells, hst]
    · obtain ⟨b, o, rfl⟩ := h.arr_addr (by omega)
      obtain ⟨cur, h1, h2, h3, h4, h5, h6, hh⟩ := h.arr_some
      simp at h4 h6 hh
      have hfit : (n + m) * i.size ≤ cap * i.size := Nat.mul_le_mul_right _ hr
      have hnl := hs.newsLen
      rw [Nat.add_mul] at hfit
      have hg := hh.get
      have hrun := run_append_room_src (P := P) w t tx ty e i ht hi b o n cap x m news hs hr
        (fun j hj => by rw [cell_at hg]; have : o + n * i.size + j < cur.size := by omega
                        simp [this]) (fun j hj => free_at hg _)
      obtain ⟨⟨cur', g1, g2, g3⟩, g4, g5⟩ := heap_setCells b news (o + n * i.size) w cur e (0, 0) hg (by omega)
      refine ⟨_, _, _, hrun, Sat.arr_mk hr hcm (by omega) (by rw [List.length_append, hxl, hnl, Nat.add_mul]) (fun j hj => ?_) (hh.put g1 fun k _ hk => g4 k hk), g5, fun _ => rfl, id⟩
      rw [List.length_append] at hj
      rw [g3]
      by_cases hj' : j < xs.length
      · rw [if_neg (by omega), List.getElem?_append_left hj', h6 j hj']
      · rw [if_pos (by omega), List.getElem?_append_right (by omega)]
        congr 1; omega
  · have hold : (Builtin.firstCells i.size n (.slice p n cap)).run P w.drew = .ok xs.toArray w.drew := by
      cases p with
      | none => obtain ⟨rfl, rfl, rfl⟩ := h.arr_none; exact run_firstCells_none w.drew i.size 0 0 0
      | some a =>
        obtain ⟨b, o, s⟩ := a
        obtain ⟨cur, h1, _⟩ := h.arr_some
        simp at h1; subst h1
        refine run_firstCells_some w.drew i.size n ⟨b, o, none⟩ n cap xs hxl fun j v hj => ?_
        have hj' : j < xs.length := (List.getElem?_eq_some_iff.1 hj).1
        rw [Addr.add_lit]
        show w.cell? _ = _
        rw [h.arr_cell j hj']
        rw [List.getElem?_eq_getElem hj'] at hj; exact hj
    have hfit : Builtin.nextslicecap (n + m) cap * i.bytes ≤ 281474976710656 := growslice_fits (by omega) hbytes
    have hrun := run_append_grow_src (P := P) w t tx ty e i z ht hi hz p n cap xs hold x m news hs (by omega) (by omega) hfit
    have hge := grownCap_ge w (n + m) cap e
    have hcm' := grownCap_le_maxLen w (n + m) cap e h63
    have hnl := hs.newsLen
    refine ⟨_, _, _, hrun, ?_, Ran.new (Below.drew (Below.refl _ _)) _, fun _ => rfl, fun _ => rfl⟩
    refine Sat.arr_mk hge hcm' ?_ (by rw [List.length_append, hxl, hnl, Nat.add_mul]) (fun j hj => ?_) (Sat.alloc (w := w.drew) h.right.drew _)
    · have hq : grownCap w (n + m) cap e * i.size = (n + m) * i.size + (grownCap w (n + m) cap e - (n + m)) * i.size := by rw [← Nat.add_mul]; congr 1; omega
      rw [Nat.add_mul] at hq
      simp only [Array.size_append, List.size_toArray, List.length_append, size_zeroCells, hzs]
      omega
    · rw [Nat.zero_add, Array.getElem?_append_left (by simpa using hj)]
      simp

theorem wp_append_arr {w : World} {R : Hp} {o : Oper} {a : Act} {K : Act → World → Prop} {Q : Exit → Act → World → Prop} (s x : Operand) (t tx : TypeId)
    (ho : o.op = .call { callee := .builtin .append, args := #[s, x], argTypes := #[t, tx] }) (e : TypeId) (i : TypeInfo) (z : Value) (sz bytes : Nat) (ht : P.underlying t = some (.slice e)) (hi : P.info? e = some i) (hz : i.zero = some z) (hsize : i.size = sz) (hby : i.bytes = bytes) (hzs : z.cells.size = sz)
    (p : Option Addr) (n cap : Nat) (xs : List Value) (hp : a.eval s = .slice p n cap) (h : Sat w (arr e sz p n cap xs * R)) (vx : Value) (hvx : a.eval x = vx) (m : Nat) (news : List Value) (hs : Src P i.size tx vx m news w) (hbytes : (n + m) * bytes ≤ 140737488355328) (h63 : n + m ≤ maxLen)
    (hk : ∀ p' cap' w', Sat w' (arr e sz p' (n + m) cap' (xs ++ news) * R) → Ran w w' → (0 < m → p'.isSome = true) → K (a.put o.dst (.slice p' (n + m) cap')) w') : o.wp P a w K Q := by
  obtain ⟨p', cap', w', hr, h1, h2, h3, _⟩ := run_append_arr (P := P) t tx o.type e i z sz bytes ht hi hz hsize hby hzs p n cap xs h vx m news hs hbytes h63
  unfold Oper.wp execOp
  simp only [ho, resolve, invoke, builtin, Sem.run_bind, Sem.run_pure, Result.andThen_ok, List.map_toArray, List.map_cons, List.map_nil, hp, hvx, hr]
  exact hk p' cap' w' h1 h2 h3

theorem wpList_append_arr {w : World} {R : Hp} {ops : Array Oper} {rest : List Oper} {o : Oper} {a : Act} {Q : Exit → Act → World → Prop} (hgd : o.guard = none) (s x : Operand) (t tx : TypeId)
    (ho : o.op = .call { callee := .builtin .append, args := #[s, x], argTypes := #[t, tx] }) (e : TypeId) (i : TypeInfo) (z : Value) (sz bytes : Nat) (ht : P.underlying t = some (.slice e)) (hi : P.info? e = some i) (hz : i.zero = some z) (hsize : i.size = sz) (hby : i.bytes = bytes) (hzs : z.cells.size = sz)
    (p : Option Addr) (n cap : Nat) (xs : List Value) (hp : a.eval s = .slice p n cap) (h : Sat w (arr e sz p n cap xs * R)) (vx : Value) (hvx : a.eval x = vx) (m : Nat) (news : List Value) (hs : Src P i.size tx vx m news w) (hbytes : (n + m) * bytes ≤ 140737488355328) (h63 : n + m ≤ maxLen)
    (hk : ∀ p' cap' w', Sat w' (arr e sz p' (n + m) cap' (xs ++ news) * R) → Ran w w' → (0 < m → p'.isSome = true) → wpList P ops Q rest (a.put o.dst (.slice p' (n + m) cap')) w') : wpList P ops Q (o :: rest) a w :=
  wpList_plain hgd fun _ hK => wp_append_arr s x t tx ho e i z sz bytes ht hi hz hsize hby hzs p n cap xs hp h vx hvx m news hs hbytes h63 fun p' cap' w' h1 h2 h3 => hK _ _ (hk p' cap' w' h1 h2 h3)

theorem step_append_arr {w : World} {R : Hp} {ops : Array Oper} {o : Oper} {a : Act} {K : Act → World → Prop} {Q : Exit → Act → World → Prop} {E : Prop} (hgd : o.guard = none) (s x : Operand) (t tx : TypeId)
    (ho : o.op = .call { callee := .builtin .append, args := #[s, x], argTypes := #[t, tx] }) (e : TypeId) (i : TypeInfo) (z : Value) (sz bytes : Nat) (ht : P.underlying t = some (.slice e)) (hi : P.info? e = some i) (hz : i.zero = some z) (hsize : i.size = sz) (hby : i.bytes = bytes) (hzs : z.cells.size = sz)
    (p : Option Addr) (n cap : Nat) (xs : List Value) (hp : a.eval s = .slice p n cap) (h : Sat w (arr e sz p n cap xs * R)) (vx : Value) (hvx : a.eval x = vx) (m : Nat) (news : List Value) (hs : Src P i.size tx vx m news w) (hbytes : (n + m) * bytes ≤ 140737488355328) (h63 : n + m ≤ maxLen)
    (hk : ∀ p' cap' w', Sat w' (arr e sz p' (n + m) cap' (xs ++ news) * R) → Ran w w' → (0 < m → p'.isSome = true) → K (a.put o.dst (.slice p' (n + m) cap')) w') :
    if Region.wanted o (yielded ops a.tmps) = true then Oper.wp P o a w K Q else E := by
  rw [if_pos (by simp [Region.wanted, hgd])]
  exact wp_append_arr s x t tx ho e i z sz bytes ht hi hz hsize hby hzs p n cap xs hp h vx hvx m news hs hbytes h63 hk
end
end Go.Proofs.YtlhkochpokhncaaDoor
