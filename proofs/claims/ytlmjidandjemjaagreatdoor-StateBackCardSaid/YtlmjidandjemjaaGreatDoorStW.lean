/- The calls of the laws, opened; Few, ask, first, node walked. -/
import Derived.Test.YtlmjidandjemjaaGreatDoorStO
namespace Go.Proofs.YtlmjidandjemjaaGreatDoor.State
open Go.ChangeShapes Go.WideShapes Go.ChangeAt Go.ChangeMaps Go.RowKit Go.Proofs.YtlmjidandjemjaaGreatDoor Go.Proofs.YtlmjidandjemjaaGreatDoor.Hp Go.Proofs.YtlmjidandjemjaaGreatDoor.Undo
set_option linter.unusedVariables false
attribute [local go_sem] Oper.semAt_some

theorem cellsI : Tryz.prog.cellsOf 3 = 1 := by kernel_rfl
theorem cellsLs : Tryz.prog.cellsOf 22 = 1 := by kernel_rfl
theorem cellsOp : Tryz.prog.cellsOf 41 = 5 := by kernel_rfl
/-- A call of the laws; p, c: where its texts lie. -/
structure Opr where
  ask : Int
  k : ByteArray
  t : ByteArray
  n : Int
  L : List ByteArray
  p : Option Addr
  c : Nat
instance : Inhabited Opr := ⟨⟨0, ⟨#[]⟩, ⟨#[]⟩, 0, [], none, 0⟩⟩
def OkOp (w : World) (o : Opr) : Prop := I64 o.ask ∧ o.k.size ≤ maxLen ∧ o.t.size ≤ maxLen ∧ I64 o.n ∧ TextsAt w o.p o.L
def OpsAt (w : World) (ao : Option Addr) (l : List Opr) : Prop :=
  ∀ i (h : i < l.length), OkOp w l[i] ∧ ∃ b o, ao = some ⟨b, o, none⟩ ∧ b < w.heap.size ∧ w.cell? ⟨b, o + i * 5, none⟩ = some (.int .i64 l[i].ask) ∧ w.cell? ⟨b, o + i * 5 + 1, none⟩ = some (.string l[i].k) ∧
    w.cell? ⟨b, o + i * 5 + 2, none⟩ = some (.string l[i].t) ∧ w.cell? ⟨b, o + i * 5 + 3, none⟩ = some (.int .i64 l[i].n) ∧ w.cell? ⟨b, o + i * 5 + 4, none⟩ = some (.slice l[i].p l[i].L.length l[i].c)
theorem TextsAt.keep {w W : World} {p : Option Addr} {l : List ByteArray} (h : TextsAt W p l) (hk : ∀ k, k < W.heap.size → w.heap[k]? = W.heap[k]?) (hz : W.heap.size ≤ w.heap.size) : TextsAt w p l := fun i hi => by
  obtain ⟨ho, b, o, e, hb, h0⟩ := h i hi
  exact ⟨ho, b, o, e, Nat.lt_of_lt_of_le hb hz, by rw [← h0]; exact World.cell?_of_block (w := W) (hk b hb)⟩
theorem OpsAt.keep {w W : World} {ao : Option Addr} {l : List Opr} (h : OpsAt W ao l) (hk : ∀ k, k < W.heap.size → w.heap[k]? = W.heap[k]?) (hz : W.heap.size ≤ w.heap.size) : OpsAt w ao l := fun i hi => by
  obtain ⟨ho, b, o, e, hb, h0, h1, h2, h3, h4⟩ := h i hi
  have hc : ∀ j, w.cell? ⟨b, j, none⟩ = W.cell? ⟨b, j, none⟩ := fun j => World.cell?_of_block (w := W) (hk b hb)
  exact ⟨⟨ho.1, ho.2.1, ho.2.2.1, ho.2.2.2.1, ho.2.2.2.2.keep hk hz⟩, b, o, e, Nat.lt_of_lt_of_le hb hz, by rw [hc]; exact h0, by rw [hc]; exact h1, by rw [hc]; exact h2, by rw [hc]; exact h3, by rw [hc]; exact h4⟩
section
variable {H : Type} {enc : TypeId × Value → H} {P : Program} {w : World} {base : Nat} {spare : Nat → Bool} {held : Bool}
theorem trod_struct5 {t : TypeId} {f0 f1 f2 f3 f4 : Field} {fuel : Nat} {cs : List Value} {x : DataW H × List MemPlace} (ht : P.underlying t = some (.struct #[f0, f1, f2, f3, f4])) (h : DataW.trod enc P w base spare held fuel t cs = some x) :
    ∃ y0 y1 y2 y3 y4 n, cs.length = P.cellsOf t ∧ DataW.trod enc P w base spare held n f0.type ((cs.drop f0.offset).take (P.cellsOf f0.type)) = some y0 ∧
      DataW.trod enc P w base spare held n f1.type ((cs.drop f1.offset).take (P.cellsOf f1.type)) = some y1 ∧ DataW.trod enc P w base spare held n f2.type ((cs.drop f2.offset).take (P.cellsOf f2.type)) = some y2 ∧
      DataW.trod enc P w base spare held n f3.type ((cs.drop f3.offset).take (P.cellsOf f3.type)) = some y3 ∧ DataW.trod enc P w base spare held n f4.type ((cs.drop f4.offset).take (P.cellsOf f4.type)) = some y4 := by
  obtain ⟨xs, n, _, rfl, hl, hlen, hf⟩ := DataW.trod_struct ht h
  match xs, hlen with
  | [y0, y1, y2, y3, y4], _ => exact ⟨y0, y1, y2, y3, y4, n, hl, by simpa using hf 0 f0 rfl, by simpa using hf 1 f1 rfl, by simpa using hf 2 f2 rfl, by simpa using hf 3 f3 rfl, by simpa using hf 4 f4 rfl⟩
end
set_option maxRecDepth 100000 in
theorem strs_trod {H : Type} {enc : TypeId × Value → H} {W : World} {base : Nat} {spare : Nat → Bool} {held : Bool} {fuel : Nat} {c : Value} {y : DataW H × List MemPlace} (hf : DataW.trod enc Tryz.prog W base spare held fuel 22 [c] = some y) :
    ∃ ao l cap, c = .slice ao (List.length l) cap ∧ TextsAt W ao l := by
  rcases Deep.open_slice Tryz.underlying22 hf with ⟨hcs, _⟩ | ⟨a, len', cap', m, n, D, Pl, hcs, _, hl, _, hm, _, hx⟩
  · simp only [List.cons.injEq, and_true] at hcs
    exact ⟨none, [], 0, hcs, fun i hi => by simp at hi⟩
  · simp only [List.cons.injEq, and_true] at hcs
    subst hcs
    have hlm : len' ≤ m := by rw [hm]; split <;> omega
    have key : ∀ i, i < len' → ∃ x : ByteArray, x.size ≤ maxLen ∧ W.cell? ((a.add (i * 1)).add 0) = some (.string x) := fun i hi => by
      obtain ⟨cs, hc, ht⟩ := hx i (by omega)
      rw [cellsStr] at hc
      obtain ⟨_, hlen, hat⟩ := World.cells?_some hc
      match cs, hlen, ht with
      | [c0], _, ht =>
        obtain ⟨x, e0, _, w0⟩ := DataW.trod_string Tryz.underlying9 ht
        simp only [List.cons.injEq, and_true] at e0
        exact ⟨x, w0, by rw [hat 0 (by omega)]; simp [e0]⟩
    obtain ⟨f, hfx⟩ := Deep.choose_lt key
    refine ⟨some a, (List.range len').map f, cap', by simp, fun i hi => ?_⟩
    have hi' : i < len' := by simpa using hi
    obtain ⟨b, o, s⟩ := a
    have hs : s = none := by
      have h00 := (hfx 0 (by omega)).2
      simp [Addr.add] at h00
      simpa using World.cell?_spot h00
    subst hs
    obtain ⟨ok, h0⟩ := hfx i hi'
    have e : ((List.range len').map f)[i] = f i := by simp
    rw [e]
    simp only [Addr.add_lit, Nat.mul_one, Nat.add_zero] at h0
    exact ⟨ok, b, o, rfl, World.block_lt_of_cell? W _ h0, h0⟩
theorem op_open {H : Type} {enc : TypeId × Value → H} {W : World} {base : Nat} {spare : Nat → Bool} {held : Bool} {n : Nat} {c0 c1 c2 c3 c4 : Value} {y : DataW H × List MemPlace} (h : DataW.trod enc Tryz.prog W base spare held n 41 [c0, c1, c2, c3, c4] = some y) :
    ∃ x : Opr, OkOp W x ∧ c0 = .int .i64 x.ask ∧ c1 = .string x.k ∧ c2 = .string x.t ∧ c3 = .int .i64 x.n ∧ c4 = .slice x.p x.L.length x.c := by
  obtain ⟨y0, y1, y2, y3, y4, m, _, h0, h1, h2, h3, h4⟩ := trod_struct5 Tryz.underlying41 h
  simp only [cellsI, cellsStr, cellsLs, List.drop_zero, List.drop_succ_cons, List.take_succ_cons, List.take_zero] at h0 h1 h2 h3 h4
  obtain ⟨a0, e0, _, w0⟩ := DataW.trod_int Tryz.underlying3 h0
  obtain ⟨s1, e1, _, w1⟩ := DataW.trod_string Tryz.underlying9 h1
  obtain ⟨s2, e2, _, w2⟩ := DataW.trod_string Tryz.underlying9 h2
  obtain ⟨a3, e3, _, w3⟩ := DataW.trod_int Tryz.underlying3 h3
  obtain ⟨p, L, c, e4, w4⟩ := strs_trod h4
  simp only [List.cons.injEq, and_true] at e0 e1 e2 e3
  exact ⟨⟨a0, s1, s2, a3, L, p, c⟩, ⟨i64_of w0, w1, w2, i64_of w3, w4⟩, e0, e1, e2, e3, e4⟩
set_option maxRecDepth 100000 in
theorem ops_open {H : Type} {enc : TypeId × Value → H} {W : World} {r : Reach} {b0 base : Nat} {spare : Nat → Bool} {held : Bool} {v : Value} {d : DataW H} {p : List MemPlace} (hv : Value.okWide Tryz.prog W r b0 33 v)
    (h : DataW.Trod enc Tryz.prog W base spare held 33 v d p) : ∃ ao l cap, v = .slice ao (List.length l) cap ∧ OpsAt W ao l := by
  obtain ⟨ao, len, cap, rfl⟩ := okWide_slice Tryz.underlying33 hv
  obtain ⟨fuel, hf⟩ := h
  rcases Deep.open_slice Tryz.underlying33 hf with ⟨hcs, _⟩ | ⟨a, len', cap', m, n, D, Pl, hcs, _, hl, _, hm, _, hx⟩
  · simp [Value.cells] at hcs
    obtain ⟨rfl, rfl, rfl⟩ := hcs
    exact ⟨none, [], 0, rfl, fun i hi => by simp at hi⟩
  · simp [Value.cells] at hcs
    obtain ⟨rfl, rfl, rfl⟩ := hcs
    have hlm : len ≤ m := by rw [hm]; split <;> omega
    have key : ∀ i, i < len → ∃ x : Opr, OkOp W x ∧ W.cell? ((a.add (i * 5)).add 0) = some (.int .i64 x.ask) ∧ W.cell? ((a.add (i * 5)).add 1) = some (.string x.k) ∧ W.cell? ((a.add (i * 5)).add 2) = some (.string x.t) ∧ W.cell? ((a.add (i * 5)).add 3) = some (.int .i64 x.n) ∧ W.cell? ((a.add (i * 5)).add 4) = some (.slice x.p x.L.length x.c) := fun i hi => by
      obtain ⟨cs, hc, ht⟩ := hx i (by omega)
      rw [cellsOp] at hc
      obtain ⟨_, hlen, hat⟩ := World.cells?_some hc
      match cs, hlen, ht with
      | [c0, c1, c2, c3, c4], _, ht =>
        obtain ⟨x, ok, rfl, rfl, rfl, rfl, rfl⟩ := op_open ht
        exact ⟨x, ok, hat 0 (by omega), hat 1 (by omega), hat 2 (by omega), hat 3 (by omega), hat 4 (by omega)⟩
    obtain ⟨f, hfx⟩ := Deep.choose_lt key
    refine ⟨some a, (List.range len).map f, cap, by simp, fun i hi => ?_⟩
    have hi' : i < len := by simpa using hi
    obtain ⟨b, o, s⟩ := a
    have hs : s = none := by
      have h00 := (hfx 0 (by omega)).2.1
      simp [Addr.add] at h00
      simpa using World.cell?_spot h00
    subst hs
    obtain ⟨ok, h0, h1, h2, h3, h4⟩ := hfx i hi'
    have e : ((List.range len).map f)[i] = f i := by simp
    rw [e]
    simp only [Addr.add_lit, Nat.add_zero] at h0 h1 h2 h3 h4
    exact ⟨ok, b, o, rfl, World.block_lt_of_cell? W _ h0, h0, h1, h2, h3, h4⟩
end Go.Proofs.YtlmjidandjemjaaGreatDoor.State
