/- The rows' arguments opened: a slice of numbers, of calls. -/
import Derived.Test.YtibgpkcklneloaaUnM
import Derived.ProofKit
import Derived.OpenShut
import Derived.ShutString
import Derived.ChangeOld
import Derived.Deep.Slices
import Derived.Lib.SmallJoins
import Derived.Deep.Strs
import Derived.Test.YtibgpkcklneloaaArrs
namespace Go.Proofs.Ytibgpkcklneloaa.Undo
open Go.ChangeShapes Go.WideShapes Go.ChangeAt Go.RowKit Go.Proofs.Ytibgpkcklneloaa Go.Proofs.Ytibgpkcklneloaa.Hp
set_option linter.unusedVariables false

theorem cells3 : Try.prog.cellsOf 3 = 1 := by kernel_rfl
theorem cells9 : Try.prog.cellsOf 9 = 1 := by kernel_rfl
theorem cellsOp : Try.prog.cellsOf 46 = 3 := by kernel_rfl
theorem wf_of {x : Int} (h : I64 x) : (Lit.int .i64 x).wf = true := by
  obtain ⟨h1, h2⟩ := h
  simp [Lit.wf, IntKind.min, IntKind.max, IntKind.signed, IntKind.bits]
  omega
def IntsAt (w : World) (ao : Option Addr) (l : List Int) : Prop := ∀ i (h : i < l.length), I64 l[i] ∧ ∃ b o, ao = some ⟨b, o, none⟩ ∧ b < w.heap.size ∧ w.cell? ⟨b, o + i, none⟩ = some (.int .i64 l[i])
theorem IntsAt.keep {w W : World} {ao : Option Addr} {l : List Int} (h : IntsAt W ao l) (hk : ∀ k, k < W.heap.size → w.heap[k]? = W.heap[k]?) (hz : W.heap.size ≤ w.heap.size) : IntsAt w ao l := fun i hi => by
  obtain ⟨ho, b, o, e, hb, h0⟩ := h i hi
  have hc : ∀ j, w.cell? ⟨b, j, none⟩ = W.cell? ⟨b, j, none⟩ := fun j => World.cell?_of_block (w := W) (hk b hb)
  exact ⟨ho, b, o, e, Nat.lt_of_lt_of_le hb hz, by rw [hc]; exact h0⟩
set_option maxRecDepth 100000 in
theorem ints_open {H : Type} {enc : TypeId × Value → H} {W : World} {r : Reach} {b0 base : Nat} {spare : Nat → Bool} {held : Bool} {v : Value} {d : DataW H} {p : List MemPlace} (hv : Value.okWide Try.prog W r b0 22 v)
    (h : DataW.Trod enc Try.prog W base spare held 22 v d p) : ∃ ao l cap, v = .slice ao (List.length l) cap ∧ IntsAt W ao l := by
  obtain ⟨ao, len, cap, rfl⟩ := okWide_slice Try.underlying22 hv
  obtain ⟨fuel, hf⟩ := h
  rcases Deep.open_slice Try.underlying22 hf with ⟨hcs, _⟩ | ⟨a, len', cap', m, n, D, Pl, hcs, _, hl, _, hm, _, hx⟩
  · simp [Value.cells] at hcs
    obtain ⟨rfl, rfl, rfl⟩ := hcs
    exact ⟨none, [], 0, rfl, fun i hi => by simp at hi⟩
  · simp [Value.cells] at hcs
    obtain ⟨rfl, rfl, rfl⟩ := hcs
    have hlm : len ≤ m := by rw [hm]; split <;> omega
    have key : ∀ i, i < len → ∃ x : Int, I64 x ∧ W.cell? ((a.add (i * 1)).add 0) = some (.int .i64 x) := fun i hi => by
      obtain ⟨cs, hc, ht⟩ := hx i (by omega)
      rw [cells3] at hc
      obtain ⟨_, hlen, hat⟩ := World.cells?_some hc
      match cs, hlen, ht with
      | [c0], _, ht =>
        obtain ⟨x, rfl, _, w0⟩ := trod_int1 Try.underlying3 ht
        exact ⟨x, i64_of w0, hat 0 (by omega)⟩
    obtain ⟨f, hfx⟩ := Deep.choose_lt key
    refine ⟨some a, (List.range len).map f, cap, by simp, fun i hi => ?_⟩
    have hi' : i < len := by simpa using hi
    obtain ⟨b, o, s⟩ := a
    have hs : s = none := by
      have h00 := (hfx 0 (by omega)).2
      simp [Addr.add] at h00
      simpa using World.cell?_spot h00
    subst hs
    obtain ⟨ok, h0⟩ := hfx i hi'
    have e : ((List.range len).map f)[i] = f i := by simp
    rw [e]
    simp only [Addr.add_lit, Nat.mul_one, Nat.add_zero] at h0
    exact ⟨ok, b, o, rfl, World.block_lt_of_cell? W _ h0, h0⟩
/-- A call of the laws. -/
structure Opr where
  ask : Int
  k : ByteArray
  v : Int
instance : Inhabited Opr := ⟨⟨0, ⟨#[]⟩, 0⟩⟩
def OkOp (o : Opr) : Prop := I64 o.ask ∧ o.k.size ≤ maxLen ∧ I64 o.v
def OpsAt (w : World) (ao : Option Addr) (l : List Opr) : Prop :=
  ∀ i (h : i < l.length), OkOp l[i] ∧ ∃ b o, ao = some ⟨b, o, none⟩ ∧ b < w.heap.size ∧ w.cell? ⟨b, o + i * 3, none⟩ = some (.int .i64 l[i].ask) ∧ w.cell? ⟨b, o + i * 3 + 1, none⟩ = some (.string l[i].k) ∧ w.cell? ⟨b, o + i * 3 + 2, none⟩ = some (.int .i64 l[i].v)
theorem OpsAt.keep {w W : World} {ao : Option Addr} {l : List Opr} (h : OpsAt W ao l) (hk : ∀ k, k < W.heap.size → w.heap[k]? = W.heap[k]?) (hz : W.heap.size ≤ w.heap.size) : OpsAt w ao l := fun i hi => by
  obtain ⟨ho, b, o, e, hb, h0, h1, h2⟩ := h i hi
  have hc : ∀ j, w.cell? ⟨b, j, none⟩ = W.cell? ⟨b, j, none⟩ := fun j => World.cell?_of_block (w := W) (hk b hb)
  exact ⟨ho, b, o, e, Nat.lt_of_lt_of_le hb hz, by rw [hc]; exact h0, by rw [hc]; exact h1, by rw [hc]; exact h2⟩
theorem op_open {H : Type} {enc : TypeId × Value → H} {W : World} {base : Nat} {spare : Nat → Bool} {held : Bool} {n : Nat} {c0 c1 c2 : Value} {y : DataW H × List MemPlace} (h : DataW.trod enc Try.prog W base spare held n 46 [c0, c1, c2] = some y) :
    ∃ x : Opr, OkOp x ∧ c0 = .int .i64 x.ask ∧ c1 = .string x.k ∧ c2 = .int .i64 x.v := by
  obtain ⟨y0, y1, y2, m, _, _, h0, h1, h2⟩ := Deep.trod_struct3 Try.underlying46 h
  simp only [cells3, cells9, List.drop_zero, List.drop_succ_cons, List.take_succ_cons, List.take_zero] at h0 h1 h2
  obtain ⟨a0, e0, _, w0⟩ := DataW.trod_int Try.underlying3 h0
  obtain ⟨s, e1, _, w1⟩ := DataW.trod_string Try.underlying9 h1
  obtain ⟨a2, e2, _, w2⟩ := DataW.trod_int Try.underlying3 h2
  simp only [List.cons.injEq, and_true] at e0 e1 e2
  exact ⟨⟨a0, s, a2⟩, ⟨i64_of w0, w1, i64_of w2⟩, e0, e1, e2⟩
set_option maxRecDepth 100000 in
theorem ops_open {H : Type} {enc : TypeId × Value → H} {W : World} {r : Reach} {b0 base : Nat} {spare : Nat → Bool} {held : Bool} {v : Value} {d : DataW H} {p : List MemPlace} (hv : Value.okWide Try.prog W r b0 33 v)
    (h : DataW.Trod enc Try.prog W base spare held 33 v d p) : ∃ ao l cap, v = .slice ao (List.length l) cap ∧ OpsAt W ao l := by
  obtain ⟨ao, len, cap, rfl⟩ := okWide_slice Try.underlying33 hv
  obtain ⟨fuel, hf⟩ := h
  rcases Deep.open_slice Try.underlying33 hf with ⟨hcs, _⟩ | ⟨a, len', cap', m, n, D, Pl, hcs, _, hl, _, hm, _, hx⟩
  · simp [Value.cells] at hcs
    obtain ⟨rfl, rfl, rfl⟩ := hcs
    exact ⟨none, [], 0, rfl, fun i hi => by simp at hi⟩
  · simp [Value.cells] at hcs
    obtain ⟨rfl, rfl, rfl⟩ := hcs
    have hlm : len ≤ m := by rw [hm]; split <;> omega
    have key : ∀ i, i < len → ∃ x : Opr, OkOp x ∧ W.cell? ((a.add (i * 3)).add 0) = some (.int .i64 x.ask) ∧ W.cell? ((a.add (i * 3)).add 1) = some (.string x.k) ∧ W.cell? ((a.add (i * 3)).add 2) = some (.int .i64 x.v) := fun i hi => by
      obtain ⟨cs, hc, ht⟩ := hx i (by omega)
      rw [cellsOp] at hc
      obtain ⟨_, hlen, hat⟩ := World.cells?_some hc
      match cs, hlen, ht with
      | [c0, c1, c2], _, ht =>
        obtain ⟨x, ok, rfl, rfl, rfl⟩ := op_open ht
        exact ⟨x, ok, hat 0 (by omega), hat 1 (by omega), hat 2 (by omega)⟩
    obtain ⟨f, hfx⟩ := Deep.choose_lt key
    refine ⟨some a, (List.range len).map f, cap, by simp, fun i hi => ?_⟩
    have hi' : i < len := by simpa using hi
    obtain ⟨b, o, s⟩ := a
    have hs : s = none := by
      have h00 := (hfx 0 (by omega)).2.1
      simp [Addr.add] at h00
      simpa using World.cell?_spot h00
    subst hs
    obtain ⟨ok, h0, h1, h2⟩ := hfx i hi'
    have e : ((List.range len).map f)[i] = f i := by simp
    rw [e]
    simp only [Addr.add_lit, Nat.add_zero] at h0 h1 h2
    exact ⟨ok, b, o, rfl, World.block_lt_of_cell? W _ h0, h0, h1, h2⟩
end Go.Proofs.Ytibgpkcklneloaa.Undo
