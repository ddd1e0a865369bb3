/- Patterns and ranges that came in, opened. -/
import Derived.Test.YtjbdpahdhlmanaaGlE
import Derived.Test.YtjbdpahdhlmanaaArrs
namespace Go.Proofs.Ytjbdpahdhlmanaa.Globs
open Go.ChangeShapes Go.WideShapes Go.ChangeAt Go.RowKit Go.Proofs.Ytjbdpahdhlmanaa Go.Proofs.Ytjbdpahdhlmanaa.Hp
set_option linter.unusedVariables false

section
variable {H : Type} {enc : TypeId × Value → H} {W : World} {base : Nat} {spare : Nat → Bool} {held : Bool}
theorem rg_open {n : Nat} {c : Value} {y : DataW H × List MemPlace} (h : DataW.trod enc Try.prog W base spare held n 40 [c] = some y) :
    ∃ ra rc rs, c = .slice ra (List.length rs) rc ∧ RgAt W ra rs := by
  rcases Deep.open_slice Try.underlying40 h with ⟨hcs, _⟩ | ⟨a, len, cap, m, n', D, Pl, hcs, _, hl, hcap, hm, _, hx⟩
  · simp at hcs; subst hcs
    exact ⟨none, 0, [], rfl, by simp, fun j hj => by simp at hj⟩
  · simp at hcs; subst hcs
    have hlm : len ≤ m := by rw [hm]; split <;> omega
    have key : ∀ i, i < len → ∃ x : UInt8 × UInt8, W.cell? ((a.add (i * 2)).add 0) = some (.int .u8 x.1.toNat) ∧ W.cell? ((a.add (i * 2)).add 1) = some (.int .u8 x.2.toNat) := fun i hi => by
      obtain ⟨cs, hc, ht⟩ := hx i (by omega)
      rw [cellsRg] at hc
      obtain ⟨_, hlen, hat⟩ := World.cells?_some hc
      match cs, hlen, ht with
      | [c0, c1], _, ht =>
        obtain ⟨y0, y1, n2, _, h0, h1⟩ := trod_array2 Try.underlying67 cellsU8 ht
        obtain ⟨z0, rfl, _, w0⟩ := trod_int1 Try.underlying5 h0
        obtain ⟨z1, rfl, _, w1⟩ := trod_int1 Try.underlying5 h1
        obtain ⟨b0, rfl⟩ := u8_of w0
        obtain ⟨b1, rfl⟩ := u8_of w1
        exact ⟨(b0, b1), hat 0 (by omega), hat 1 (by omega)⟩
    obtain ⟨f, hfx⟩ := Deep.choose_lt key
    refine ⟨some a, cap, (List.range len).map f, by simp, ?_, fun j hj => ?_⟩
    · unfold maxLen at hcap; simp; omega
    · have hj' : j < len := by simpa using hj
      obtain ⟨b, o, s⟩ := a
      have hs : s = none := by
        have h00 := (hfx 0 (by omega)).1
        simp [Addr.add] at h00
        simpa using World.cell?_spot h00
      subst hs
      obtain ⟨h0, h1⟩ := hfx j hj'
      have e : ((List.range len).map f)[j] = f j := by simp
      rw [e]
      simp only [Addr.add_lit] at h0 h1
      exact ⟨b, o, rfl, World.block_lt_of_cell? W _ h0, h0, h1⟩
theorem item_open {n : Nat} {c0 c1 c2 c3 : Value} {y : DataW H × List MemPlace} (h : DataW.trod enc Try.prog W base spare held n 42 [c0, c1, c2, c3] = some y) :
    ∃ (x : Itm) (ra : Option Addr) (rc : Nat), I64 x.kind ∧ c0 = .int .i64 x.kind ∧ c1 = .int .u8 x.b.toNat ∧ c2 = .bool x.neg ∧ c3 = .slice ra x.rs.length rc ∧ RgAt W ra x.rs := by
  obtain ⟨y0, y1, y2, y3, m, _, _, h0, h1, h2, h3⟩ := Joins.trod_struct4 Try.underlying42 h
  simp only [cellsInt, cellsU8, cellsBool, cellsRgs, List.drop_zero, List.drop_succ_cons, List.take_succ_cons, List.take_zero] at h0 h1 h2 h3
  obtain ⟨a0, rfl, _, w0⟩ := trod_int1 Try.underlying3 h0
  obtain ⟨a1, rfl, _, w1⟩ := trod_int1 Try.underlying5 h1
  obtain ⟨b1, rfl⟩ := u8_of w1
  obtain ⟨b2, e2, _⟩ := DataW.trod_bool Try.underlying4 h2
  simp at e2; subst e2
  obtain ⟨ra, rc, rs, rfl, hr⟩ := rg_open h3
  exact ⟨⟨a0, b1, b2, rs⟩, ra, rc, i64_of w0, rfl, rfl, rfl, rfl, hr⟩
theorem items_open {r : Reach} {b0 : Nat} {v : Value} {d : DataW H} {p : List MemPlace} (hv : Value.okWide Try.prog W r b0 24 v)
    (h : DataW.Trod enc Try.prog W base spare held 24 v d p) : ∃ ao l cap, v = .slice ao (List.length l) cap ∧ ItemsAt W ao l ∧ ∀ x ∈ l, I64 x.kind := by
  obtain ⟨ao, len, cap, rfl⟩ := okWide_slice Try.underlying24 hv
  obtain ⟨fuel, hf⟩ := h
  rcases Deep.open_slice Try.underlying24 hf with ⟨hcs, _⟩ | ⟨a, len', cap', m, n, D, Pl, hcs, _, hl, hcap, hm, _, hx⟩
  · simp [Value.cells] at hcs
    obtain ⟨rfl, rfl, rfl⟩ := hcs
    exact ⟨none, [], 0, rfl, ⟨by simp, fun i hi => by simp at hi⟩, by simp⟩
  · simp [Value.cells] at hcs
    obtain ⟨rfl, rfl, rfl⟩ := hcs
    have hlm : len ≤ m := by rw [hm]; split <;> omega
    have key : ∀ i, i < len → ∃ z : Itm × Option Addr × Nat, I64 z.1.kind ∧ W.cell? ((a.add (i * 4)).add 0) = some (.int .i64 z.1.kind) ∧ W.cell? ((a.add (i * 4)).add 1) = some (.int .u8 z.1.b.toNat) ∧ W.cell? ((a.add (i * 4)).add 2) = some (.bool z.1.neg) ∧
        W.cell? ((a.add (i * 4)).add 3) = some (.slice z.2.1 z.1.rs.length z.2.2) ∧ RgAt W z.2.1 z.1.rs := fun i hi => by
      obtain ⟨cs, hc, ht⟩ := hx i (by omega)
      rw [cellsItem] at hc
      obtain ⟨_, hlen, hat⟩ := World.cells?_some hc
      match cs, hlen, ht with
      | [c0, c1, c2, c3], _, ht =>
        obtain ⟨x, ra, rc, ok, rfl, rfl, rfl, rfl, hr⟩ := item_open ht
        exact ⟨(x, ra, rc), ok, hat 0 (by omega), hat 1 (by omega), hat 2 (by omega), hat 3 (by omega), hr⟩
    obtain ⟨f, hfx⟩ := Deep.choose_lt key
    have e : ∀ i (h : i < ((List.range len).map fun i => (f i).1).length), ((List.range len).map fun i => (f i).1)[i] = (f i).1 := fun i h => by simp
    refine ⟨some a, (List.range len).map fun i => (f i).1, cap, by simp, ⟨?_, fun i hi => ?_⟩, fun x hx => ?_⟩
    · unfold maxLen at hcap; simp; omega
    · have hi' : i < len := by simpa using hi
      obtain ⟨b, o, s⟩ := a
      have hs : s = none := by
        have h00 := (hfx 0 (by omega)).2.1
        simp [Addr.add] at h00
        simpa using World.cell?_spot h00
      subst hs
      obtain ⟨ok, h0, h1, h2, h3, hr⟩ := hfx i hi'
      rw [e i hi]
      simp only [Addr.add_lit] at h0 h1 h2 h3
      exact ⟨b, o, _, _, rfl, World.block_lt_of_cell? W _ h0, h0, h1, h2, h3, hr⟩
    · obtain ⟨i, hi, rfl⟩ := List.mem_map.1 hx
      exact (hfx i (by simpa using hi)).1
theorem rgs_open {r : Reach} {b0 : Nat} {v : Value} {d : DataW H} {p : List MemPlace} (hv : Value.okWide Try.prog W r b0 40 v)
    (h : DataW.Trod enc Try.prog W base spare held 40 v d p) : ∃ ra rs rc, v = .slice ra (List.length rs) rc ∧ RgAt W ra rs := by
  obtain ⟨ao, len, cap, rfl⟩ := okWide_slice Try.underlying40 hv
  obtain ⟨fuel, hf⟩ := h
  obtain ⟨ra, rc, rs, e, hr⟩ := rg_open (c := .slice ao len cap) (by simpa [Value.cells] using hf)
  exact ⟨ra, rs, rc, e, hr⟩
end
end Go.Proofs.Ytjbdpahdhlmanaa.Globs
