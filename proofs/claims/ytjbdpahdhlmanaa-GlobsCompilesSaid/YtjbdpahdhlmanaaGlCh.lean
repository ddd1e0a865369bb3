/- Marked texts that came in, opened; how great a compiled pattern is. -/
import Derived.ChangeSame
import Derived.Test.YtjbdpahdhlmanaaGlF
import Derived.Test.YtjbdpahdhlmanaaGlO
namespace Go.Proofs.Ytjbdpahdhlmanaa.Globs
open Go.ChangeShapes Go.WideShapes Go.ChangeAt Go.RowKit Go.Proofs.Ytjbdpahdhlmanaa Go.Proofs.Ytjbdpahdhlmanaa.Hp
set_option linter.unusedVariables false

theorem cellsCh : Try.prog.cellsOf 55 = 2 := by kernel_rfl
section
variable {H : Type} {enc : TypeId × Value → H} {W : World} {base : Nat} {spare : Nat → Bool} {held : Bool}
theorem chars_open {r : Reach} {b0 : Nat} {v : Value} {d : DataW H} {p : List MemPlace} (hv : Value.okWide Try.prog W r b0 22 v)
    (h : DataW.Trod enc Try.prog W base spare held 22 v d p) : ∃ ao l cap, v = .slice ao (List.length l) cap ∧ CharsAt W ao cap l := by
  obtain ⟨ao, len, cap, rfl⟩ := okWide_slice Try.underlying22 hv
  obtain ⟨fuel, hf⟩ := h
  rcases Deep.open_slice Try.underlying22 hf with ⟨hcs, _⟩ | ⟨a, len', cap', m, n, D, Pl, hcs, _, hl, hcap, hm, _, hx⟩
  · simp [Value.cells] at hcs
    obtain ⟨rfl, rfl, rfl⟩ := hcs
    exact ⟨none, [], 0, rfl, by simp, by simp, fun i hi => by simp at hi⟩
  · simp [Value.cells] at hcs
    obtain ⟨rfl, rfl, rfl⟩ := hcs
    have hlm : len ≤ m := by rw [hm]; split <;> omega
    have key : ∀ i, i < len → ∃ z : Ch, W.cell? ((a.add (i * 2)).add 0) = some (.int .u8 z.b.toNat) ∧ W.cell? ((a.add (i * 2)).add 1) = some (.bool z.q) := fun i hi => by
      obtain ⟨cs, hc, ht⟩ := hx i (by omega)
      rw [cellsCh] at hc
      obtain ⟨_, hlen, hat⟩ := World.cells?_some hc
      match cs, hlen, ht with
      | [c0, c1], _, ht =>
        obtain ⟨y0, y1, m2, _, _, h0, h1⟩ := Go.ChangeShapes.trod_struct2 Try.underlying55 ht
        simp only [cellsU8, cellsBool, List.drop_zero, List.drop_succ_cons, List.take_succ_cons, List.take_zero] at h0 h1
        obtain ⟨a1, rfl, _, w1⟩ := trod_int1 Try.underlying5 h0
        obtain ⟨b1, rfl⟩ := u8_of w1
        obtain ⟨b2, e2, _⟩ := DataW.trod_bool Try.underlying4 h1
        simp at e2; subst e2
        exact ⟨⟨b1, b2⟩, hat 0 (by omega), hat 1 (by omega)⟩
    obtain ⟨f, hfx⟩ := Deep.choose_lt key
    have e : ∀ i (h : i < ((List.range len).map f).length), ((List.range len).map f)[i] = f i := fun i h => by simp
    refine ⟨some a, (List.range len).map f, cap, by simp, by simp; omega, by unfold maxLen at hcap; omega, fun i hi => ?_⟩
    have hi' : i < len := by simpa using hi
    obtain ⟨b, o, s⟩ := a
    have hs : s = none := by
      have h00 := (hfx 0 (by omega)).1
      simp [Addr.add] at h00
      simpa using World.cell?_spot h00
    subst hs
    obtain ⟨h0, h1⟩ := hfx i hi'
    rw [e i hi]
    simp only [Addr.add_lit] at h0 h1
    exact ⟨b, o, rfl, World.block_lt_of_cell? W _ h0, h0, h1⟩
end
theorem itemL_rs (t : List Ch) (path : Bool) : (itemL t path).1.rs.length ≤ 4 * (t.length + 1) := by
  unfold itemL
  split
  · simp
  split
  · simp
  split
  · simp
  split
  · simp
  split
  · unfold groupL
    cases hg : groupR (t.drop 1) path with
    | none => simp
    | some x =>
      unfold groupR at hg
      have h2 := groupF_rs hg
      rw [List.length_drop, List.length_nil] at h2
      simp only [Option.map_some]
      omega
  · simp
theorem addI_bd {out : List Itm} {x : Itm} {B : Nat} (h : ∀ y ∈ out, y.rs.length ≤ B) (hx : x.rs.length ≤ B) : (addI out x).length ≤ out.length + 1 ∧ ∀ y ∈ addI out x, y.rs.length ≤ B := by
  unfold addI
  split
  · exact ⟨by omega, h⟩
  · refine ⟨by simp, fun y hy => ?_⟩
    rcases List.mem_append.1 hy with hy | hy
    · exact h y hy
    · simp only [List.mem_singleton] at hy; subst hy; exact hx
theorem compF_bd {path : Bool} {f : Nat} {t : List Ch} {out : List Itm} {B : Nat} (h : ∀ y ∈ out, y.rs.length ≤ B) (hB : 4 * (t.length + 1) ≤ B) : (compF path f t out).length ≤ out.length + f ∧ ∀ y ∈ compF path f t out, y.rs.length ≤ B := by
  induction f generalizing t out with
  | zero => exact ⟨Nat.le_refl _, h⟩
  | succ f ih =>
    unfold compF
    split
    · exact ⟨by omega, h⟩
    · have h1 := addI_bd h (show (itemL t path).1.rs.length ≤ B by have := itemL_rs t path; omega)
      have h2 := ih (t := t.drop (itemL t path).2) h1.2 (by rw [List.length_drop]; omega)
      exact ⟨by omega, h2.2⟩
theorem compileL_bd (t : List Ch) (path : Bool) : (compileL t path).length ≤ t.length ∧ ∀ y ∈ compileL t path, y.rs.length ≤ 4 * (t.length + 1) := by
  have := compF_bd (path := path) (f := t.length) (t := t) (out := []) (B := 4 * (t.length + 1)) (by simp) (Nat.le_refl _)
  exact ⟨by rw [List.length_nil, Nat.zero_add] at this; exact this.1, this.2⟩
end Go.Proofs.Ytjbdpahdhlmanaa.Globs
