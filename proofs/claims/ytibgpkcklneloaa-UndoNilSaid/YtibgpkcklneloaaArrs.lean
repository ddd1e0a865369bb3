/- An array of two, of three ints, by value: opened, and shut again in any world. -/
import Derived.Laws.IdiomArrays
namespace Go.Proofs.Ytibgpkcklneloaa
open Go.ChangeShapes Go.WideShapes
variable {H : Type} {enc : TypeId × Value → H} {P : Program} {w : World} {base : Nat} {spare : Nat → Bool} {held : Bool}

theorem trod_array2 {t e : TypeId} {fuel : Nat} {c0 c1 : Value} {x : DataW H × List MemPlace} (ht : P.underlying t = some (.array 2 e)) (hce : P.cellsOf e = 1)
    (h : DataW.trod enc P w base spare held fuel t [c0, c1] = some x) :
    ∃ y0 y1 n, x = (.agg [y0.1, y1.1], y0.2 ++ y1.2) ∧ DataW.trod enc P w base spare held n e [c0] = some y0 ∧ DataW.trod enc P w base spare held n e [c1] = some y1 := by
  cases fuel with
  | zero => simp [DataW.trod] at h
  | succ n =>
    unfold DataW.trod at h
    rw [ht] at h
    have r2 : List.range 2 = [0, 1] := rfl
    simp [r2, hce] at h
    obtain ⟨_, h⟩ := h
    cases h0 : DataW.trod enc P w base spare held n e [c0] with
    | none => simp [h0] at h
    | some y0 =>
      cases h1 : DataW.trod enc P w base spare held n e [c1] with
      | none => simp [h0, h1] at h
      | some y1 =>
        simp [h0, h1] at h
        exact ⟨y0, y1, n, h.symm, h0, h1⟩
theorem okWide_arrN {r : Reach} {b0 : Nat} {t e : TypeId} {n : Nat} {v : Value} (ht : P.underlying t = some (.array n e)) (hct : P.cellsOf t = n) (h : Value.okWide P w r b0 t v) : ∃ cs : Array Value, v = .agg cs ∧ cs.size = n := by
  unfold Value.okWide at h
  rw [ht] at h
  obtain ⟨cs, h1, h2, _⟩ := h
  exact ⟨cs, h1, h2.trans hct⟩
theorem trod_int1 {t : TypeId} {k : IntKind} {c : Value} {n : Nat} {y : DataW H × List MemPlace} (ht : P.underlying t = some (.int k)) (h : DataW.trod enc P w base spare held n t [c] = some y) :
    ∃ z, c = .int k z ∧ y = (.lit (.int k z), []) ∧ (Lit.int k z).wf = true := by
  obtain ⟨z, h1, h2, h3⟩ := DataW.trod_int ht h
  simp at h1
  exact ⟨z, h1, h2, h3⟩
theorem open_arr2 {r : Reach} {b0 : Nat} {t e : TypeId} {k : IntKind} {v : Value} {d : DataW H} {ps : List MemPlace} (ht : P.underlying t = some (.array 2 e)) (he : P.underlying e = some (.int k)) (hce : P.cellsOf e = 1) (hct : P.cellsOf t = 2)
    (hval : Value.okWide P w r b0 t v) (hd : DataW.Trod enc P w base spare held t v d ps) :
    ∃ x y, v = .agg #[.int k x, .int k y] ∧ d = .agg [.lit (.int k x), .lit (.int k y)] ∧ ps = [] ∧ (Lit.int k x).wf = true ∧ (Lit.int k y).wf = true := by
  obtain ⟨cs, rfl, hz⟩ := okWide_arrN ht hct hval
  obtain ⟨l, rfl⟩ : ∃ l : List Value, cs = l.toArray := ⟨cs.toList, by simp⟩
  match l, hz with
  | [c0, c1], _ =>
    obtain ⟨fuel, hf⟩ := hd
    obtain ⟨y0, y1, n, hx, h0, h1⟩ := trod_array2 ht hce (by simpa [Value.cells] using hf)
    obtain ⟨z0, rfl, rfl, w0⟩ := trod_int1 he h0
    obtain ⟨z1, rfl, rfl, w1⟩ := trod_int1 he h1
    simp only [Prod.mk.injEq] at hx
    exact ⟨z0, z1, rfl, hx.1, by simpa using hx.2, w0, w1⟩
theorem shut_arr2 {t e : TypeId} {k : IntKind} {x y : Int} (ht : P.underlying t = some (.array 2 e)) (he : P.underlying e = some (.int k)) (hce : P.cellsOf e = 1) (hct : P.cellsOf t = 2) (wx : (Lit.int k x).wf = true) (wy : (Lit.int k y).wf = true) :
    DataW.Trod enc P w base spare held t (.agg #[.int k x, .int k y]) (.agg [.lit (.int k x), .lit (.int k y)]) [] := by
  refine ⟨2, ?_⟩
  have r2 : List.range 2 = [0, 1] := rfl
  unfold DataW.trod
  rw [ht]
  simp [r2, hce, hct, Value.cells, trod_int_mk 0 he wx, trod_int_mk 0 he wy]
theorem open_arr3 {r : Reach} {b0 : Nat} {t e : TypeId} {k : IntKind} {v : Value} {d : DataW H} {ps : List MemPlace} (ht : P.underlying t = some (.array 3 e)) (he : P.underlying e = some (.int k)) (hce : P.cellsOf e = 1) (hct : P.cellsOf t = 3)
    (hval : Value.okWide P w r b0 t v) (hd : DataW.Trod enc P w base spare held t v d ps) :
    ∃ x y z, v = .agg #[.int k x, .int k y, .int k z] ∧ d = .agg [.lit (.int k x), .lit (.int k y), .lit (.int k z)] ∧ ps = [] ∧ (Lit.int k x).wf = true ∧ (Lit.int k y).wf = true ∧ (Lit.int k z).wf = true := by
  obtain ⟨cs, rfl, hz⟩ := okWide_arrN ht hct hval
  obtain ⟨l, rfl⟩ : ∃ l : List Value, cs = l.toArray := ⟨cs.toList, by simp⟩
  match l, hz with
  | [c0, c1, c2], _ =>
    obtain ⟨fuel, hf⟩ := hd
    obtain ⟨y0, y1, y2, n, hx, h0, h1, h2⟩ := trod_array3 ht hce (by simpa [Value.cells] using hf)
    obtain ⟨z0, rfl, rfl, w0⟩ := trod_int1 he h0
    obtain ⟨z1, rfl, rfl, w1⟩ := trod_int1 he h1
    obtain ⟨z2, rfl, rfl, w2⟩ := trod_int1 he h2
    simp only [Prod.mk.injEq] at hx
    exact ⟨z0, z1, z2, rfl, hx.1, by simpa using hx.2, w0, w1, w2⟩
theorem shut_arr3 {t e : TypeId} {k : IntKind} {x y z : Int} (ht : P.underlying t = some (.array 3 e)) (he : P.underlying e = some (.int k)) (hce : P.cellsOf e = 1) (hct : P.cellsOf t = 3) (wx : (Lit.int k x).wf = true) (wy : (Lit.int k y).wf = true) (wz : (Lit.int k z).wf = true) :
    DataW.Trod enc P w base spare held t (.agg #[.int k x, .int k y, .int k z]) (.agg [.lit (.int k x), .lit (.int k y), .lit (.int k z)]) [] := by
  refine ⟨2, ?_⟩
  have r3 : List.range 3 = [0, 1, 2] := rfl
  unfold DataW.trod
  rw [ht]
  simp [r3, hce, hct, Value.cells, trod_int_mk 0 he wx, trod_int_mk 0 he wy, trod_int_mk 0 he wz]
end Go.Proofs.Ytibgpkcklneloaa
