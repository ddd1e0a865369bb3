/- A struct of a number and a bool, by value: opened and shut. -/
import Derived.Test.YtlhkochpokhncaaDoorLxAD
import Derived.Lib.SmallJoins
namespace Go.Proofs.YtlhkochpokhncaaDoor.Lexer
open Go.ChangeShapes Go.WideShapes Go.ChangeAt Go.RowKit Go.Joins Go.Deep Go.Proofs.YtlhkochpokhncaaDoor Go.Proofs.YtlhkochpokhncaaDoor.Hp
set_option linter.unusedVariables false

section
variable {H : Type} {enc : TypeId × Value → H} {P : Program} {w : World} {base : Nat} {spare : Nat → Bool} {held : Bool}
theorem open_ib {r : Reach} {b0 : Nat} {t : TypeId} {f0 f1 : Field} {v : Value} {d : DataW H} {p : List MemPlace} (hs : P.underlying t = some (.struct #[f0, f1])) (hone : oneCellFields P #[f0, f1] = true) (hC : P.cellsOf t = 2)
    (h0 : P.underlying f0.type = some (.int .i64)) (h1 : P.underlying f1.type = some .bool) (hv : Value.okWide P w r b0 t v) (h : DataW.Trod enc P w base spare held t v d p) :
    ∃ a b, v = .agg #[.int .i64 a, .bool b] ∧ d = .agg [.lit (.int .i64 a), .lit (.bool b)] ∧ p = [] ∧ (Lit.int .i64 a).wf = true := by
  obtain ⟨c0, c1, y0, y1, m, rfl, rfl, rfl, hy0, hy1⟩ := open_agg2 hs hone hC hv h
  obtain ⟨a, e0, rfl, wa⟩ := DataW.trod_int h0 hy0
  obtain ⟨b, e1, rfl⟩ := DataW.trod_bool h1 hy1
  simp at e0 e1
  subst e0 e1
  exact ⟨a, b, rfl, rfl, rfl, wa⟩
theorem shut_ib {t : TypeId} {f0 f1 : Field} {a : Int} {b : Bool} (hs : P.underlying t = some (.struct #[f0, f1])) (hone : oneCellFields P #[f0, f1] = true) (hC : P.cellsOf t = 2)
    (h0 : P.underlying f0.type = some (.int .i64)) (h1 : P.underlying f1.type = some .bool) (wa : (Lit.int .i64 a).wf = true) :
    DataW.Trod enc P w base spare held t (.agg #[.int .i64 a, .bool b]) (.agg [.lit (.int .i64 a), .lit (.bool b)]) [] :=
  shut_agg2 (y0 := (.lit (.int .i64 a), [])) (y1 := (.lit (.bool b), [])) hs hone hC ⟨1, by simp [DataW.trod, h0, wa]⟩ ⟨1, by simp [DataW.trod, h1]⟩
end
theorem cells_in11 : Tryd.prog.cellsOf 36 = 2 := by kernel_rfl
end Go.Proofs.YtlhkochpokhncaaDoor.Lexer
