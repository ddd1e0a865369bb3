/- HandlesPlays, part 28 of 29: the texts PrLl, joined by a program. -/
import Derived.Test.YteienbdbhnikbaaGreatDoorPf27
namespace Go.Proofs.YteienbdbhnikbaaGreatDoor.Pr
open Go.RowKit Go.Maps Go.Proofs.YteienbdbhnikbaaGreatDoor Go.Proofs.YteienbdbhnikbaaGreatDoor.Hp Go.Proofs.YteienbdbhnikbaaGreatDoor.Hd
set_option linter.unusedVariables false
attribute [local go_sem] Oper.semAt_some

theorem fin_true {W w1 w2 : World} (h1 : Ran W w1) (hs : Sat w2 (keep W)) (h2 : Ran w1 w2) : Below W.heap.size W w2 := Ran.whole' (Below.trans h1 h2) hs
/-- A loop of calls: n0 is the bound on numbers at its beginning, X what lies beside. -/
def LpD (c : Pls) (pb lb : Nat) (most : Int) (len n0 wb : Nat) (X : Hp) (W : World) (g : Nat) (vi : Value) (wr : World) : Prop :=
  ∃ (i : Nat) (p : Pc) (nl : List Nt) (ms : List Nat), vi = .int .i64 (i : Int) ∧ i + g = len ∧ Gd c pb lb most p nl ms ∧ Sat wr (PH c (n0 + 2000 * i) b0 most p nl ms * (pts wb (BX c lb pb) * X)) ∧ Ran W wr
/-- A call of a law: what it needs of its world. -/
theorem does_lp {c : Pls} {pb lb N : Nat} {most : Int} {p : Pc} {nl : List Nt} {ms : List Nat} {w : World} {R : Hp} (hg : Gd c pb lb most p nl ms) (o : Opr) (ho : OkOp o) (hf : FewO o) (hG : Glob R) (hN : N ≤ 400000) (h : Sat w (PH c N b0 most p nl ms * R)) :
    Calls Tryz.prog 11 #[worldV (pp c.fb) (pp c.bp) (pp c.tb) (pp lb) (pp pb), opA o] w fun e w' => ∃ (n : Int) (s : ByteArray) (er : Int), e = .returned (.tuple #[.int .i64 n, .string s, .int .i64 er]) ∧ DoQ c pb lb N most p nl ms w R n s er w' := does_all hg o ho hf hG hN h
/-- Two rows of numbers compared, one by one. -/
def LpC (len : Nat) (X : Hp) (W : World) (g : Nat) (vi : Value) (wr : World) : Prop :=
  ∃ (k : Nat), vi = .int .i64 (k : Int) ∧ k + g = len ∧ Sat wr X ∧ Ran W wr
end Go.Proofs.YteienbdbhnikbaaGreatDoor.Pr

