/- copy into a block that is known whole, out of a string or a slice. -/
import Derived.Test.YtgaeafhkepfgjaaArr
namespace Go.Proofs.Ytgaeafhkepfgjaa
open Go.RowKit Go.Proofs.Ytgaeafhkepfgjaa.Hp

section
variable {P : Program}
theorem run_copy_sat {w : World} {R : Hp} (dT sT ty elem : TypeId) (hu : P.underlying dT = some (.slice elem)) (hsz : (P.info? elem).map (·.size) = some 1) (g off dLen dCap : Nat) (x : Value) (cur vs : List Value) (T : TypeId)
    (h : Sat w (pts g (.cells cur.toArray T (0, 0)) * R)) (sl : Nat) (hl : (Builtin.lenOf x).run P w = .ok sl w) (hc : (Builtin.firstCells 1 (Nat.min sl dLen) x).run P w = .ok vs.toArray w) (hn : vs.length = Nat.min sl dLen) (hfit : off + vs.length ≤ cur.length) (h1 : ∀ v ∈ vs, v.oneCell' = true) :
    (Builtin.copy_ #[dT, sT] ty #[.slice (some ⟨g, off, none⟩) dLen dCap, x]).run P w = .ok (.int .i64 (vs.length : Int)) (w.setRow g (splice cur off vs).toArray) := by
  have hst := run_storeCells_at P g off T vs 0 cur.toArray w h.get (by simpa using hfit) h1
  simp only [Nat.add_zero] at hst
  obtain ⟨i, hi, his⟩ := Option.map_eq_some_iff.1 hsz
  have hst' : (storeCells ⟨g, off, none⟩ vs).run P w = .ok () (w.setRow g (splice cur off vs).toArray) := by
    rw [hst]; simp [splice, List.append_assoc]
  simp [Builtin.copy_, run_underlying hu, sizeOf, typeInfo, hi, his, hl, hc, hst', goInt]
  rw [hn]

theorem lenOf_string (s : ByteArray) (w : World) : (Builtin.lenOf (.string s)).run P w = .ok s.size w := rfl
theorem firstCells_str (s : ByteArray) (n : Nat) (w : World) : (Builtin.firstCells 1 n (.string s)).run P w = .ok ((s.data.toList.take n).map fun b => Value.int .u8 b.toNat).toArray w := by
  simp [Builtin.firstCells]
  apply Array.ext'
  simp
theorem lenOf_slice (a : Option Addr) (n c : Nat) (w : World) : (Builtin.lenOf (.slice a n c)).run P w = .ok n w := rfl

theorem wp_copy_sat {w : World} {R : Hp} {o : Oper} {a : Act} {K : Act → World → Prop} {Q : Exit → Act → World → Prop} (d s : Operand) (dT sT : TypeId)
    (ho : o.op = .call { callee := .builtin .copy, args := #[d, s], argTypes := #[dT, sT] }) (elem : TypeId) (hu : P.underlying dT = some (.slice elem)) (hsz : (P.info? elem).map (·.size) = some 1) (g off dLen dCap : Nat) (x : Value) (hd : a.eval d = .slice (some ⟨g, off, none⟩) dLen dCap) (hx : a.eval s = x) (cur vs : List Value) (T : TypeId)
    (h : Sat w (pts g (.cells cur.toArray T (0, 0)) * R)) (sl : Nat) (hl : (Builtin.lenOf x).run P w = .ok sl w) (hc : (Builtin.firstCells 1 (Nat.min sl dLen) x).run P w = .ok vs.toArray w) (hn : vs.length = Nat.min sl dLen) (hfit : off + vs.length ≤ cur.length) (h1 : ∀ v ∈ vs, v.oneCell' = true)
    (hk : ∀ w', Sat w' (pts g (.cells (splice cur off vs).toArray T (0, 0)) * R) → Ran w w' → K (a.put o.dst (.int .i64 (vs.length : Int))) w') : o.wp P a w K Q := by
  have hr := run_copy_sat (P := P) dT sT o.type elem hu hsz g off dLen dCap x cur vs T h sl hl hc hn hfit h1
  unfold Oper.wp execOp
  simp only [ho, resolve, invoke, builtin, Sem.run_bind, Sem.run_pure, Result.andThen_ok, List.map_toArray, List.map_cons, List.map_nil, hd, hx, hr]
  exact hk _ h.setRow (Ran.row (Below.refl _ _) _ _)

theorem wpList_copy_sat {w : World} {R : Hp} {ops : Array Oper} {rest : List Oper} {o : Oper} {a : Act} {Q : Exit → Act → World → Prop} (hgd : o.guard = none) (d s : Operand) (dT sT : TypeId)
    (ho : o.op = .call { callee := .builtin .copy, args := #[d, s], argTypes := #[dT, sT] }) (elem : TypeId) (hu : P.underlying dT = some (.slice elem)) (hsz : (P.info? elem).map (·.size) = some 1) (g off dLen dCap : Nat) (x : Value) (hd : a.eval d = .slice (some ⟨g, off, none⟩) dLen dCap) (hx : a.eval s = x) (cur vs : List Value) (T : TypeId)
    (h : Sat w (pts g (.cells cur.toArray T (0, 0)) * R)) (sl : Nat) (hl : (Builtin.lenOf x).run P w = .ok sl w) (hc : (Builtin.firstCells 1 (Nat.min sl dLen) x).run P w = .ok vs.toArray w) (hn : vs.length = Nat.min sl dLen) (hfit : off + vs.length ≤ cur.length) (h1 : ∀ v ∈ vs, v.oneCell' = true)
    (hk : ∀ w', Sat w' (pts g (.cells (splice cur off vs).toArray T (0, 0)) * R) → Ran w w' → wpList P ops Q rest (a.put o.dst (.int .i64 (vs.length : Int))) w') : wpList P ops Q (o :: rest) a w :=
  wpList_plain hgd fun _ hK => wp_copy_sat d s dT sT ho elem hu hsz g off dLen dCap x hd hx cur vs T h sl hl hc hn hfit h1 fun w' h2 h3 => hK _ _ (hk w' h2 h3)

theorem step_copy_sat {w : World} {R : Hp} {ops : Array Oper} {o : Oper} {a : Act} {K : Act → World → Prop} {Q : Exit → Act → World → Prop} {E : Prop} (hgd : o.guard = none) (d s : Operand) (dT sT : TypeId)
    (ho : o.op = .call { callee := .builtin .copy, args := #[d, s], argTypes := #[dT, sT] }) (elem : TypeId) (hu : P.underlying dT = some (.slice elem)) (hsz : (P.info? elem).map (·.size) = some 1) (g off dLen dCap : Nat) (x : Value) (hd : a.eval d = .slice (some ⟨g, off, none⟩) dLen dCap) (hx : a.eval s = x) (cur vs : List Value) (T : TypeId)
    (h : Sat w (pts g (.cells cur.toArray T (0, 0)) * R)) (sl : Nat) (hl : (Builtin.lenOf x).run P w = .ok sl w) (hc : (Builtin.firstCells 1 (Nat.min sl dLen) x).run P w = .ok vs.toArray w) (hn : vs.length = Nat.min sl dLen) (hfit : off + vs.length ≤ cur.length) (h1 : ∀ v ∈ vs, v.oneCell' = true)
    (hk : ∀ w', Sat w' (pts g (.cells (splice cur off vs).toArray T (0, 0)) * R) → Ran w w' → K (a.put o.dst (.int .i64 (vs.length : Int))) w') :
    if Region.wanted o (yielded ops a.tmps) = true then Oper.wp P o a w K Q else E := by
  rw [if_pos (by simp [Region.wanted, hgd])]
  exact wp_copy_sat d s dT sT ho elem hu hsz g off dLen dCap x hd hx cur vs T h sl hl hc hn hfit h1 hk
end
end Go.Proofs.Ytgaeafhkepfgjaa
