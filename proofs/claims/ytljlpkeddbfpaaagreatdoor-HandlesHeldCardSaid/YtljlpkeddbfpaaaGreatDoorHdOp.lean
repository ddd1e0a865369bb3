/- The calls of the laws, opened; Few walked. -/
import Derived.Test.YtljlpkeddbfpaaaGreatDoorHdO
namespace Go.Proofs.YtljlpkeddbfpaaaGreatDoor.Hd
open Go.ChangeShapes Go.WideShapes Go.ChangeAt Go.ChangeMaps Go.RowKit Go.Proofs.YtljlpkeddbfpaaaGreatDoor Go.Proofs.YtljlpkeddbfpaaaGreatDoor.Hp
set_option linter.unusedVariables false
attribute [local go_sem] Oper.semAt_some

theorem cellsI : Tryz.prog.cellsOf 3 = 1 := by kernel_rfl
theorem cellsB : Tryz.prog.cellsOf 4 = 1 := by kernel_rfl
theorem cellsMd : Tryz.prog.cellsOf 35 = 3 := by kernel_rfl
theorem cellsOp : Tryz.prog.cellsOf 57 = 8 := by kernel_rfl
/-- A call of the laws. -/
structure Opr where
  ask : Int
  id : Int
  node : Int
  n : Int
  m : Md
  d : ByteArray
instance : Inhabited Opr := ⟨⟨0, 0, 0, 0, ⟨false, false, false⟩, ⟨#[]⟩⟩⟩
def OkOp (o : Opr) : Prop := I64 o.ask ∧ I64 o.id ∧ I64 o.node ∧ I64 o.n ∧ o.d.size ≤ maxLen
def OpAt (w : World) (b q : Nat) (x : Opr) : Prop :=
  w.cell? ⟨b, q, none⟩ = some (.int .i64 x.ask) ∧ w.cell? ⟨b, q + 1, none⟩ = some (.int .i64 x.id) ∧ w.cell? ⟨b, q + 2, none⟩ = some (.int .i64 x.node) ∧ w.cell? ⟨b, q + 3, none⟩ = some (.int .i64 x.n) ∧
    w.cell? ⟨b, q + 4, none⟩ = some (.bool x.m.r) ∧ w.cell? ⟨b, q + 5, none⟩ = some (.bool x.m.w) ∧ w.cell? ⟨b, q + 6, none⟩ = some (.bool x.m.m) ∧ w.cell? ⟨b, q + 7, none⟩ = some (.string x.d)
theorem OpAt.keep {w w' : World} {b q : Nat} {x : Opr} (h : OpAt w b q x) (hk : w'.heap[b]? = w.heap[b]?) : OpAt w' b q x := by
  obtain ⟨h0, h1, h2, h3, h4, h5, h6, h7⟩ := h
  have hc : ∀ j, w'.cell? ⟨b, j, none⟩ = w.cell? ⟨b, j, none⟩ := fun j => World.cell?_of_block (w := w) hk
  exact ⟨by rw [hc]; exact h0, by rw [hc]; exact h1, by rw [hc]; exact h2, by rw [hc]; exact h3, by rw [hc]; exact h4, by rw [hc]; exact h5, by rw [hc]; exact h6, by rw [hc]; exact h7⟩
def OpsAt (w : World) (ao : Option Addr) (l : List Opr) : Prop :=
  ∀ i (h : i < l.length), OkOp l[i] ∧ ∃ b o, ao = some ⟨b, o, none⟩ ∧ b < w.heap.size ∧ OpAt w b (o + i * 8) l[i]
section
variable {H : Type} {enc : TypeId × Value → H} {P : Program} {w : World} {base : Nat} {spare : Nat → Bool} {held : Bool}
theorem trod_struct6 {t : TypeId} {f0 f1 f2 f3 f4 f5 : Field} {fuel : Nat} {cs : List Value} {x : DataW H × List MemPlace} (ht : P.underlying t = some (.struct #[f0, f1, f2, f3, f4, f5])) (h : DataW.trod enc P w base spare held fuel t cs = some x) :
    ∃ y0 y1 y2 y3 y4 y5 n, cs.length = P.cellsOf t ∧ DataW.trod enc P w base spare held n f0.type ((cs.drop f0.offset).take (P.cellsOf f0.type)) = some y0 ∧
      DataW.trod enc P w base spare held n f1.type ((cs.drop f1.offset).take (P.cellsOf f1.type)) = some y1 ∧ DataW.trod enc P w base spare held n f2.type ((cs.drop f2.offset).take (P.cellsOf f2.type)) = some y2 ∧
      DataW.trod enc P w base spare held n f3.type ((cs.drop f3.offset).take (P.cellsOf f3.type)) = some y3 ∧ DataW.trod enc P w base spare held n f4.type ((cs.drop f4.offset).take (P.cellsOf f4.type)) = some y4 ∧
      DataW.trod enc P w base spare held n f5.type ((cs.drop f5.offset).take (P.cellsOf f5.type)) = some y5 := by
  obtain ⟨xs, n, _, rfl, hl, hlen, hf⟩ := DataW.trod_struct ht h
  match xs, hlen with
  | [y0, y1, y2, y3, y4, y5], _ => exact ⟨y0, y1, y2, y3, y4, y5, n, hl, by simpa using hf 0 f0 rfl, by simpa using hf 1 f1 rfl, by simpa using hf 2 f2 rfl, by simpa using hf 3 f3 rfl, by simpa using hf 4 f4 rfl, by simpa using hf 5 f5 rfl⟩
end
theorem md_open {H : Type} {enc : TypeId × Value → H} {W : World} {base : Nat} {spare : Nat → Bool} {held : Bool} {n : Nat} {c0 c1 c2 : Value} {y : DataW H × List MemPlace} (h : DataW.trod enc Tryz.prog W base spare held n 35 [c0, c1, c2] = some y) :
    ∃ m : Md, c0 = .bool m.r ∧ c1 = .bool m.w ∧ c2 = .bool m.m := by
  obtain ⟨y0, y1, y2, m, _, _, h0, h1, h2⟩ := Deep.trod_struct3 Tryz.underlying35 h
  simp only [cellsB, List.drop_zero, List.drop_succ_cons, List.take_succ_cons, List.take_zero] at h0 h1 h2
  obtain ⟨a0, e0, _⟩ := DataW.trod_bool Tryz.underlying4 h0
  obtain ⟨a1, e1, _⟩ := DataW.trod_bool Tryz.underlying4 h1
  obtain ⟨a2, e2, _⟩ := DataW.trod_bool Tryz.underlying4 h2
  simp only [List.cons.injEq, and_true] at e0 e1 e2
  exact ⟨⟨a0, a1, a2⟩, e0, e1, e2⟩
theorem op_open {H : Type} {enc : TypeId × Value → H} {W : World} {base : Nat} {spare : Nat → Bool} {held : Bool} {n : Nat} {c0 c1 c2 c3 c4 c5 c6 c7 : Value} {y : DataW H × List MemPlace} (h : DataW.trod enc Tryz.prog W base spare held n 57 [c0, c1, c2, c3, c4, c5, c6, c7] = some y) :
    ∃ x : Opr, OkOp x ∧ c0 = .int .i64 x.ask ∧ c1 = .int .i64 x.id ∧ c2 = .int .i64 x.node ∧ c3 = .int .i64 x.n ∧ c4 = .bool x.m.r ∧ c5 = .bool x.m.w ∧ c6 = .bool x.m.m ∧ c7 = .string x.d := by
  obtain ⟨y0, y1, y2, y3, y4, y5, m, _, h0, h1, h2, h3, h4, h5⟩ := trod_struct6 Tryz.underlying57 h
  simp only [cellsI, cellsStr, cellsMd, List.drop_zero, List.drop_succ_cons, List.take_succ_cons, List.take_zero] at h0 h1 h2 h3 h4 h5
  obtain ⟨a0, e0, _, w0⟩ := DataW.trod_int Tryz.underlying3 h0
  obtain ⟨a1, e1, _, w1⟩ := DataW.trod_int Tryz.underlying3 h1
  obtain ⟨a2, e2, _, w2⟩ := DataW.trod_int Tryz.underlying3 h2
  obtain ⟨a3, e3, _, w3⟩ := DataW.trod_int Tryz.underlying3 h3
  obtain ⟨md, e4, e5, e6⟩ := md_open h4
  obtain ⟨s, e7, _, w7⟩ := DataW.trod_string Tryz.underlying9 h5
  simp only [List.cons.injEq, and_true] at e0 e1 e2 e3 e7
  exact ⟨⟨a0, a1, a2, a3, md, s⟩, ⟨i64_of w0, i64_of w1, i64_of w2, i64_of w3, w7⟩, e0, e1, e2, e3, e4, e5, e6, e7⟩
set_option maxRecDepth 100000 in
theorem ops_open {H : Type} {enc : TypeId × Value → H} {W : World} {r : Reach} {b0 base : Nat} {spare : Nat → Bool} {held : Bool} {v : Value} {d : DataW H} {p : List MemPlace} (hv : Value.okWide Tryz.prog W r b0 52 v)
    (h : DataW.Trod enc Tryz.prog W base spare held 52 v d p) : ∃ ao l cap, v = .slice ao (List.length l) cap ∧ OpsAt W ao l := by
  obtain ⟨ao, len, cap, rfl⟩ := okWide_slice Tryz.underlying52 hv
  obtain ⟨fuel, hf⟩ := h
  rcases Deep.open_slice Tryz.underlying52 hf with ⟨hcs, _⟩ | ⟨a, len', cap', m, n, D, Pl, hcs, _, hl, _, hm, _, hx⟩
  · simp [Value.cells] at hcs
    obtain ⟨rfl, rfl, rfl⟩ := hcs
    exact ⟨none, [], 0, rfl, fun i hi => by simp at hi⟩
  · simp [Value.cells] at hcs
    obtain ⟨rfl, rfl, rfl⟩ := hcs
    have hlm : len ≤ m := by rw [hm]; split <;> omega
    have key : ∀ i, i < len → ∃ x : Opr, OkOp x ∧ W.cell? ((a.add (i * 8)).add 0) = some (.int .i64 x.ask) ∧ W.cell? ((a.add (i * 8)).add 1) = some (.int .i64 x.id) ∧ W.cell? ((a.add (i * 8)).add 2) = some (.int .i64 x.node) ∧ W.cell? ((a.add (i * 8)).add 3) = some (.int .i64 x.n) ∧
        W.cell? ((a.add (i * 8)).add 4) = some (.bool x.m.r) ∧ W.cell? ((a.add (i * 8)).add 5) = some (.bool x.m.w) ∧ W.cell? ((a.add (i * 8)).add 6) = some (.bool x.m.m) ∧ W.cell? ((a.add (i * 8)).add 7) = some (.string x.d) := fun i hi => by
      obtain ⟨cs, hc, ht⟩ := hx i (by omega)
      rw [cellsOp] at hc
      obtain ⟨_, hlen, hat⟩ := World.cells?_some hc
      match cs, hlen, ht with
      | [c0, c1, c2, c3, c4, c5, c6, c7], _, ht =>
        obtain ⟨x, ok, rfl, rfl, rfl, rfl, rfl, rfl, rfl, rfl⟩ := op_open ht
        exact ⟨x, ok, hat 0 (by omega), hat 1 (by omega), hat 2 (by omega), hat 3 (by omega), hat 4 (by omega), hat 5 (by omega), hat 6 (by omega), hat 7 (by omega)⟩
    obtain ⟨f, hfx⟩ := Deep.choose_lt key
    refine ⟨some a, (List.range len).map f, cap, by simp, fun i hi => ?_⟩
    have hi' : i < len := by simpa using hi
    obtain ⟨b, o, s⟩ := a
    have hs : s = none := by
      have h00 := (hfx 0 (by omega)).2.1
      simp [Addr.add] at h00
      simpa using World.cell?_spot h00
    subst hs
    obtain ⟨ok, h0, h1, h2, h3, h4, h5, h6, h7⟩ := hfx i hi'
    have e : ((List.range len).map f)[i] = f i := by simp
    rw [e]
    simp only [Addr.add_lit, Nat.add_zero] at h0 h1 h2 h3 h4 h5 h6 h7
    exact ⟨ok, b, o, rfl, World.block_lt_of_cell? W _ h0, h0, h1, h2, h3, h4, h5, h6, h7⟩
abbrev opA (o : Opr) : Value := .agg #[.int .i64 o.ask, .int .i64 o.id, .int .i64 o.node, .int .i64 o.n, .bool o.m.r, .bool o.m.w, .bool o.m.m, .string o.d]
abbrev opO (o : Opr) : Obj := .cells #[.int .i64 o.ask, .int .i64 o.id, .int .i64 o.node, .int .i64 o.n, .bool o.m.r, .bool o.m.w, .bool o.m.m, .string o.d] 57 (0, 0)
theorem op_cells {w : World} {b : Nat} {o : Opr} {S : Hp} (h : Sat w (pts b (opO o) * S)) : OpAt w b 0 o :=
  ⟨by rw [cell_at h.get]; rfl, by rw [cell_at h.get]; rfl, by rw [cell_at h.get]; rfl, by rw [cell_at h.get]; rfl, by rw [cell_at h.get]; rfl, by rw [cell_at h.get]; rfl, by rw [cell_at h.get]; rfl, by rw [cell_at h.get]; rfl⟩
/-- Which call it is. -/
def askI (o : Opr) : Int := o.ask % 8
theorem askI_cases (o : Opr) : askI o = 0 ∨ askI o = 1 ∨ askI o = 2 ∨ askI o = 3 ∨ askI o = 4 ∨ askI o = 5 ∨ askI o = 6 ∨ askI o = 7 := by
  unfold askI
  omega
theorem ask_math (x : Int) : (x.tmod 8 + 8).tmod 8 = x % 8 := by
  rcases Int.lt_or_le x 0 with h | h
  · obtain ⟨n, rfl⟩ : ∃ n : Nat, x = -(n : Int) := ⟨x.natAbs, by omega⟩
    rw [Int.neg_tmod]
    have h1 : ((n : Int)).tmod 8 = ((n % 8 : Nat) : Int) := by rw [Int.tmod_eq_emod_of_nonneg (by omega)]; omega
    rw [h1, Int.tmod_eq_emod_of_nonneg (by omega)]
    omega
  · rw [Int.tmod_eq_emod_of_nonneg h, Int.tmod_eq_emod_of_nonneg (by omega)]
    omega
def FewO (o : Opr) : Prop := o.d.size ≤ 100
def FewP (l : List Opr) : Prop := l.length ≤ 40 ∧ ∀ o ∈ l, FewO o
def FewSays (l : List Opr) (w : World) (e : Ending) (w' : World) : Prop := (∃ r, e = .returned (.bool r) ∧ (r = true → FewP l)) ∧ w = w'
set_option maxRecDepth 100000 in
set_option maxHeartbeats 16000000 in
theorem few_calls (l : List Opr) (ao : Option Addr) (cap : Nat) (w : World) (hl : OpsAt w ao l) :
    Calls Tryz.prog 21 #[.slice ao l.length cap] w (FewSays l w) := by
  have HL := Lib.hid hl
  clear hl
  by_cases h50 : 40 < l.length
  · have h50I : (40 : Int) < l.length := by omega
    go_enter Tryz.func21, Tryz.ntmps21
    go_wp2_with fail
    go_ret
    exact ⟨⟨false, rfl, fun h => by cases h⟩, rfl⟩
  have h50I : (l.length : Int) ≤ 40 := by omega
  have H50 := Lib.hid (show l.length ≤ 40 by omega)
  go_enter Tryz.func21, Tryz.ntmps21
  go_wp2_with fail
  go_loopg [3] (l.length) (fun (g : Nat) (v3 : Value) (wr : World) => ∃ i : Nat, v3 = .int .i64 (i : Int) ∧ i + g = l.length ∧ (∀ j (h : j < l.length), j < i → FewO l[j]) ∧ w = wr)
  case atStart => exact ⟨0, rfl, by omega, fun j _ h => absurd h (Nat.not_lt_zero _), rfl⟩
  case round =>
    obtain ⟨i, rfl, hg, hok, rfl⟩ := hrel
    by_cases hlt : i < l.length
    · have hltI : (i : Int) < l.length := by omega
      have hi0 : (0 : Int) ≤ i := by omega
      obtain ⟨okx, b, o, rfl, hb, e0, e1, e2, e3, e4, e5, e6, e7⟩ := HL.out i hlt
      obtain ⟨x, hx⟩ : ∃ x, x = l[i] := ⟨_, rfl⟩
      rw [← hx] at okx e0 e1 e2 e3 e4 e5 e6 e7
      have Hx := Lib.hid hx
      have Hok := Lib.hid hok
      have hk : (x.d.size : Int) ≤ 9223372036854775807 := by have := okx.2.2.2.2; unfold maxLen at this; omega
      clear okx hx hok hb e0 e1 e2 e3 e4 e5 e6
      go_wp2_with fail
      all_goals
        first
          | (go_ret; exact ⟨⟨false, rfl, fun h => by cases h⟩, rfl⟩)
          | (have hk2 : x.d.size ≤ 100 := by omega
             have HF := Lib.hid hk2
             go_roundg (gk - 1)
             case rel =>
               refine ⟨i + 1, by simp, by omega, fun q hq hqj => ?_, rfl⟩
               by_cases hqi : q = i
               · subst hqi
                 show l[q].d.size ≤ 100
                 rw [← Hx.out]; exact HF.out
               · exact Hok.out q hq (by omega)
             case measure => omega)
    · have hge : (l.length : Int) ≤ i := by omega
      have Hok := Lib.hid hok
      have hn : l.length ≤ i := by omega
      have HN := Lib.hid hn
      clear hok hn
      go_wp2_with fail
      go_ret
      exact ⟨⟨true, rfl, fun _ => ⟨H50.out, fun o ho => by
        obtain ⟨j, hj, rfl⟩ := List.mem_iff_getElem.1 ho
        exact Hok.out j hj (by have := HN.out; omega)⟩⟩, rfl⟩
end Go.Proofs.YtljlpkeddbfpaaaGreatDoor.Hd
