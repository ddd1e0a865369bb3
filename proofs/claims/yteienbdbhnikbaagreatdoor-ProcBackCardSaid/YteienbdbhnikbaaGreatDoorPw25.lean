/- HandlesPlays, part 25 of 31: the texts PrOp PrDo, joined by a program. -/
import Derived.Test.YteienbdbhnikbaaGreatDoorPw24
import Derived.Test.YteienbdbhnikbaaGreatDoorRows
import Derived.ProofKit
import Derived.OpenShut
import Derived.ShutString
import Derived.ChangeOld
import Derived.Deep.Slices
import Derived.Lib.SmallJoins
import Derived.Deep.Strs
import Derived.LaidMore
import Derived.Lay
import Derived.Handed
import Derived.Shelf.Strings.Shaped
namespace Go.Proofs.YteienbdbhnikbaaGreatDoor.Pr
open Go.ChangeShapes Go.WideShapes Go.ChangeAt Go.ChangeMaps Go.RowKit Go.Proofs.YteienbdbhnikbaaGreatDoor Go.Proofs.YteienbdbhnikbaaGreatDoor.Hp Go.Proofs.YteienbdbhnikbaaGreatDoor.Hd
set_option linter.unusedVariables false
attribute [local go_sem] Oper.semAt_some

theorem maxlen_cell (w : World) (h : w.ShapedOpen Tryz.prog) : ∃ m, w.cell? ⟨0, 0, none⟩ = some (.int .i64 m) :=
  Go.Proofs.cell_of_shapedOpen_int (zero := #[.int .i64 0]) (t := 3) h (of_decide_eq_true (by kernel_rfl)) (by kernel_rfl) rfl (by kernel_rfl) (by kernel_rfl) Tryz.underlying3
theorem glob_keep {W : World} (h : W.ShapedOpen Tryz.prog) : Glob (keep W) := by
  obtain ⟨m, hm⟩ := maxlen_cell W h
  refine ⟨m, fun w S hS => ?_⟩
  rw [← hm]
  exact World.cell?_of_block (w := W) (hS.right.kept 0 (World.block_lt_of_cell? _ _ hm))
/-- The wrap of a law's row that keeps what is laid and the world's shape. -/
theorem handed_shaped {H : Type} {enc : TypeId × Value → H} {a : Assume} {C : Checked} {os : Os} {f : FuncId} {fn : Func} {s : ChangeSpec} {conds : List PathCond} {apart fresh handsOn again : Bool} {X : World → Array Value → Prop}
    (hX : ∀ (w w' : World) (args : Array Value), w.heap = w'.heap → X w args → X w' args)
    (own : ownKnob C.prog.godebug = none) (started : os.Started) (noInit : C.prog.inits.idxOf? f = none) (hfn : C.prog.funcs[f]? = some fn)
    (witness : ∃ (w : World) (tape : Tape) (i : Input), w.os = os ∧ (w.forCall tape i).Shaped C.prog ∧ i.vars = [] ∧ Input.okWide C.prog (w.forCall tape i) .any w.heap.size f i ∧
      ((s.pre enc C.prog fn conds apart (w.forCall tape i).memory i.args ∧ X (w.forCall tape i).memory i.args) ∧ sizedMet enc C.prog fn (OpenSpec.ofChange s) apart (w.forCall tape i).memory i.args) ∧ a.holds C.prog (lone (Frame.enter C.prog f i.args .normal) [] (w.forCall tape i)))
    (contract : ∀ (W : World) (base : Nat) (args : Array Value) (ds gs : List (DataW H)) (before : List MemPlace),
      (∀ (j : Nat) t v, fn.params[j]? = some t → args[j]? = some v → Value.okWide C.prog W .any base t v) →
      DataW.Whole enc C.prog fn.params.toList s.vars apart W args.toList ds gs before →
      conds.all (PathCond.test C.prog ⟨fn.params.toList, ds, s.plain.varTypes C.prog, gs⟩) = true →
      (DataW.weightsEach C.prog (fn.params.toList ++ s.plain.varTypes C.prog) (ds ++ gs)).all (· ≤ reachBytes) = true → X W args →
      W.ShapedOpen C.prog →
      Calls C.prog f args W fun e W' => ∃ v, e = .returned v ∧ s.post enc C.prog fn apart fresh handsOn again W args v W') :
    ReturnsInHanded a C os f .any (fun w args => (s.pre enc C.prog fn conds apart w args ∧ X w args) ∧ sizedMet enc C.prog fn (OpenSpec.ofChange s) apart w args) (s.post enc C.prog fn apart fresh handsOn again) := by
  refine returnsInHanded_of_calls own started noInit witness ?_
  intro w tape i _ hsh _ hok hpre hholds
  obtain ⟨_, _, _, fn', hfn', _, _, _, _, hval⟩ := hok
  have e : fn' = fn := Option.some.inj (hfn'.symm.trans hfn)
  subst e
  obtain ⟨⟨⟨ds, gs, before, hw, hc⟩, hx⟩, hz⟩ := hpre
  have hw' := DataW.Whole.of_heap (w' := w.forCall tape i) (by rfl) hw
  refine (contract (w.forCall tape i) w.heap.size i.args ds gs before hval hw' hc (hz.weights hw) (hX _ _ _ (by rfl) hx) hsh).mono fun e W' ⟨v, he, hp⟩ => ?_
  subst he
  exact ChangeSpec.post_blind hp
theorem i64_of {x : Int} (h : (Lit.int .i64 x).wf = true) : I64 x := by
  simp [Lit.wf, IntKind.min, IntKind.max, IntKind.signed, IntKind.bits] at h
  exact ⟨by omega, by omega⟩
theorem cellsStr : Tryz.prog.cellsOf 9 = 1 := by kernel_rfl
theorem cellsI : Tryz.prog.cellsOf 3 = 1 := by kernel_rfl
theorem cellsOp : Tryz.prog.cellsOf 36 = 7 := by kernel_rfl
/-- A call of the laws. -/
structure Opr where
  ask : Int
  fd : Int
  frm : Int
  kind : Int
  n : Int
  path : ByteArray
  data : ByteArray
instance : Inhabited Opr := ⟨⟨0, 0, 0, 0, 0, ⟨#[]⟩, ⟨#[]⟩⟩⟩
def OkOp (o : Opr) : Prop := I64 o.ask ∧ I64 o.fd ∧ I64 o.frm ∧ I64 o.kind ∧ I64 o.n ∧ o.path.size ≤ maxLen ∧ o.data.size ≤ maxLen
def OpAt (w : World) (b q : Nat) (x : Opr) : Prop :=
  w.cell? ⟨b, q, none⟩ = some (.int .i64 x.ask) ∧ w.cell? ⟨b, q + 1, none⟩ = some (.int .i64 x.fd) ∧ w.cell? ⟨b, q + 2, none⟩ = some (.int .i64 x.frm) ∧ w.cell? ⟨b, q + 3, none⟩ = some (.int .i64 x.kind) ∧ w.cell? ⟨b, q + 4, none⟩ = some (.int .i64 x.n) ∧ w.cell? ⟨b, q + 5, none⟩ = some (.string x.path) ∧ w.cell? ⟨b, q + 6, none⟩ = some (.string x.data)
theorem OpAt.keep {w w' : World} {b q : Nat} {x : Opr} (h : OpAt w b q x) (hk : w'.heap[b]? = w.heap[b]?) : OpAt w' b q x := by
  obtain ⟨h0, h1, h2, h3, h4, h5, h6⟩ := h
  have hc : ∀ j, w'.cell? ⟨b, j, none⟩ = w.cell? ⟨b, j, none⟩ := fun j => World.cell?_of_block (w := w) hk
  exact ⟨by rw [hc]; exact h0, by rw [hc]; exact h1, by rw [hc]; exact h2, by rw [hc]; exact h3, by rw [hc]; exact h4, by rw [hc]; exact h5, by rw [hc]; exact h6⟩
def OpsAt (w : World) (ao : Option Addr) (l : List Opr) : Prop :=
  ∀ i (h : i < l.length), OkOp l[i] ∧ ∃ b o, ao = some ⟨b, o, none⟩ ∧ b < w.heap.size ∧ OpAt w b (o + i * 7) l[i]
section
variable {H : Type} {enc : TypeId × Value → H} {P : Program} {w : World} {base : Nat} {spare : Nat → Bool} {held : Bool}
theorem trod_struct7 {t : TypeId} {f0 f1 f2 f3 f4 f5 f6 : Field} {fuel : Nat} {cs : List Value} {x : DataW H × List MemPlace} (ht : P.underlying t = some (.struct #[f0, f1, f2, f3, f4, f5, f6])) (h : DataW.trod enc P w base spare held fuel t cs = some x) :
    ∃ y0 y1 y2 y3 y4 y5 y6 n, cs.length = P.cellsOf t ∧ DataW.trod enc P w base spare held n f0.type ((cs.drop f0.offset).take (P.cellsOf f0.type)) = some y0 ∧ DataW.trod enc P w base spare held n f1.type ((cs.drop f1.offset).take (P.cellsOf f1.type)) = some y1 ∧ DataW.trod enc P w base spare held n f2.type ((cs.drop f2.offset).take (P.cellsOf f2.type)) = some y2 ∧ DataW.trod enc P w base spare held n f3.type ((cs.drop f3.offset).take (P.cellsOf f3.type)) = some y3 ∧ DataW.trod enc P w base spare held n f4.type ((cs.drop f4.offset).take (P.cellsOf f4.type)) = some y4 ∧ DataW.trod enc P w base spare held n f5.type ((cs.drop f5.offset).take (P.cellsOf f5.type)) = some y5 ∧ DataW.trod enc P w base spare held n f6.type ((cs.drop f6.offset).take (P.cellsOf f6.type)) = some y6 := by
  obtain ⟨xs, n, _, rfl, hl, hlen, hf⟩ := DataW.trod_struct ht h
  match xs, hlen with
  | [y0, y1, y2, y3, y4, y5, y6], _ => exact ⟨y0, y1, y2, y3, y4, y5, y6, n, hl, by simpa using hf 0 f0 rfl, by simpa using hf 1 f1 rfl, by simpa using hf 2 f2 rfl, by simpa using hf 3 f3 rfl, by simpa using hf 4 f4 rfl, by simpa using hf 5 f5 rfl, by simpa using hf 6 f6 rfl⟩
end
theorem op_open {H : Type} {enc : TypeId × Value → H} {W : World} {base : Nat} {spare : Nat → Bool} {held : Bool} {n : Nat} {c0 c1 c2 c3 c4 c5 c6 : Value} {y : DataW H × List MemPlace} (h : DataW.trod enc Tryz.prog W base spare held n 36 [c0, c1, c2, c3, c4, c5, c6] = some y) :
    ∃ x : Opr, OkOp x ∧ c0 = .int .i64 x.ask ∧ c1 = .int .i64 x.fd ∧ c2 = .int .i64 x.frm ∧ c3 = .int .i64 x.kind ∧ c4 = .int .i64 x.n ∧ c5 = .string x.path ∧ c6 = .string x.data := by
  obtain ⟨y0, y1, y2, y3, y4, y5, y6, m, _, h0, h1, h2, h3, h4, h5, h6⟩ := trod_struct7 Tryz.underlying36 h
  simp only [cellsI, cellsStr, List.drop_zero, List.drop_succ_cons, List.take_succ_cons, List.take_zero] at h0 h1 h2 h3 h4 h5 h6
  obtain ⟨a0, e0, _, w0⟩ := DataW.trod_int Tryz.underlying3 h0
  obtain ⟨a1, e1, _, w1⟩ := DataW.trod_int Tryz.underlying3 h1
  obtain ⟨a2, e2, _, w2⟩ := DataW.trod_int Tryz.underlying3 h2
  obtain ⟨a3, e3, _, w3⟩ := DataW.trod_int Tryz.underlying3 h3
  obtain ⟨a4, e4, _, w4⟩ := DataW.trod_int Tryz.underlying3 h4
  obtain ⟨s5, e5, _, w5⟩ := DataW.trod_string Tryz.underlying9 h5
  obtain ⟨s6, e6, _, w6⟩ := DataW.trod_string Tryz.underlying9 h6
  simp only [List.cons.injEq, and_true] at e0 e1 e2 e3 e4 e5 e6
  exact ⟨⟨a0, a1, a2, a3, a4, s5, s6⟩, ⟨i64_of w0, i64_of w1, i64_of w2, i64_of w3, i64_of w4, w5, w6⟩, e0, e1, e2, e3, e4, e5, e6⟩
set_option maxRecDepth 100000 in
theorem ops_open {H : Type} {enc : TypeId × Value → H} {W : World} {r : Reach} {b0 base : Nat} {spare : Nat → Bool} {held : Bool} {v : Value} {d : DataW H} {p : List MemPlace} (hv : Value.okWide Tryz.prog W r b0 22 v)
    (h : DataW.Trod enc Tryz.prog W base spare held 22 v d p) : ∃ ao l cap, v = .slice ao (List.length l) cap ∧ OpsAt W ao l := by
  obtain ⟨ao, len, cap, rfl⟩ := okWide_slice Tryz.underlying22 hv
  obtain ⟨fuel, hf⟩ := h
  rcases Deep.open_slice Tryz.underlying22 hf with ⟨hcs, _⟩ | ⟨a, len', cap', m, n, D, Pl, hcs, _, hl, _, hm, _, hx⟩
  · simp [Value.cells] at hcs
    obtain ⟨rfl, rfl, rfl⟩ := hcs
    exact ⟨none, [], 0, rfl, fun i hi => by simp at hi⟩
  · simp [Value.cells] at hcs
    obtain ⟨rfl, rfl, rfl⟩ := hcs
    have hlm : len ≤ m := by rw [hm]; split <;> omega
    have key : ∀ i, i < len → ∃ x : Opr, OkOp x ∧ W.cell? ((a.add (i * 7)).add 0) = some (.int .i64 x.ask) ∧ W.cell? ((a.add (i * 7)).add 1) = some (.int .i64 x.fd) ∧ W.cell? ((a.add (i * 7)).add 2) = some (.int .i64 x.frm) ∧ W.cell? ((a.add (i * 7)).add 3) = some (.int .i64 x.kind) ∧ W.cell? ((a.add (i * 7)).add 4) = some (.int .i64 x.n) ∧ W.cell? ((a.add (i * 7)).add 5) = some (.string x.path) ∧ W.cell? ((a.add (i * 7)).add 6) = some (.string x.data) := fun i hi => by
      obtain ⟨cs, hc, ht⟩ := hx i (by omega)
      rw [cellsOp] at hc
      obtain ⟨_, hlen, hat⟩ := World.cells?_some hc
      match cs, hlen, ht with
      | [c0, c1, c2, c3, c4, c5, c6], _, ht =>
        obtain ⟨x, ok, rfl, rfl, rfl, rfl, rfl, rfl, rfl⟩ := op_open ht
        exact ⟨x, ok, hat 0 (by omega), hat 1 (by omega), hat 2 (by omega), hat 3 (by omega), hat 4 (by omega), hat 5 (by omega), hat 6 (by omega)⟩
    obtain ⟨f, hfx⟩ := Deep.choose_lt key
    refine ⟨some a, (List.range len).map f, cap, by simp, fun i hi => ?_⟩
    have hi' : i < len := by simpa using hi
    obtain ⟨b, o, s⟩ := a
    have hs : s = none := by
      have h00 := (hfx 0 (by omega)).2.1
      simp [Addr.add] at h00
      simpa using World.cell?_spot h00
    subst hs
    obtain ⟨ok, h0, h1, h2, h3, h4, h5, h6⟩ := hfx i hi'
    have e : ((List.range len).map f)[i] = f i := by simp
    rw [e]
    simp only [Addr.add_lit, Nat.add_zero] at h0 h1 h2 h3 h4 h5 h6
    exact ⟨ok, b, o, rfl, World.block_lt_of_cell? W _ h0, h0, h1, h2, h3, h4, h5, h6⟩
abbrev opA (x : Opr) : Value := .agg #[.int .i64 x.ask, .int .i64 x.fd, .int .i64 x.frm, .int .i64 x.kind, .int .i64 x.n, .string x.path, .string x.data]
abbrev opO (x : Opr) : Obj := .cells #[.int .i64 x.ask, .int .i64 x.fd, .int .i64 x.frm, .int .i64 x.kind, .int .i64 x.n, .string x.path, .string x.data] 36 (0, 0)
theorem op_cells {w : World} {b : Nat} {o : Opr} {S : Hp} (h : Sat w (pts b (opO o) * S)) : OpAt w b 0 o :=
  ⟨by rw [cell_at h.get]; rfl, by rw [cell_at h.get]; rfl, by rw [cell_at h.get]; rfl, by rw [cell_at h.get]; rfl, by rw [cell_at h.get]; rfl, by rw [cell_at h.get]; rfl, by rw [cell_at h.get]; rfl⟩
/-- Which call it is. -/
def askI (o : Opr) : Int := o.ask % 12
theorem ask_math (x : Int) : (x.tmod 12 + 12).tmod 12 = x % 12 := by
  rcases Int.lt_or_le x 0 with h | h
  · obtain ⟨n, rfl⟩ : ∃ n : Nat, x = -(n : Int) := ⟨x.natAbs, by omega⟩
    rw [Int.neg_tmod]
    have h1 : ((n : Int)).tmod 12 = ((n % 12 : Nat) : Int) := by rw [Int.tmod_eq_emod_of_nonneg (by omega)]; omega
    rw [h1, Int.tmod_eq_emod_of_nonneg (by omega)]
    omega
  · rw [Int.tmod_eq_emod_of_nonneg h, Int.tmod_eq_emod_of_nonneg (by omega)]
    omega
theorem tmod_range (a : Int) : -12 < a.tmod 12 ∧ a.tmod 12 < 12 := by
  rcases Int.le_total 0 a with h | h
  · rw [Int.tmod_eq_emod_of_nonneg h]; omega
  · have e : a = -(-a) := by omega
    rw [e, Int.neg_tmod, Int.tmod_eq_emod_of_nonneg (by omega)]; omega
theorem kind_eq (a : Int) : (wrap64 (a.tmod 12 + 12)).tmod 12 = a % 12 := by
  obtain ⟨h1, h2⟩ := tmod_range a
  rw [show wrap64 (a.tmod 12 + 12) = a.tmod 12 + 12 by unfold wrap64; omega, ask_math]
set_option maxRecDepth 100000 in
theorem ask_calls (o : Opr) (w : World) : Calls Tryz.prog 10 #[opA o] w fun e w' => e = .returned (.int .i64 (askI o)) ∧ w' = w.alloc (opO o) := by
  have S1 := (Sat.start w).alloc (opO o)
  obtain ⟨e0, e1, e2, e3, e4, e5, e6⟩ := op_cells S1
  have hk := kind_eq o.ask
  obtain ⟨oa, ofd, ofr, okd, on, opt, od⟩ := o
  dsimp only at e0 e1 e2 e3 e4 e5 e6 hk
  clear S1
  go_enter Tryz.func10, Tryz.ntmps10
  go_wp2_with fail
  go_ret
  exact ⟨rfl, rfl⟩
def FewO (o : Opr) : Prop := o.path.size ≤ 100 ∧ o.data.size ≤ 100
def FewP (l : List Opr) : Prop := l.length ≤ 50 ∧ ∀ o ∈ l, FewO o
def FewSays (l : List Opr) (w : World) (e : Ending) (w' : World) : Prop := (∃ r, e = .returned (.bool r) ∧ (r = true → FewP l)) ∧ w = w'
set_option maxRecDepth 100000 in
set_option maxHeartbeats 16000000 in
theorem few_calls (l : List Opr) (ao : Option Addr) (cap : Nat) (w : World) (hl : OpsAt w ao l) :
    Calls Tryz.prog 7 #[.slice ao l.length cap] w (FewSays l w) := by
  have HL := Lib.hid hl
  clear hl
  by_cases h50 : 50 < l.length
  · have h50I : (50 : Int) < l.length := by omega
    go_enter Tryz.func7, Tryz.ntmps7
    go_wp2_with fail
    go_ret
    exact ⟨⟨false, rfl, fun h => by cases h⟩, rfl⟩
  have h50I : (l.length : Int) ≤ 50 := by omega
  have H50 := Lib.hid (show l.length ≤ 50 by omega)
  go_enter Tryz.func7, Tryz.ntmps7
  go_wp2_with fail
  go_loopg [3] (l.length) (fun (g : Nat) (v3 : Value) (wr : World) => ∃ i : Nat, v3 = .int .i64 (i : Int) ∧ i + g = l.length ∧ (∀ j (h : j < l.length), j < i → FewO l[j]) ∧ w = wr)
  case atStart => exact ⟨0, rfl, by omega, fun j _ h => absurd h (Nat.not_lt_zero _), rfl⟩
  case round =>
    obtain ⟨i, rfl, hg, hok, rfl⟩ := hrel
    by_cases hlt : i < l.length
    · have hltI : (i : Int) < l.length := by omega
      have hi0 : (0 : Int) ≤ i := by omega
      obtain ⟨okx, b, o, rfl, hb, e0, e1, e2, e3, e4, e5, e6⟩ := HL.out i hlt
      obtain ⟨x, hx⟩ : ∃ x, x = l[i] := ⟨_, rfl⟩
      rw [← hx] at okx e0 e1 e2 e3 e4 e5 e6
      have Hx := Lib.hid hx
      have Hok := Lib.hid hok
      have hk : (x.data.size : Int) ≤ 9223372036854775807 := by have := okx.2.2.2.2.2.2; unfold maxLen at this; omega
      have hk0 : (x.path.size : Int) ≤ 9223372036854775807 := by have := okx.2.2.2.2.2.1; unfold maxLen at this; omega
      clear okx hx hok hb e0 e1 e2 e3 e4
      by_cases hp1 : 100 < x.path.size
      · have hp1I : (100 : Int) < (x.path.size : Int) := by omega
        go_wp2_with fail
        go_ret
        exact ⟨⟨false, rfl, fun h => by cases h⟩, rfl⟩
      have hp1I : ¬ (100 : Int) < (x.path.size : Int) := by omega
      by_cases hp2 : 100 < x.data.size
      · have hp2I : (100 : Int) < (x.data.size : Int) := by omega
        go_wp2_with fail
        go_ret
        exact ⟨⟨false, rfl, fun h => by cases h⟩, rfl⟩
      have hp2I : ¬ (100 : Int) < (x.data.size : Int) := by omega
      have HF := Lib.hid (show x.path.size ≤ 100 ∧ x.data.size ≤ 100 by omega)
      go_wp2_with fail
      go_roundg (gk - 1)
      case rel =>
        refine ⟨i + 1, by simp, by omega, fun q hq hqj => ?_, rfl⟩
        by_cases hqi : q = i
        · subst hqi
          show l[q].path.size ≤ 100 ∧ l[q].data.size ≤ 100
          rw [← Hx.out]; exact HF.out
        · exact Hok.out q hq (by omega)
      case measure => omega
    · have hge : (l.length : Int) ≤ i := by omega
      have Hok := Lib.hid hok
      have hn : l.length ≤ i := by omega
      have HN := Lib.hid hn
      clear hok hn
      go_wp2_with fail
      go_ret
      exact ⟨⟨true, rfl, fun _ => ⟨H50.out, fun o ho => by
        obtain ⟨j, hj, rfl⟩ := List.mem_iff_getElem.1 ho
        exact Hok.out j hj (by have := HN.out; omega)⟩⟩, rfl⟩
end Go.Proofs.YteienbdbhnikbaaGreatDoor.Pr

namespace Go.Proofs.YteienbdbhnikbaaGreatDoor.Pr
open Go.RowKit Go.Proofs.YteienbdbhnikbaaGreatDoor Go.Proofs.YteienbdbhnikbaaGreatDoor.Hp Go.Proofs.YteienbdbhnikbaaGreatDoor.Hd
set_option linter.unusedVariables false
attribute [local go_sem] Oper.semAt_some

abbrev worldV (f s t l p : Value) : Value := .agg #[f, s, t, l, p]
/-- The world in which the method is called. -/
abbrev W3 (f s t l p : Value) (o : Opr) (w : World) : World := ((w.alloc (woP f s t l p)).alloc (opO o)).alloc (opO o)
theorem w3_facts (f s t l p : Value) (o : Opr) (w : World) : let w3 := W3 f s t l p o w
    (w3.cell? ⟨w.heap.size, 0, none⟩ = some f ∧ w3.cell? ⟨w.heap.size, 1, none⟩ = some s ∧ w3.cell? ⟨w.heap.size, 2, none⟩ = some t ∧ w3.cell? ⟨w.heap.size, 3, none⟩ = some l ∧ w3.cell? ⟨w.heap.size, 4, none⟩ = some p) ∧ OpAt w3 (w.heap.size + 1) 0 o := by
  have S1 := (((Sat.start w).alloc (woP f s t l p)).alloc (opO o)).alloc (opO o)
  rw [World.size_alloc] at S1
  rw [World.size_alloc] at S1
  refine ⟨woP_cells (S1.perm (show _ = pts w.heap.size (woP f s t l p) * (pts (w.heap.size + 1 + 1) (opO o) * (pts (w.heap.size + 1) (opO o) * keep w)) by ac_rfl)), op_cells (S1.perm (show _ = pts (w.heap.size + 1) (opO o) * (pts (w.heap.size + 1 + 1) (opO o) * (pts w.heap.size (woP f s t l p) * keep w)) by ac_rfl))⟩
theorem w2_op (f s t l p : Value) (o : Opr) (w : World) : OpAt ((w.alloc (woP f s t l p)).alloc (opO o)) (w.heap.size + 1) 0 o := by
  have S1 := ((Sat.start w).alloc (woP f s t l p)).alloc (opO o)
  rw [World.size_alloc] at S1
  exact op_cells S1
set_option maxRecDepth 100000 in
set_option maxHeartbeats 8000000 in
theorem does_Open (o : Opr) (f s t l p : Value) (w : World) (Q : Int → ByteArray → Int → World → Prop) (ha : askI o = 0)
    (HC : Calls Tryz.prog 26 #[p, .int .i64 o.fd, .string o.path, .int .i64 o.kind] (W3 f s t l p o w) fun e w' => ∃ er : Int, e = .returned (.int .i64 er) ∧ Q 0 ⟨#[]⟩ er w') :
    Calls Tryz.prog 11 #[worldV f s t l p, opA o] w fun e w' => ∃ (n : Int) (s : ByteArray) (er : Int), e = .returned (.tuple #[.int .i64 n, .string s, .int .i64 er]) ∧ Q n s er w' := by
  obtain ⟨⟨c0, c1, c2, c3, c4⟩, e0, e1, e2, e3, e4, e5, e6⟩ := w3_facts f s t l p o w
  obtain ⟨g0, g1, g2, g3, g4, g5, g6⟩ := w2_op f s t l p o w
  have HA := ask_calls o ((w.alloc (woP f s t l p)).alloc (opO o))
  rw [ha] at HA
  obtain ⟨w2, hw2⟩ : ∃ w2, w2 = (w.alloc (woP f s t l p)).alloc (opO o) := ⟨_, rfl⟩
  obtain ⟨w3, hw3⟩ : ∃ w3, w3 = W3 f s t l p o w := ⟨_, rfl⟩
  have h23 : w2.alloc (opO o) = w3 := by rw [hw3, hw2]
  rw [← hw3] at HC c0 c1 c2 c3 c4 e0 e1 e2 e3 e4 e5 e6
  rw [← hw2, h23] at HA
  rw [← hw2] at g0 g1 g2 g3 g4 g5 g6
  have HA := Lib.hid HA
  have HC := Lib.hid HC
  obtain ⟨oa, ofd, ofr, okd, on, opt, od⟩ := o
  dsimp only at *
  clear ha hw3 h23
  go_enter Tryz.func11, Tryz.ntmps11
  go_upto_region 1 with fail
  rw [← hw2]
  clear hw2
  go_wp2_with fail
  refine HA.out.mono ?_
  rintro e w' ⟨rfl, rfl⟩
  clear HA g0 g1 g2 g3 g4 g5 g6
  go_wp2_with fail
  refine HC.out.mono ?_
  rintro e w3 ⟨er, rfl, hQ⟩
  have hQ := Lib.hid hQ
  clear HC c0 c1 c2 c3 c4 e0 e1 e2 e3 e4 e5 e6
  go_wp2_with fail
  exact bodyPost_ret (v := .tuple #[.int .i64 0, .string ⟨#[]⟩, .int .i64 er]) (by simp [results, Tryz.results11, go_sem]) rfl ⟨0, ⟨#[]⟩, er, rfl, hQ.out⟩
set_option maxRecDepth 100000 in
set_option maxHeartbeats 8000000 in
theorem does_Put (o : Opr) (f s t l p : Value) (w : World) (Q : Int → ByteArray → Int → World → Prop) (ha : askI o = 1)
    (HC : Calls Tryz.prog 38 #[p, .int .i64 o.fd, .int .i64 o.frm] (W3 f s t l p o w) fun e w' => ∃ er : Int, e = .returned (.int .i64 er) ∧ Q 0 ⟨#[]⟩ er w') :
    Calls Tryz.prog 11 #[worldV f s t l p, opA o] w fun e w' => ∃ (n : Int) (s : ByteArray) (er : Int), e = .returned (.tuple #[.int .i64 n, .string s, .int .i64 er]) ∧ Q n s er w' := by
  obtain ⟨⟨c0, c1, c2, c3, c4⟩, e0, e1, e2, e3, e4, e5, e6⟩ := w3_facts f s t l p o w
  obtain ⟨g0, g1, g2, g3, g4, g5, g6⟩ := w2_op f s t l p o w
  have HA := ask_calls o ((w.alloc (woP f s t l p)).alloc (opO o))
  rw [ha] at HA
  obtain ⟨w2, hw2⟩ : ∃ w2, w2 = (w.alloc (woP f s t l p)).alloc (opO o) := ⟨_, rfl⟩
  obtain ⟨w3, hw3⟩ : ∃ w3, w3 = W3 f s t l p o w := ⟨_, rfl⟩
  have h23 : w2.alloc (opO o) = w3 := by rw [hw3, hw2]
  rw [← hw3] at HC c0 c1 c2 c3 c4 e0 e1 e2 e3 e4 e5 e6
  rw [← hw2, h23] at HA
  rw [← hw2] at g0 g1 g2 g3 g4 g5 g6
  have HA := Lib.hid HA
  have HC := Lib.hid HC
  obtain ⟨oa, ofd, ofr, okd, on, opt, od⟩ := o
  dsimp only at *
  clear ha hw3 h23
  go_enter Tryz.func11, Tryz.ntmps11
  go_upto_region 1 with fail
  rw [← hw2]
  clear hw2
  go_wp2_with fail
  refine HA.out.mono ?_
  rintro e w' ⟨rfl, rfl⟩
  clear HA g0 g1 g2 g3 g4 g5 g6
  go_wp2_with fail
  refine HC.out.mono ?_
  rintro e w3 ⟨er, rfl, hQ⟩
  have hQ := Lib.hid hQ
  clear HC c0 c1 c2 c3 c4 e0 e1 e2 e3 e4 e5 e6
  go_wp2_with fail
  exact bodyPost_ret (v := .tuple #[.int .i64 0, .string ⟨#[]⟩, .int .i64 er]) (by simp [results, Tryz.results11, go_sem]) rfl ⟨0, ⟨#[]⟩, er, rfl, hQ.out⟩
set_option maxRecDepth 100000 in
set_option maxHeartbeats 8000000 in
theorem does_Dup (o : Opr) (f s t l p : Value) (w : World) (Q : Int → ByteArray → Int → World → Prop) (ha : askI o = 2)
    (HC : Calls Tryz.prog 39 #[p, .int .i64 o.fd, .int .i64 o.frm] (W3 f s t l p o w) fun e w' => ∃ er : Int, e = .returned (.int .i64 er) ∧ Q 0 ⟨#[]⟩ er w') :
    Calls Tryz.prog 11 #[worldV f s t l p, opA o] w fun e w' => ∃ (n : Int) (s : ByteArray) (er : Int), e = .returned (.tuple #[.int .i64 n, .string s, .int .i64 er]) ∧ Q n s er w' := by
  obtain ⟨⟨c0, c1, c2, c3, c4⟩, e0, e1, e2, e3, e4, e5, e6⟩ := w3_facts f s t l p o w
  obtain ⟨g0, g1, g2, g3, g4, g5, g6⟩ := w2_op f s t l p o w
  have HA := ask_calls o ((w.alloc (woP f s t l p)).alloc (opO o))
  rw [ha] at HA
  obtain ⟨w2, hw2⟩ : ∃ w2, w2 = (w.alloc (woP f s t l p)).alloc (opO o) := ⟨_, rfl⟩
  obtain ⟨w3, hw3⟩ : ∃ w3, w3 = W3 f s t l p o w := ⟨_, rfl⟩
  have h23 : w2.alloc (opO o) = w3 := by rw [hw3, hw2]
  rw [← hw3] at HC c0 c1 c2 c3 c4 e0 e1 e2 e3 e4 e5 e6
  rw [← hw2, h23] at HA
  rw [← hw2] at g0 g1 g2 g3 g4 g5 g6
  have HA := Lib.hid HA
  have HC := Lib.hid HC
  obtain ⟨oa, ofd, ofr, okd, on, opt, od⟩ := o
  dsimp only at *
  clear ha hw3 h23
  go_enter Tryz.func11, Tryz.ntmps11
  go_upto_region 1 with fail
  rw [← hw2]
  clear hw2
  go_wp2_with fail
  refine HA.out.mono ?_
  rintro e w' ⟨rfl, rfl⟩
  clear HA g0 g1 g2 g3 g4 g5 g6
  go_wp2_with fail
  refine HC.out.mono ?_
  rintro e w3 ⟨er, rfl, hQ⟩
  have hQ := Lib.hid hQ
  clear HC c0 c1 c2 c3 c4 e0 e1 e2 e3 e4 e5 e6
  go_wp2_with fail
  exact bodyPost_ret (v := .tuple #[.int .i64 0, .string ⟨#[]⟩, .int .i64 er]) (by simp [results, Tryz.results11, go_sem]) rfl ⟨0, ⟨#[]⟩, er, rfl, hQ.out⟩
set_option maxRecDepth 100000 in
set_option maxHeartbeats 8000000 in
theorem does_Close (o : Opr) (f s t l p : Value) (w : World) (Q : Int → ByteArray → Int → World → Prop) (ha : askI o = 3)
    (HC : Calls Tryz.prog 19 #[p, .int .i64 o.fd] (W3 f s t l p o w) fun e w' => ∃ er : Int, e = .returned (.int .i64 er) ∧ Q 0 ⟨#[]⟩ er w') :
    Calls Tryz.prog 11 #[worldV f s t l p, opA o] w fun e w' => ∃ (n : Int) (s : ByteArray) (er : Int), e = .returned (.tuple #[.int .i64 n, .string s, .int .i64 er]) ∧ Q n s er w' := by
  obtain ⟨⟨c0, c1, c2, c3, c4⟩, e0, e1, e2, e3, e4, e5, e6⟩ := w3_facts f s t l p o w
  obtain ⟨g0, g1, g2, g3, g4, g5, g6⟩ := w2_op f s t l p o w
  have HA := ask_calls o ((w.alloc (woP f s t l p)).alloc (opO o))
  rw [ha] at HA
  obtain ⟨w2, hw2⟩ : ∃ w2, w2 = (w.alloc (woP f s t l p)).alloc (opO o) := ⟨_, rfl⟩
  obtain ⟨w3, hw3⟩ : ∃ w3, w3 = W3 f s t l p o w := ⟨_, rfl⟩
  have h23 : w2.alloc (opO o) = w3 := by rw [hw3, hw2]
  rw [← hw3] at HC c0 c1 c2 c3 c4 e0 e1 e2 e3 e4 e5 e6
  rw [← hw2, h23] at HA
  rw [← hw2] at g0 g1 g2 g3 g4 g5 g6
  have HA := Lib.hid HA
  have HC := Lib.hid HC
  obtain ⟨oa, ofd, ofr, okd, on, opt, od⟩ := o
  dsimp only at *
  clear ha hw3 h23
  go_enter Tryz.func11, Tryz.ntmps11
  go_upto_region 1 with fail
  rw [← hw2]
  clear hw2
  go_wp2_with fail
  refine HA.out.mono ?_
  rintro e w' ⟨rfl, rfl⟩
  clear HA g0 g1 g2 g3 g4 g5 g6
  go_wp2_with fail
  refine HC.out.mono ?_
  rintro e w3 ⟨er, rfl, hQ⟩
  have hQ := Lib.hid hQ
  clear HC c0 c1 c2 c3 c4 e0 e1 e2 e3 e4 e5 e6
  go_wp2_with fail
  exact bodyPost_ret (v := .tuple #[.int .i64 0, .string ⟨#[]⟩, .int .i64 er]) (by simp [results, Tryz.results11, go_sem]) rfl ⟨0, ⟨#[]⟩, er, rfl, hQ.out⟩
set_option maxRecDepth 100000 in
set_option maxHeartbeats 8000000 in
theorem does_Read (o : Opr) (f s t l p : Value) (w : World) (Q : Int → ByteArray → Int → World → Prop) (ha : askI o = 4)
    (HC : Calls Tryz.prog 40 #[p, .int .i64 o.fd, .int .i64 o.n] (W3 f s t l p o w) fun e w' => ∃ (s : ByteArray) (er : Int), e = .returned (.tuple #[.string s, .int .i64 er]) ∧ Q 0 s er w') :
    Calls Tryz.prog 11 #[worldV f s t l p, opA o] w fun e w' => ∃ (n : Int) (s : ByteArray) (er : Int), e = .returned (.tuple #[.int .i64 n, .string s, .int .i64 er]) ∧ Q n s er w' := by
  obtain ⟨⟨c0, c1, c2, c3, c4⟩, e0, e1, e2, e3, e4, e5, e6⟩ := w3_facts f s t l p o w
  obtain ⟨g0, g1, g2, g3, g4, g5, g6⟩ := w2_op f s t l p o w
  have HA := ask_calls o ((w.alloc (woP f s t l p)).alloc (opO o))
  rw [ha] at HA
  obtain ⟨w2, hw2⟩ : ∃ w2, w2 = (w.alloc (woP f s t l p)).alloc (opO o) := ⟨_, rfl⟩
  obtain ⟨w3, hw3⟩ : ∃ w3, w3 = W3 f s t l p o w := ⟨_, rfl⟩
  have h23 : w2.alloc (opO o) = w3 := by rw [hw3, hw2]
  rw [← hw3] at HC c0 c1 c2 c3 c4 e0 e1 e2 e3 e4 e5 e6
  rw [← hw2, h23] at HA
  rw [← hw2] at g0 g1 g2 g3 g4 g5 g6
  have HA := Lib.hid HA
  have HC := Lib.hid HC
  obtain ⟨oa, ofd, ofr, okd, on, opt, od⟩ := o
  dsimp only at *
  clear ha hw3 h23
  go_enter Tryz.func11, Tryz.ntmps11
  go_upto_region 1 with fail
  rw [← hw2]
  clear hw2
  go_wp2_with fail
  refine HA.out.mono ?_
  rintro e w' ⟨rfl, rfl⟩
  clear HA g0 g1 g2 g3 g4 g5 g6
  go_wp2_with fail
  refine HC.out.mono ?_
  rintro e w3 ⟨s, er, rfl, hQ⟩
  have hQ := Lib.hid hQ
  clear HC c0 c1 c2 c3 c4 e0 e1 e2 e3 e4 e5 e6
  go_wp2_with fail
  exact bodyPost_ret (v := .tuple #[.int .i64 0, .string s, .int .i64 er]) (by simp [results, Tryz.results11, go_sem]) rfl ⟨0, s, er, rfl, hQ.out⟩
set_option maxRecDepth 100000 in
set_option maxHeartbeats 8000000 in
theorem does_Write (o : Opr) (f s t l p : Value) (w : World) (Q : Int → ByteArray → Int → World → Prop) (ha : askI o = 5)
    (HC : Calls Tryz.prog 27 #[p, .int .i64 o.fd, .string o.data] (W3 f s t l p o w) fun e w' => ∃ er : Int, e = .returned (.int .i64 er) ∧ Q 0 ⟨#[]⟩ er w') :
    Calls Tryz.prog 11 #[worldV f s t l p, opA o] w fun e w' => ∃ (n : Int) (s : ByteArray) (er : Int), e = .returned (.tuple #[.int .i64 n, .string s, .int .i64 er]) ∧ Q n s er w' := by
  obtain ⟨⟨c0, c1, c2, c3, c4⟩, e0, e1, e2, e3, e4, e5, e6⟩ := w3_facts f s t l p o w
  obtain ⟨g0, g1, g2, g3, g4, g5, g6⟩ := w2_op f s t l p o w
  have HA := ask_calls o ((w.alloc (woP f s t l p)).alloc (opO o))
  rw [ha] at HA
  obtain ⟨w2, hw2⟩ : ∃ w2, w2 = (w.alloc (woP f s t l p)).alloc (opO o) := ⟨_, rfl⟩
  obtain ⟨w3, hw3⟩ : ∃ w3, w3 = W3 f s t l p o w := ⟨_, rfl⟩
  have h23 : w2.alloc (opO o) = w3 := by rw [hw3, hw2]
  rw [← hw3] at HC c0 c1 c2 c3 c4 e0 e1 e2 e3 e4 e5 e6
  rw [← hw2, h23] at HA
  rw [← hw2] at g0 g1 g2 g3 g4 g5 g6
  have HA := Lib.hid HA
  have HC := Lib.hid HC
  obtain ⟨oa, ofd, ofr, okd, on, opt, od⟩ := o
  dsimp only at *
  clear ha hw3 h23
  go_enter Tryz.func11, Tryz.ntmps11
  go_upto_region 1 with fail
  rw [← hw2]
  clear hw2
  go_wp2_with fail
  refine HA.out.mono ?_
  rintro e w' ⟨rfl, rfl⟩
  clear HA g0 g1 g2 g3 g4 g5 g6
  go_wp2_with fail
  refine HC.out.mono ?_
  rintro e w3 ⟨er, rfl, hQ⟩
  have hQ := Lib.hid hQ
  clear HC c0 c1 c2 c3 c4 e0 e1 e2 e3 e4 e5 e6
  go_wp2_with fail
  exact bodyPost_ret (v := .tuple #[.int .i64 0, .string ⟨#[]⟩, .int .i64 er]) (by simp [results, Tryz.results11, go_sem]) rfl ⟨0, ⟨#[]⟩, er, rfl, hQ.out⟩
set_option maxRecDepth 100000 in
set_option maxHeartbeats 8000000 in
theorem does_Chdir (o : Opr) (f s t l p : Value) (w : World) (Q : Int → ByteArray → Int → World → Prop) (ha : askI o = 6)
    (HC : Calls Tryz.prog 41 #[p, .string o.path] (W3 f s t l p o w) fun e w' => ∃ er : Int, e = .returned (.int .i64 er) ∧ Q 0 ⟨#[]⟩ er w') :
    Calls Tryz.prog 11 #[worldV f s t l p, opA o] w fun e w' => ∃ (n : Int) (s : ByteArray) (er : Int), e = .returned (.tuple #[.int .i64 n, .string s, .int .i64 er]) ∧ Q n s er w' := by
  obtain ⟨⟨c0, c1, c2, c3, c4⟩, e0, e1, e2, e3, e4, e5, e6⟩ := w3_facts f s t l p o w
  obtain ⟨g0, g1, g2, g3, g4, g5, g6⟩ := w2_op f s t l p o w
  have HA := ask_calls o ((w.alloc (woP f s t l p)).alloc (opO o))
  rw [ha] at HA
  obtain ⟨w2, hw2⟩ : ∃ w2, w2 = (w.alloc (woP f s t l p)).alloc (opO o) := ⟨_, rfl⟩
  obtain ⟨w3, hw3⟩ : ∃ w3, w3 = W3 f s t l p o w := ⟨_, rfl⟩
  have h23 : w2.alloc (opO o) = w3 := by rw [hw3, hw2]
  rw [← hw3] at HC c0 c1 c2 c3 c4 e0 e1 e2 e3 e4 e5 e6
  rw [← hw2, h23] at HA
  rw [← hw2] at g0 g1 g2 g3 g4 g5 g6
  have HA := Lib.hid HA
  have HC := Lib.hid HC
  obtain ⟨oa, ofd, ofr, okd, on, opt, od⟩ := o
  dsimp only at *
  clear ha hw3 h23
  go_enter Tryz.func11, Tryz.ntmps11
  go_upto_region 1 with fail
  rw [← hw2]
  clear hw2
  go_wp2_with fail
  refine HA.out.mono ?_
  rintro e w' ⟨rfl, rfl⟩
  clear HA g0 g1 g2 g3 g4 g5 g6
  go_wp2_with fail
  refine HC.out.mono ?_
  rintro e w3 ⟨er, rfl, hQ⟩
  have hQ := Lib.hid hQ
  clear HC c0 c1 c2 c3 c4 e0 e1 e2 e3 e4 e5 e6
  go_wp2_with fail
  exact bodyPost_ret (v := .tuple #[.int .i64 0, .string ⟨#[]⟩, .int .i64 er]) (by simp [results, Tryz.results11, go_sem]) rfl ⟨0, ⟨#[]⟩, er, rfl, hQ.out⟩
set_option maxRecDepth 100000 in
set_option maxHeartbeats 8000000 in
theorem does_SetMask (o : Opr) (f s t l p : Value) (w : World) (Q : Int → ByteArray → Int → World → Prop) (ha : askI o = 7)
    (HC : Calls Tryz.prog 42 #[p, .int .i64 o.n] (W3 f s t l p o w) fun e w' => ∃ er : Int, e = .returned (.int .i64 er) ∧ Q 0 ⟨#[]⟩ er w') :
    Calls Tryz.prog 11 #[worldV f s t l p, opA o] w fun e w' => ∃ (n : Int) (s : ByteArray) (er : Int), e = .returned (.tuple #[.int .i64 n, .string s, .int .i64 er]) ∧ Q n s er w' := by
  obtain ⟨⟨c0, c1, c2, c3, c4⟩, e0, e1, e2, e3, e4, e5, e6⟩ := w3_facts f s t l p o w
  obtain ⟨g0, g1, g2, g3, g4, g5, g6⟩ := w2_op f s t l p o w
  have HA := ask_calls o ((w.alloc (woP f s t l p)).alloc (opO o))
  rw [ha] at HA
  obtain ⟨w2, hw2⟩ : ∃ w2, w2 = (w.alloc (woP f s t l p)).alloc (opO o) := ⟨_, rfl⟩
  obtain ⟨w3, hw3⟩ : ∃ w3, w3 = W3 f s t l p o w := ⟨_, rfl⟩
  have h23 : w2.alloc (opO o) = w3 := by rw [hw3, hw2]
  rw [← hw3] at HC c0 c1 c2 c3 c4 e0 e1 e2 e3 e4 e5 e6
  rw [← hw2, h23] at HA
  rw [← hw2] at g0 g1 g2 g3 g4 g5 g6
  have HA := Lib.hid HA
  have HC := Lib.hid HC
  obtain ⟨oa, ofd, ofr, okd, on, opt, od⟩ := o
  dsimp only at *
  clear ha hw3 h23
  go_enter Tryz.func11, Tryz.ntmps11
  go_upto_region 1 with fail
  rw [← hw2]
  clear hw2
  go_wp2_with fail
  refine HA.out.mono ?_
  rintro e w' ⟨rfl, rfl⟩
  clear HA g0 g1 g2 g3 g4 g5 g6
  go_wp2_with fail
  refine HC.out.mono ?_
  rintro e w3 ⟨er, rfl, hQ⟩
  have hQ := Lib.hid hQ
  clear HC c0 c1 c2 c3 c4 e0 e1 e2 e3 e4 e5 e6
  go_wp2_with fail
  exact bodyPost_ret (v := .tuple #[.int .i64 0, .string ⟨#[]⟩, .int .i64 er]) (by simp [results, Tryz.results11, go_sem]) rfl ⟨0, ⟨#[]⟩, er, rfl, hQ.out⟩
set_option maxRecDepth 100000 in
set_option maxHeartbeats 8000000 in
theorem does_Mark (o : Opr) (f s t l p : Value) (w : World) (Q : Int → ByteArray → Int → World → Prop) (ha : askI o = 8)
    (HC : Calls Tryz.prog 24 #[p] (W3 f s t l p o w) fun e w' => ∃ n er : Int, e = .returned (.tuple #[.int .i64 n, .int .i64 er]) ∧ Q n ⟨#[]⟩ er w') :
    Calls Tryz.prog 11 #[worldV f s t l p, opA o] w fun e w' => ∃ (n : Int) (s : ByteArray) (er : Int), e = .returned (.tuple #[.int .i64 n, .string s, .int .i64 er]) ∧ Q n s er w' := by
  obtain ⟨⟨c0, c1, c2, c3, c4⟩, e0, e1, e2, e3, e4, e5, e6⟩ := w3_facts f s t l p o w
  obtain ⟨g0, g1, g2, g3, g4, g5, g6⟩ := w2_op f s t l p o w
  have HA := ask_calls o ((w.alloc (woP f s t l p)).alloc (opO o))
  rw [ha] at HA
  obtain ⟨w2, hw2⟩ : ∃ w2, w2 = (w.alloc (woP f s t l p)).alloc (opO o) := ⟨_, rfl⟩
  obtain ⟨w3, hw3⟩ : ∃ w3, w3 = W3 f s t l p o w := ⟨_, rfl⟩
  have h23 : w2.alloc (opO o) = w3 := by rw [hw3, hw2]
  rw [← hw3] at HC c0 c1 c2 c3 c4 e0 e1 e2 e3 e4 e5 e6
  rw [← hw2, h23] at HA
  rw [← hw2] at g0 g1 g2 g3 g4 g5 g6
  have HA := Lib.hid HA
  have HC := Lib.hid HC
  obtain ⟨oa, ofd, ofr, okd, on, opt, od⟩ := o
  dsimp only at *
  clear ha hw3 h23
  go_enter Tryz.func11, Tryz.ntmps11
  go_upto_region 1 with fail
  rw [← hw2]
  clear hw2
  go_wp2_with fail
  refine HA.out.mono ?_
  rintro e w' ⟨rfl, rfl⟩
  clear HA g0 g1 g2 g3 g4 g5 g6
  go_wp2_with fail
  refine HC.out.mono ?_
  rintro e w3 ⟨n, er, rfl, hQ⟩
  have hQ := Lib.hid hQ
  clear HC c0 c1 c2 c3 c4 e0 e1 e2 e3 e4 e5 e6
  go_wp2_with fail
  exact bodyPost_ret (v := .tuple #[.int .i64 n, .string ⟨#[]⟩, .int .i64 er]) (by simp [results, Tryz.results11, go_sem]) rfl ⟨n, ⟨#[]⟩, er, rfl, hQ.out⟩
set_option maxRecDepth 100000 in
set_option maxHeartbeats 8000000 in
theorem does_MarkB (o : Opr) (f s t l p : Value) (w : World) (Q : Int → ByteArray → Int → World → Prop) (ha : askI o = 9)
    (HC : Calls Tryz.prog 24 #[p] (W3 f s t l p o w) fun e w' => ∃ n er : Int, e = .returned (.tuple #[.int .i64 n, .int .i64 er]) ∧ Q n ⟨#[]⟩ er w') :
    Calls Tryz.prog 11 #[worldV f s t l p, opA o] w fun e w' => ∃ (n : Int) (s : ByteArray) (er : Int), e = .returned (.tuple #[.int .i64 n, .string s, .int .i64 er]) ∧ Q n s er w' := by
  obtain ⟨⟨c0, c1, c2, c3, c4⟩, e0, e1, e2, e3, e4, e5, e6⟩ := w3_facts f s t l p o w
  obtain ⟨g0, g1, g2, g3, g4, g5, g6⟩ := w2_op f s t l p o w
  have HA := ask_calls o ((w.alloc (woP f s t l p)).alloc (opO o))
  rw [ha] at HA
  obtain ⟨w2, hw2⟩ : ∃ w2, w2 = (w.alloc (woP f s t l p)).alloc (opO o) := ⟨_, rfl⟩
  obtain ⟨w3, hw3⟩ : ∃ w3, w3 = W3 f s t l p o w := ⟨_, rfl⟩
  have h23 : w2.alloc (opO o) = w3 := by rw [hw3, hw2]
  rw [← hw3] at HC c0 c1 c2 c3 c4 e0 e1 e2 e3 e4 e5 e6
  rw [← hw2, h23] at HA
  rw [← hw2] at g0 g1 g2 g3 g4 g5 g6
  have HA := Lib.hid HA
  have HC := Lib.hid HC
  obtain ⟨oa, ofd, ofr, okd, on, opt, od⟩ := o
  dsimp only at *
  clear ha hw3 h23
  go_enter Tryz.func11, Tryz.ntmps11
  go_upto_region 1 with fail
  rw [← hw2]
  clear hw2
  go_wp2_with fail
  refine HA.out.mono ?_
  rintro e w' ⟨rfl, rfl⟩
  clear HA g0 g1 g2 g3 g4 g5 g6
  go_wp2_with fail
  refine HC.out.mono ?_
  rintro e w3 ⟨n, er, rfl, hQ⟩
  have hQ := Lib.hid hQ
  clear HC c0 c1 c2 c3 c4 e0 e1 e2 e3 e4 e5 e6
  go_wp2_with fail
  exact bodyPost_ret (v := .tuple #[.int .i64 n, .string ⟨#[]⟩, .int .i64 er]) (by simp [results, Tryz.results11, go_sem]) rfl ⟨n, ⟨#[]⟩, er, rfl, hQ.out⟩
set_option maxRecDepth 100000 in
set_option maxHeartbeats 8000000 in
theorem does_Undo (o : Opr) (f s t l p : Value) (w : World) (Q : Int → ByteArray → Int → World → Prop) (ha : askI o = 10)
    (HC : Calls Tryz.prog 18 #[p] (W3 f s t l p o w) fun e w' => ∃ er : Int, e = .returned (.int .i64 er) ∧ Q 0 ⟨#[]⟩ er w') :
    Calls Tryz.prog 11 #[worldV f s t l p, opA o] w fun e w' => ∃ (n : Int) (s : ByteArray) (er : Int), e = .returned (.tuple #[.int .i64 n, .string s, .int .i64 er]) ∧ Q n s er w' := by
  obtain ⟨⟨c0, c1, c2, c3, c4⟩, e0, e1, e2, e3, e4, e5, e6⟩ := w3_facts f s t l p o w
  obtain ⟨g0, g1, g2, g3, g4, g5, g6⟩ := w2_op f s t l p o w
  have HA := ask_calls o ((w.alloc (woP f s t l p)).alloc (opO o))
  rw [ha] at HA
  obtain ⟨w2, hw2⟩ : ∃ w2, w2 = (w.alloc (woP f s t l p)).alloc (opO o) := ⟨_, rfl⟩
  obtain ⟨w3, hw3⟩ : ∃ w3, w3 = W3 f s t l p o w := ⟨_, rfl⟩
  have h23 : w2.alloc (opO o) = w3 := by rw [hw3, hw2]
  rw [← hw3] at HC c0 c1 c2 c3 c4 e0 e1 e2 e3 e4 e5 e6
  rw [← hw2, h23] at HA
  rw [← hw2] at g0 g1 g2 g3 g4 g5 g6
  have HA := Lib.hid HA
  have HC := Lib.hid HC
  obtain ⟨oa, ofd, ofr, okd, on, opt, od⟩ := o
  dsimp only at *
  clear ha hw3 h23
  go_enter Tryz.func11, Tryz.ntmps11
  go_upto_region 1 with fail
  rw [← hw2]
  clear hw2
  go_wp2_with fail
  refine HA.out.mono ?_
  rintro e w' ⟨rfl, rfl⟩
  clear HA g0 g1 g2 g3 g4 g5 g6
  go_wp2_with fail
  refine HC.out.mono ?_
  rintro e w3 ⟨er, rfl, hQ⟩
  have hQ := Lib.hid hQ
  clear HC c0 c1 c2 c3 c4 e0 e1 e2 e3 e4 e5 e6
  go_wp2_with fail
  exact bodyPost_ret (v := .tuple #[.int .i64 0, .string ⟨#[]⟩, .int .i64 er]) (by simp [results, Tryz.results11, go_sem]) rfl ⟨0, ⟨#[]⟩, er, rfl, hQ.out⟩
end Go.Proofs.YteienbdbhnikbaaGreatDoor.Pr

