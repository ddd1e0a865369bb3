/- HandlesPlays, part 25 of 26: the texts PaY, joined by a program. -/
import Derived.ChangeSame
import Derived.Test.YtndjgeohkfenfaaGreatDoorPq24
import Derived.Test.YtndjgeohkfenfaaGreatDoorRows
import Derived.ProofKit
import Derived.OpenShut
import Derived.ShutString
import Derived.ChangeOld
import Derived.Deep.Slices
import Derived.Lib.SmallJoins
import Derived.Deep.Strs
import Derived.LaidMore
import Derived.Lay
import Derived.Handed
import Derived.Shelf.Strings.Shaped
namespace Go.Proofs.YtndjgeohkfenfaaGreatDoor.Globs
open Go.ChangeShapes Go.WideShapes Go.ChangeAt Go.ChangeMaps Go.RowKit Go.Proofs.YtndjgeohkfenfaaGreatDoor Go.Proofs.YtndjgeohkfenfaaGreatDoor.Hp
open Go.Proofs.YtndjgeohkfenfaaGreatDoor.Hd (Glob)
set_option linter.unusedVariables false
attribute [local go_sem] Oper.semAt_some

theorem maxlen_cell (w : World) (h : w.ShapedOpen Tryz.prog) : ∃ m, w.cell? ⟨0, 0, none⟩ = some (.int .i64 m) :=
  Go.Proofs.cell_of_shapedOpen_int (zero := #[.int .i64 0]) (t := 3) h (of_decide_eq_true (by kernel_rfl)) (by kernel_rfl) rfl (by kernel_rfl) (by kernel_rfl) Tryz.underlying3
theorem glob_keep {W : World} (h : W.ShapedOpen Tryz.prog) : Glob (keep W) := by
  obtain ⟨m, hm⟩ := maxlen_cell W h
  refine ⟨m, fun w S hS => ?_⟩
  rw [← hm]
  exact World.cell?_of_block (w := W) (hS.right.kept 0 (World.block_lt_of_cell? _ _ hm))
/-- The wrap of a law's row that keeps what is laid and the world's shape. -/
theorem handed_shaped {H : Type} {enc : TypeId × Value → H} {a : Assume} {C : Checked} {os : Os} {f : FuncId} {fn : Func} {s : ChangeSpec} {conds : List PathCond} {apart fresh handsOn again : Bool} {X : World → Array Value → Prop}
    (hX : ∀ (w w' : World) (args : Array Value), w.heap = w'.heap → X w args → X w' args)
    (own : ownKnob C.prog.godebug = none) (started : os.Started) (noInit : C.prog.inits.idxOf? f = none) (hfn : C.prog.funcs[f]? = some fn)
    (witness : ∃ (w : World) (tape : Tape) (i : Input), w.os = os ∧ (w.forCall tape i).Shaped C.prog ∧ i.vars = [] ∧ Input.okWide C.prog (w.forCall tape i) .any w.heap.size f i ∧
      ((s.pre enc C.prog fn conds apart (w.forCall tape i).memory i.args ∧ X (w.forCall tape i).memory i.args) ∧ sizedMet enc C.prog fn (OpenSpec.ofChange s) apart (w.forCall tape i).memory i.args) ∧ a.holds C.prog (lone (Frame.enter C.prog f i.args .normal) [] (w.forCall tape i)))
    (contract : ∀ (W : World) (base : Nat) (args : Array Value) (ds gs : List (DataW H)) (before : List MemPlace),
      (∀ (j : Nat) t v, fn.params[j]? = some t → args[j]? = some v → Value.okWide C.prog W .any base t v) →
      DataW.Whole enc C.prog fn.params.toList s.vars apart W args.toList ds gs before →
      conds.all (PathCond.test C.prog ⟨fn.params.toList, ds, s.plain.varTypes C.prog, gs⟩) = true →
      (DataW.weightsEach C.prog (fn.params.toList ++ s.plain.varTypes C.prog) (ds ++ gs)).all (· ≤ reachBytes) = true → X W args →
      W.ShapedOpen C.prog →
      Calls C.prog f args W fun e W' => ∃ v, e = .returned v ∧ s.post enc C.prog fn apart fresh handsOn again W args v W') :
    ReturnsInHanded a C os f .any (fun w args => (s.pre enc C.prog fn conds apart w args ∧ X w args) ∧ sizedMet enc C.prog fn (OpenSpec.ofChange s) apart w args) (s.post enc C.prog fn apart fresh handsOn again) := by
  refine returnsInHanded_of_calls own started noInit witness ?_
  intro w tape i _ hsh _ hok hpre hholds
  obtain ⟨_, _, _, fn', hfn', _, _, _, _, hval⟩ := hok
  have e : fn' = fn := Option.some.inj (hfn'.symm.trans hfn)
  subst e
  obtain ⟨⟨⟨ds, gs, before, hw, hc⟩, hx⟩, hz⟩ := hpre
  have hw' := DataW.Whole.of_heap (w' := w.forCall tape i) (by rfl) hw
  refine (contract (w.forCall tape i) w.heap.size i.args ds gs before hval hw' hc (hz.weights hw) (hX _ _ _ (by rfl) hx) hsh).mono fun e W' ⟨v, he, hp⟩ => ?_
  subst he
  exact ChangeSpec.post_blind hp
theorem cellsCh : Tryz.prog.cellsOf 63 = 2 := by kernel_rfl
section
variable {H : Type} {enc : TypeId × Value → H} {W : World} {base : Nat} {spare : Nat → Bool} {held : Bool}
set_option maxRecDepth 100000 in
theorem chars_open {r : Reach} {b0 : Nat} {v : Value} {d : DataW H} {p : List MemPlace} (hv : Value.okWide Tryz.prog W r b0 22 v)
    (h : DataW.Trod enc Tryz.prog W base spare held 22 v d p) : ∃ ao l cap, v = .slice ao (List.length l) cap ∧ CharsAt W ao cap l := by
  obtain ⟨ao, len, cap, rfl⟩ := okWide_slice Tryz.underlying22 hv
  obtain ⟨fuel, hf⟩ := h
  rcases Deep.open_slice Tryz.underlying22 hf with ⟨hcs, _⟩ | ⟨a, len', cap', m, n, D, Pl, hcs, _, hl, hcap, hm, _, hx⟩
  · simp [Value.cells] at hcs
    obtain ⟨rfl, rfl, rfl⟩ := hcs
    exact ⟨none, [], 0, rfl, by simp, by simp, fun i hi => by simp at hi⟩
  · simp [Value.cells] at hcs
    obtain ⟨rfl, rfl, rfl⟩ := hcs
    have hlm : len ≤ m := by rw [hm]; split <;> omega
    have key : ∀ i, i < len → ∃ z : Ch, W.cell? ((a.add (i * 2)).add 0) = some (.int .u8 z.b.toNat) ∧ W.cell? ((a.add (i * 2)).add 1) = some (.bool z.q) := fun i hi => by
      obtain ⟨cs, hc, ht⟩ := hx i (by omega)
      rw [cellsCh] at hc
      obtain ⟨_, hlen, hat⟩ := World.cells?_some hc
      match cs, hlen, ht with
      | [c0, c1], _, ht =>
        obtain ⟨y0, y1, m2, _, _, h0, h1⟩ := Go.ChangeShapes.trod_struct2 Tryz.underlying63 ht
        simp only [cellsU8, cellsBool, List.drop_zero, List.drop_succ_cons, List.take_succ_cons, List.take_zero] at h0 h1
        obtain ⟨a1, rfl, _, w1⟩ := trod_int1 Tryz.underlying5 h0
        obtain ⟨b1, rfl⟩ := u8_of w1
        obtain ⟨b2, e2, _⟩ := DataW.trod_bool Tryz.underlying4 h1
        simp at e2; subst e2
        exact ⟨⟨b1, b2⟩, hat 0 (by omega), hat 1 (by omega)⟩
    obtain ⟨f, hfx⟩ := Deep.choose_lt key
    have e : ∀ i (h : i < ((List.range len).map f).length), ((List.range len).map f)[i] = f i := fun i h => by simp
    refine ⟨some a, (List.range len).map f, cap, by simp, by simp; omega, by unfold maxLen at hcap; omega, fun i hi => ?_⟩
    have hi' : i < len := by simpa using hi
    obtain ⟨b, o, s⟩ := a
    have hs : s = none := by
      have h00 := (hfx 0 (by omega)).1
      simp [Addr.add] at h00
      simpa using World.cell?_spot h00
    subst hs
    obtain ⟨h0, h1⟩ := hfx i hi'
    rw [e i hi]
    simp only [Addr.add_lit] at h0 h1
    exact ⟨b, o, rfl, World.block_lt_of_cell? W _ h0, h0, h1⟩
end
def SmRel (n : Nat) (w : World) (g : Nat) (iv : Value) (wr : World) : Prop := ∃ i : Nat, i + g = n ∧ iv = .int .i64 (i : Int) ∧ Below w.heap.size w wr
set_option maxRecDepth 100000 in
set_option maxHeartbeats 2000000 in
theorem same_calls (t : List Ch) (pa pb : Option Addr) (ca cb : Nat) (w : World) (h : CharsAt w pa ca t) (k : CharsAt w pb cb t) :
    Calls Tryz.prog 11 #[.slice pa t.length ca, .slice pb t.length cb] w (FPost true w) := by
  have hlm : (t.length : Int) ≤ 9223372036854775807 := by have := h.1; have := h.2.1; omega
  have H := Lib.hid h
  have K := Lib.hid k
  clear h k
  go_enter Tryz.func11, Tryz.ntmps11
  go_wp2_with fail
  go_loopg [5] (t.length) (SmRel t.length w)
  case atStart => exact ⟨0, by omega, rfl, Below.refl _ _⟩
  case round =>
    obtain ⟨i, hig, rfl, hbel⟩ := hrel
    have hi0 : (0 : Int) ≤ i := by omega
    by_cases hi : i < t.length
    · have hil : (i : Int) < t.length := by omega
      obtain ⟨ab, ao, rfl, hab, a0, a1⟩ := (H.out.keep (Kept.below hbel)).2.2 i hi
      obtain ⟨bb, bo, rfl, hbb, b0, b1⟩ := (K.out.keep (Kept.below hbel)).2.2 i hi
      obtain ⟨x, hx⟩ : ∃ x, x = t[i] := ⟨_, rfl⟩
      rw [← hx] at a0 a1 b0 b1
      obtain ⟨xb, xq⟩ := x
      dsimp only at a0 a1 b0 b1
      have Hig := Lib.hid hig
      clear hx hig
      go_wp2_with fail
      refine region_plan (S := (fun w' => (w'.cell? ⟨ab, ao + i * 2, none⟩ = some (.int .u8 xb.toNat) ∧ w'.cell? ⟨ab, ao + i * 2 + 1, none⟩ = some (.bool xq)) ∧ w'.cell? ⟨bb, bo + i * 2, none⟩ = some (.int .u8 xb.toNat) ∧ w'.cell? ⟨bb, bo + i * 2 + 1, none⟩ = some (.bool xq))) [(0, true), (1, true), (2, true), (3, true), (4, true), (5, true), (6, true), (7, true), (8, true)] (by kernel_rfl) (by kernel_rfl) (by kernel_rfl) ?_ ?_
      · ((try dsimp only); (first | done | (exact ⟨⟨a0, a1⟩, b0, b1⟩)))
      simp only [planOps, List.map_cons, List.map_nil, List.getElem?_toArray, List.getElem?_cons_zero, List.getElem?_cons_succ]
      repeat (first
        | ((refine plan_yes (v := ?_) (by rfl) ?_ ?_); rotate_left; (focus (intro w hSw; (try dsimp only at hSw); go_simp; try (with_reducible rfl))); (try simp only [Act.put, List.setIfInBounds_toArray, List.set_cons_zero, List.set_cons_succ]))
        | ((refine plan_no (by rfl) ?_); (try simp only [Act.put, List.setIfInBounds_toArray, List.set_cons_zero, List.set_cons_succ]))
        | ((refine plan_step (fun K hK => ?_)); (first | (fail) | (go_simp; (fail); (try go_wp2_with fail)) | go_simp); (refine hK.out _ _ ?_ (fun hHeld => ?_)); (focus ((try dsimp only); (first | done | (exact ⟨⟨a0, a1⟩, b0, b1⟩)))); clear hK K; (try simp only [Act.put, List.setIfInBounds_toArray, List.set_cons_zero, List.set_cons_succ])))
      refine plan_done ?_
      go_wp2_with fail
      go_roundg (gk - 1)
      case measure => have := Hig.out; omega
      case rel => exact ⟨i + 1, by have := Hig.out; omega, by go_num, hbel.drew⟩
    · have hge : ¬ ((i : Int) < t.length) := by omega
      go_wp2_with fail
      go_ret
      exact ⟨rfl, hbel⟩
end Go.Proofs.YtndjgeohkfenfaaGreatDoor.Globs

