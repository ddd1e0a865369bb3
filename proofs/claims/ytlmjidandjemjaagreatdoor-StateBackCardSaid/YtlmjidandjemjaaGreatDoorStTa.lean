/- named, Var, Get, Options, Option walked. -/
import Derived.Test.YtlmjidandjemjaaGreatDoorStS
namespace Go.Proofs.YtlmjidandjemjaaGreatDoor.State
open Go.RowKit Go.Proofs.YtlmjidandjemjaaGreatDoor Go.Proofs.YtlmjidandjemjaaGreatDoor.Hp Go.Proofs.YtlmjidandjemjaaGreatDoor.Undo
set_option linter.unusedVariables false
attribute [local go_sem] Oper.semAt_some

def errName (k : ByteArray) : Int := if isName k = false then 16 else 0
set_option maxRecDepth 100000 in
set_option maxHeartbeats 8000000 in
theorem named_calls (sb : Nat) (k : ByteArray) (w : World) (hk : k.size ≤ maxLen) :
    Calls Tryz.prog 45 #[pp sb, .string k] w fun e w' => e = .returned (.int .i64 (errName k)) ∧ w = w' := by
  have HN := Lib.hid (fun w => Name_calls k w (by unfold maxLen at hk; omega))
  unfold errName
  cases hn : isName k with
  | true =>
    rw [hn] at HN
    go_enter Tryz.func45, Tryz.ntmps45
    go_wp2_with fail
    refine (HN.out w).mono ?_
    rintro e w1 ⟨rfl, rfl⟩
    go_wp2_with fail
    go_ret
    exact ⟨rfl, rfl⟩
  | false =>
    rw [hn] at HN
    go_enter Tryz.func45, Tryz.ntmps45
    go_wp2_with fail
    refine (HN.out w).mono ?_
    rintro e w1 ⟨rfl, rfl⟩
    go_wp2_with fail
    go_ret
    exact ⟨rfl, rfl⟩
theorem var_val (n : Now) (k : ByteArray) : (n.s.V k).getD VM.zt = n.s.var k := rfl
theorem below_new {w w1 : World} {o : Obj} (h : Below (w.alloc o).heap.size (w.alloc o) w1) : Below w.heap.size w w1 :=
  ((Below.refl _ w).alloc (Nat.le_refl _) o).trans (h.mono (by rw [World.size_alloc]; exact Nat.le_succ _))
set_option maxRecDepth 100000 in
set_option maxHeartbeats 8000000 in
theorem Var_calls (K : Ctx) (n : Now) (k : ByteArray) (w : World) (R : Hp) (hk : k.size ≤ maxLen) (h : SAt K w n R) :
    Calls Tryz.prog 20 #[pp K.sb, .string k] w fun e w' => e = .returned (.agg #[.string (n.s.var k).val, .bool (n.s.var k).set, .bool (n.s.var k).exp, .bool (n.s.var k).fix]) ∧ Below w.heap.size w w' := by
  obtain ⟨x, hx⟩ : ∃ x, x = n.s.var k := ⟨_, rfl⟩
  rw [← hx]
  have H1 := h.alloc VM.zO
  obtain ⟨c0, c1, c2, c3, c4, c5, c6, cz⟩ := H1.cells
  have HG := getV K _ n _ k hk H1
  rw [var_val, ← hx] at HG
  obtain ⟨is, his⟩ : ∃ b, b = (n.s.V k).isSome := ⟨_, rfl⟩
  rw [← his] at HG
  have HG := Lib.hid HG
  have H1 := Lib.hid H1
  clear h hx his
  go_enter Tryz.func20, Tryz.ntmps20
  go_wp2_with fail
  refine HG.out.mono ?_
  rintro e w1 ⟨rfl, hB⟩
  have HZ := (((H1.out.below hB).alloc (VM.boxO x)).rest)
  have hB2 := below_new hB
  obtain ⟨e0, e1, e2, e3⟩ := VM.box_cells HZ
  have hg := (pull1 HZ).get
  have f0 : ∀ i, (w1.alloc (VM.boxO x)).frozen? ⟨w.heap.size, i, none⟩ = false := fun i => free_at hg i
  obtain ⟨z0, z1, z2, z3⟩ := VM.box_cells (x := VM.zt) (pull1 HZ)
  have HZ2 := ((((pull1 HZ).set (i := 0) (.string x.val)).set (i := 1) (.bool x.set)).set (i := 2) (.bool x.exp)).set (i := 3) (.bool x.fix)
  have hB3 := ((((hB2.alloc hB2.size (VM.boxO x)).setCell (Nat.le_refl _) (p := ⟨w.heap.size, 0, none⟩) (.string x.val)).setCell (Nat.le_refl _) (p := ⟨w.heap.size, 1, none⟩) (.bool x.set)).setCell (Nat.le_refl _) (p := ⟨w.heap.size, 2, none⟩) (.bool x.exp)).setCell (Nat.le_refl _) (p := ⟨w.heap.size, 3, none⟩) (.bool x.fix)
  obtain ⟨r0, r1, r2, r3⟩ := VM.box_cells (x := x) HZ2
  have HB3 := Lib.hid hB3
  clear hg HZ HG H1 HZ2 hB hB2 hB3 c0 c1 c2 c3 c4 c5 c6 cz
  go_wp2_with fail
  refine bodyPost_ret (v := VM.enc x) (by simp [results, Tryz.results20, go_sem, r0, r1, r2, r3]) rfl ⟨rfl, HB3.out⟩
theorem Options_calls (K : Ctx) (n : Now) (w : World) (R : Hp) (h : SAt K w n R) :
    Calls Tryz.prog 65 #[pp K.sb] w fun e w' => e = .returned (.string n.s.o) ∧ w = w' := by
  obtain ⟨c0, c1, c2, c3, c4, c5, c6, cz⟩ := h.cells
  have HG := Lib.hid (geto K w n R h)
  clear h
  go_enter Tryz.func65, Tryz.ntmps65
  go_wp2_with fail
  refine HG.out.mono ?_
  rintro e w1 ⟨rfl, rfl⟩
  go_wp2_with fail
  go_ret
  exact ⟨rfl, rfl⟩
theorem ix_pos (o : ByteArray) (b : UInt8) : decide (0 ≤ Lib.indexByte (bs o) b) = decide (b ∈ bs o) := by
  have := ix_neg o b
  by_cases c : Lib.indexByte (bs o) b < 0
  · rw [decide_eq_true c] at this
    have h2 : decide (b ∈ bs o) = false := by simpa using this.symm
    rw [h2, decide_eq_false (by omega)]
  · rw [decide_eq_false c] at this
    have h2 : decide (b ∈ bs o) = true := by simpa using this.symm
    rw [h2, decide_eq_true (by omega)]
set_option maxRecDepth 100000 in
theorem Option_calls (K : Ctx) (n : Now) (b : UInt8) (w : World) (R : Hp) (h : SAt K w n R) :
    Calls Tryz.prog 47 #[pp K.sb, .int .u8 ((b.toNat : Nat) : Int)] w fun e w' => e = .returned (.bool (n.s.option b)) ∧ w = w' := by
  have HG := Lib.hid (Options_calls K n w R h)
  have HX := Lib.hid (fun w => six_calls n.s.o ((b.toNat : Nat) : Int) w)
  have e8 : ((b.toNat : Nat) : Int).toNat.toUInt8 = b := by simp
  rw [e8] at HX
  have hp := ix_pos n.s.o b
  obtain ⟨ix, hix⟩ : ∃ ix, ix = Lib.indexByte (bs n.s.o) b := ⟨_, rfl⟩
  rw [show Lib.indexByte n.s.o.data.toList b = ix from hix.symm] at HX
  rw [← hix] at hp
  obtain ⟨r, hr⟩ : ∃ r, r = n.s.option b := ⟨_, rfl⟩
  rw [← hr]
  have hr2 : r = decide (0 ≤ ix) := by rw [hr, hp]; rfl
  subst hr2
  clear h hr hp hix e8
  go_enter Tryz.func47, Tryz.ntmps47
  go_wp2_with fail
  refine HG.out.mono ?_
  rintro e w1 ⟨rfl, rfl⟩
  go_wp2_with fail
  refine (HX.out w).mono ?_
  rintro e w1 ⟨rfl, rfl⟩
  go_wp2_with fail
  go_ret
  exact ⟨rfl, rfl⟩
end Go.Proofs.YtlmjidandjemjaaGreatDoor.State
