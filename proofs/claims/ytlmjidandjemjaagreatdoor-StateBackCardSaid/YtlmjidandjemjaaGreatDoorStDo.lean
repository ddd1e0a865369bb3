/- ask, first, node, does walked. (printed by gen_stdo.py) -/
import Derived.Test.YtlmjidandjemjaaGreatDoorStX
namespace Go.Proofs.YtlmjidandjemjaaGreatDoor.State
open Go.RowKit Go.Proofs.YtlmjidandjemjaaGreatDoor Go.Proofs.YtlmjidandjemjaaGreatDoor.Hp Go.Proofs.YtlmjidandjemjaaGreatDoor.Undo
set_option linter.unusedVariables false
attribute [local go_sem] Oper.semAt_some

abbrev opA (o : Opr) : Value := .agg #[.int .i64 o.ask, .string o.k, .string o.t, .int .i64 o.n, .slice o.p o.L.length o.c]
abbrev opO (o : Opr) : Obj := .cells #[.int .i64 o.ask, .string o.k, .string o.t, .int .i64 o.n, .slice o.p o.L.length o.c] 41 (0, 0)
theorem op_cells {w : World} {b : Nat} {o : Opr} {S : Hp} (h : Sat w (pts b (opO o) * S)) : w.cell? ⟨b, 0, none⟩ = some (.int .i64 o.ask) ∧ w.cell? ⟨b, 1, none⟩ = some (.string o.k) ∧ w.cell? ⟨b, 2, none⟩ = some (.string o.t) ∧ w.cell? ⟨b, 3, none⟩ = some (.int .i64 o.n) ∧ w.cell? ⟨b, 4, none⟩ = some (.slice o.p o.L.length o.c) :=
  ⟨by rw [cell_at h.get]; rfl, by rw [cell_at h.get]; rfl, by rw [cell_at h.get]; rfl, by rw [cell_at h.get]; rfl, by rw [cell_at h.get]; rfl⟩
/-- Which call it is. -/
def askI (o : Opr) : Int := o.ask % 20
theorem askI_cases (o : Opr) : askI o = 0 ∨ askI o = 1 ∨ askI o = 2 ∨ askI o = 3 ∨ askI o = 4 ∨ askI o = 5 ∨ askI o = 6 ∨ askI o = 7 ∨ askI o = 8 ∨ askI o = 9 ∨ askI o = 10 ∨ askI o = 11 ∨ askI o = 12 ∨ askI o = 13 ∨ askI o = 14 ∨ askI o = 15 ∨ askI o = 16 ∨ askI o = 17 ∨ askI o = 18 ∨ askI o = 19 := by
  unfold askI
  omega
theorem ask_math (x : Int) : (x.tmod 20 + 20).tmod 20 = x % 20 := by
  rcases Int.lt_or_le x 0 with h | h
  · obtain ⟨n, rfl⟩ : ∃ n : Nat, x = -(n : Int) := ⟨x.natAbs, by omega⟩
    rw [Int.neg_tmod]
    have h1 : ((n : Int)).tmod 20 = ((n % 20 : Nat) : Int) := by rw [Int.tmod_eq_emod_of_nonneg (by omega)]; omega
    rw [h1, Int.tmod_eq_emod_of_nonneg (by omega)]
    omega
  · rw [Int.tmod_eq_emod_of_nonneg h, Int.tmod_eq_emod_of_nonneg (by omega)]
    omega
set_option maxRecDepth 100000 in
set_option maxHeartbeats 4000000 in
theorem ask_calls (o : Opr) (w : World) (ho : I64 o.ask) :
    Calls Tryz.prog 18 #[opA o] w fun e w' => e = .returned (.int .i64 (askI o)) ∧ Below w.heap.size w w' := by
  have H := op_cells ((Sat.start w).alloc (opO o))
  obtain ⟨c0, c1, c2, c3, c4⟩ := H
  have hm := ask_math o.ask
  have hr1 : -20 < o.ask.tmod 20 ∧ o.ask.tmod 20 < 20 := by
    have := Int.tmod_lt_of_pos o.ask (show (0 : Int) < 20 by decide)
    have h2 : -20 < o.ask.tmod 20 := by
      have := Int.tmod_lt_of_pos (-o.ask) (show (0 : Int) < 20 by decide)
      rw [Int.neg_tmod] at this; omega
    exact ⟨h2, this⟩
  obtain ⟨q, hq⟩ : ∃ q, q = o.ask.tmod 20 := ⟨_, rfl⟩
  rw [← hq] at hm hr1
  have w1 : IntKind.i64.wrap q = q := IntWalk.i64_in _ (by omega)
  have w2 : IntKind.i64.wrap (q + 20) = q + 20 := IntWalk.i64_in _ (by omega)
  have w3 : IntKind.i64.wrap ((q + 20).tmod 20) = (q + 20).tmod 20 := IntWalk.i64_in _ (by rw [hm]; omega)
  have HM := Lib.hid hm
  have HQ := Lib.hid hq
  go_enter Tryz.func18, Tryz.ntmps18
  go_wp2_with fail
  go_ret
  refine ⟨?_, (Below.refl _ _).alloc (Nat.le_refl _) _⟩
  have h := HM.out
  rw [Int.tmod_eq_emod_of_nonneg (by omega), HQ.out] at h
  show Ending.returned (Value.int .i64 ((o.ask.tmod 20 + 20) % 20)) = _
  rw [h]
  rfl
/-- A text's first byte; of none 0. -/
def firstB (t : ByteArray) : UInt8 := if h : 0 < t.size then t[0] else 0
theorem first_calls (t : ByteArray) (w : World) (ht : t.size ≤ maxLen) :
    Calls Tryz.prog 56 #[.string t] w fun e w' => e = .returned (.int .u8 (((firstB t).toNat : Nat) : Int)) ∧ w = w' := by
  have hn := beq_nil t
  by_cases h : 0 < t.size
  · have hI : (0 : Int) < t.size := by omega
    rw [decide_eq_false (by omega)] at hn
    have hf : firstB t = t[0] := by unfold firstB; rw [dif_pos h]
    rw [hf]
    clear hf
    go_enter Tryz.func56, Tryz.ntmps56
    go_wp2_with fail
    go_ret
    exact ⟨rfl, rfl⟩
  · rw [decide_eq_true (by omega)] at hn
    have hf : firstB t = 0 := by unfold firstB; rw [dif_neg h]
    rw [hf]
    clear hf h
    go_enter Tryz.func56, Tryz.ntmps56
    go_wp2_with fail
    go_ret
    exact ⟨rfl, rfl⟩
theorem node_calls (t : ByteArray) (w : World) :
    Calls Tryz.prog 51 #[.string t] w fun e w' => e = .returned (.agg #[.int .i64 6, .bool false, .string t, .bool false, .slice none 0 0, .slice none 0 0, .slice none 0 0, .slice none 0 0, .slice none 0 0]) ∧ Below w.heap.size w w' := by
  obtain ⟨r0, r1, r2, r3, r4, r5, r6, r7, r8⟩ := NM.box_cells (x := ⟨6, t⟩) ((Sat.start w).alloc (NM.boxO ⟨6, t⟩))
  go_enter Tryz.func51, Tryz.ntmps51
  go_wp2_with fail
  refine bodyPost_ret (v := .agg #[.int .i64 6, .bool false, .string t, .bool false, .slice none 0 0, .slice none 0 0, .slice none 0 0, .slice none 0 0, .slice none 0 0]) (by simp [results, Tryz.results51, go_sem, r0, r1, r2, r3, r4, r5, r6, r7, r8]) rfl ⟨rfl, ?_⟩
  exact (Below.refl _ _).alloc (Nat.le_refl _) _
end Go.Proofs.YtlmjidandjemjaaGreatDoor.State
