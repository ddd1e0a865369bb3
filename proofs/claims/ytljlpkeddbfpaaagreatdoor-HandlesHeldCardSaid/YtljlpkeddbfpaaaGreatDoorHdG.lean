/- A file's methods walked: info, write. -/
import Derived.Test.YtljlpkeddbfpaaaGreatDoorHdF
namespace Go.Proofs.YtljlpkeddbfpaaaGreatDoor.Hd
open Go.RowKit Go.Maps Go.Proofs.YtljlpkeddbfpaaaGreatDoor Go.Proofs.YtljlpkeddbfpaaaGreatDoor.Hp
set_option linter.unusedVariables false
attribute [local go_sem] Oper.semAt_some

/-- A Mode. -/
structure Md where
  r : Bool
  w : Bool
  m : Bool
/-- What is told of a handle. -/
abbrev inO (k rf a n : Int) (m : Md) : Obj := .cells #[.int .i64 k, .int .i64 rf, .int .i64 a, .int .i64 n, .bool m.r, .bool m.w, .bool m.m] 60 (0, 0)
abbrev inV (k rf a n : Int) (m : Md) : Value := .agg #[.int .i64 k, .int .i64 rf, .int .i64 a, .int .i64 n, .bool m.r, .bool m.w, .bool m.m]
theorem in_cells {w : World} {b : Nat} {k rf a n : Int} {m : Md} {S : Hp} (h : Sat w (pts b (inO k rf a n m) * S)) : w.cell? ⟨b, 0, none⟩ = some (.int .i64 k) ∧ w.cell? ⟨b, 1, none⟩ = some (.int .i64 rf) ∧ w.cell? ⟨b, 2, none⟩ = some (.int .i64 a) ∧ w.cell? ⟨b, 3, none⟩ = some (.int .i64 n) ∧ w.cell? ⟨b, 4, none⟩ = some (.bool m.r) ∧ w.cell? ⟨b, 5, none⟩ = some (.bool m.w) ∧ w.cell? ⟨b, 6, none⟩ = some (.bool m.m) := by
  have hb := h.get
  refine ⟨?_, ?_, ?_, ?_, ?_, ?_, ?_⟩ <;> rw [cell_at hb] <;> rfl
abbrev flO (fb : Nat) (n a : Int) (m : Md) : Obj := .cells #[pp fb, .int .i64 n, .int .i64 a, .bool m.r, .bool m.w, .bool m.m] 85 (0, 0)
theorem fl_cells {w : World} {b fb : Nat} {n a : Int} {m : Md} {S : Hp} (h : Sat w (pts b (flO fb n a m) * S)) : w.cell? ⟨b, 0, none⟩ = some (pp fb) ∧ w.cell? ⟨b, 1, none⟩ = some (.int .i64 n) ∧ w.cell? ⟨b, 2, none⟩ = some (.int .i64 a) ∧ w.cell? ⟨b, 3, none⟩ = some (.bool m.r) ∧ w.cell? ⟨b, 4, none⟩ = some (.bool m.w) ∧ w.cell? ⟨b, 5, none⟩ = some (.bool m.m) := by
  have hb := h.get
  refine ⟨?_, ?_, ?_, ?_, ?_, ?_⟩ <;> rw [cell_at hb] <;> rfl
set_option maxRecDepth 100000 in
set_option maxHeartbeats 4000000 in
theorem finfo_calls (xb fb : Nat) (n a : Int) (m : Md) (w : World) (R : Hp) (h : Sat w (pts xb (flO fb n a m) * R)) :
    Calls Tryz.prog 206 #[pp xb] w fun e w' => e = .returned (inV 1 0 a n m) ∧ Below w.heap.size w w' := by
  have D3 := ((h.alloc (inO 0 0 0 0 ⟨false, false, false⟩)).perm (show _ = pts xb (flO fb n a m) * (pts w.heap.size (inO 0 0 0 0 ⟨false, false, false⟩) * R) by ac_rfl)).drew
  obtain ⟨d0, d1, d2, d3, d4, d5⟩ := fl_cells D3
  have D5 := ((h.alloc (inO 1 0 a n m)).perm (show _ = pts xb (flO fb n a m) * (pts w.heap.size (inO 1 0 a n m) * R) by ac_rfl)).drew
  obtain ⟨q0, q1, q2, q3, q4, q5⟩ := fl_cells D5
  obtain ⟨r0, r1, r2, r3, r4, r5, r6⟩ := in_cells (D5.perm (show _ = pts w.heap.size (inO 1 0 a n m) * (pts xb (flO fb n a m) * R) by ac_rfl))
  have HB3 := Lib.hid (((Below.refl w.heap.size w).alloc (Nat.le_refl _) (inO 1 0 a n m)).trans ⟨rfl, rfl, rfl, Nat.le_refl _, fun _ _ => rfl⟩ : Below w.heap.size w (w.alloc (inO 1 0 a n m)).drew)
  obtain ⟨mr, mw, mm⟩ := m
  dsimp only at d3 d4 d5 q3 q4 q5 r4 r5 r6
  clear h D3 D5
  go_enter Tryz.func206, Tryz.ntmps206
  go_wp2_with fail
  refine Go.Proofs.YtljlpkeddbfpaaaGreatDoor.region_plan (S := (fun w' => w'.cell? ⟨xb, 1, none⟩ = some (.int .i64 n) ∧ w'.cell? ⟨xb, 2, none⟩ = some (.int .i64 a) ∧ w'.cell? ⟨xb, 3, none⟩ = some (.bool mr) ∧ w'.cell? ⟨xb, 4, none⟩ = some (.bool mw) ∧ w'.cell? ⟨xb, 5, none⟩ = some (.bool mm))) [(0, true), (1, true), (2, true), (3, true), (4, true), (5, true), (6, true), (7, true), (8, true), (9, true), (10, true), (11, true), (12, true), (13, false)] (by kernel_rfl) (by kernel_rfl) (by kernel_rfl) ?_ ?_
  · ((try dsimp only); (first | done | (first | exact ⟨d1, d2, d3, d4, d5⟩ | exact ⟨q1, q2, q3, q4, q5⟩)))
  simp only [Go.Proofs.YtljlpkeddbfpaaaGreatDoor.planOps, List.map_cons, List.map_nil, List.getElem?_toArray, List.getElem?_cons_zero, List.getElem?_cons_succ]
  repeat (first
    | ((refine Go.Proofs.YtljlpkeddbfpaaaGreatDoor.plan_yes (v := ?_) (by rfl) ?_ ?_); rotate_left; (focus (intro w hSw; (try dsimp only at hSw); go_simp; try (with_reducible rfl))); (try simp only [Act.put, List.setIfInBounds_toArray, List.set_cons_zero, List.set_cons_succ]))
    | ((refine Go.Proofs.YtljlpkeddbfpaaaGreatDoor.plan_no (by rfl) ?_); (try simp only [Act.put, List.setIfInBounds_toArray, List.set_cons_zero, List.set_cons_succ]))
    | ((refine Go.Proofs.YtljlpkeddbfpaaaGreatDoor.plan_step (fun K hK => ?_)); (first | (fail) | (go_simp; (fail); (try go_wp2_with fail)) | go_simp); (refine hK.out _ _ ?_ (fun hHeld => ?_)); (focus ((try dsimp only); (first | done | (first | exact ⟨d1, d2, d3, d4, d5⟩ | exact ⟨q1, q2, q3, q4, q5⟩)))); clear hK K; (try simp only [Act.put, List.setIfInBounds_toArray, List.set_cons_zero, List.set_cons_succ])))
  refine Go.Proofs.YtljlpkeddbfpaaaGreatDoor.plan_done ?_
  go_wp2_with fail
  exact bodyPost_ret (v := inV 1 0 a n ⟨mr, mw, mm⟩) (by simp [results, Tryz.results206, go_sem, r0, r1, r2, r3, r4, r5, r6]) rfl ⟨rfl, HB3.out⟩
end Go.Proofs.YtljlpkeddbfpaaaGreatDoor.Hd
