/- A text's read walked. -/
import Derived.Test.YtljlpkeddbfpaaaGreatDoorHdTx
namespace Go.Proofs.YtljlpkeddbfpaaaGreatDoor.Hd
open Go.RowKit Go.Maps Go.Proofs.YtljlpkeddbfpaaaGreatDoor Go.Proofs.YtljlpkeddbfpaaaGreatDoor.Hp
set_option linter.unusedVariables false
attribute [local go_sem] Oper.semAt_some

set_option maxRecDepth 100000 in
set_option maxHeartbeats 4000000 in
theorem tread_calls (xb : Nat) (s : ByteArray) (a q : Nat) (ha : a ≤ s.size) (hs : s.size ≤ 1048576) (hq : q ≤ 9223372036854775807) (w : World) (R : Hp) (h : Sat w (pts xb (txO s a) * R)) :
    Calls Tryz.prog 213 #[pp xb, .int .i64 q] w fun e w' => (e = .returned (.tuple #[.string (readB s a q), .int .i64 0]) ∧ Sat w' (pts xb (txO s ((a + (readB s a q).size : Nat) : Int)) * R)) ∧ Ran w w' := by
  obtain ⟨d0, d1⟩ := tx_cells h.drew
  have f0 : ∀ i, w.drew.frozen? ⟨xb, i, none⟩ = false := fun i => free_at h.drew.get i
  unfold readB
  rw [Nat.min_eq_left ha]
  obtain ⟨rs, hrs⟩ : ∃ r, r = s.extract a s.size := ⟨_, rfl⟩
  have hrsz : rs.size ≤ s.size := by rw [hrs, ByteArray.size_extract]; omega
  rw [← hrs]
  obtain ⟨pm, hpm⟩ : ∃ p, p = min q rs.size := ⟨_, rfl⟩
  rw [← hpm]
  have hmin2 : min (q : Int) (rs.size : Int) = (pm : Int) := by omega
  have hp2 : (0 : Int) ≤ (pm : Int) := by omega
  have hp3n : pm ≤ rs.size := by omega
  obtain ⟨t, ht⟩ : ∃ t, t = rs.extract 0 pm := ⟨_, rfl⟩
  have htz : t.size ≤ 1048576 := by rw [ht, ByteArray.size_extract]; omega
  rw [← ht, show ((a + t.size : Nat) : Int) = (a : Int) + (t.size : Int) by omega]
  have htI : (t.size : Int) ≤ 1048576 := by omega
  have haI : (a : Int) ≤ (s.size : Int) := by omega
  have ha0 : (0 : Int) ≤ (a : Int) := by omega
  have hsI : (s.size : Int) ≤ 1048576 := by omega
  have S3 : Hid (Sat (w.drew.setCell ⟨xb, 1, none⟩ (.int .i64 ((a : Int) + (t.size : Int)))) (pts xb (txO s ((a : Int) + (t.size : Int))) * R)) := Lib.hid (h.drew.set (i := 1) (.int .i64 ((a : Int) + (t.size : Int))))
  have Hrs := Lib.hid hrs.symm
  have Ht := Lib.hid ht.symm
  clear h hrs hpm ht
  go_enter Tryz.func213, Tryz.ntmps213
  go_wp2_with fail
  refine Go.Proofs.YtljlpkeddbfpaaaGreatDoor.region_plan (S := (fun w' => w'.cell? ⟨xb, 0, none⟩ = some (.string s) ∧ w'.cell? ⟨xb, 1, none⟩ = some (.int .i64 (a : Int)))) [(0, true), (1, true), (2, true), (3, true), (4, true), (5, true), (6, true), (7, true), (8, true), (9, true)] (by kernel_rfl) (by kernel_rfl) (by kernel_rfl) ?_ ?_
  · ((try dsimp only); (first | done | (exact ⟨d0, d1⟩)))
  simp only [Go.Proofs.YtljlpkeddbfpaaaGreatDoor.planOps, List.map_cons, List.map_nil, List.getElem?_toArray, List.getElem?_cons_zero, List.getElem?_cons_succ]
  repeat (first
    | ((refine Go.Proofs.YtljlpkeddbfpaaaGreatDoor.plan_yes (v := ?_) (by rfl) ?_ ?_); rotate_left; (focus (intro w hSw; (try dsimp only at hSw); go_simp; try (with_reducible rfl))); (try simp only [Act.put, List.setIfInBounds_toArray, List.set_cons_zero, List.set_cons_succ]))
    | ((refine Go.Proofs.YtljlpkeddbfpaaaGreatDoor.plan_no (by rfl) ?_); (try simp only [Act.put, List.setIfInBounds_toArray, List.set_cons_zero, List.set_cons_succ]))
    | ((refine Go.Proofs.YtljlpkeddbfpaaaGreatDoor.plan_step (fun K hK => ?_)); (first | (fail) | (go_simp; (fail); (try go_wp2_with fail)) | go_simp); (refine hK.out _ _ ?_ (fun hHeld => ?_)); (focus ((try dsimp only); (first | done | (exact ⟨d0, d1⟩)))); clear hK K; (try simp only [Act.put, List.setIfInBounds_toArray, List.set_cons_zero, List.set_cons_succ])))
  refine Go.Proofs.YtljlpkeddbfpaaaGreatDoor.plan_done ?_
  rw [Hrs.out]
  go_upto_region 3 with fail
  rw [Ht.out]
  go_wp2_with fail
  go_ret2
  exact ⟨⟨rfl, S3.out⟩, Ran.set (Ran.drewN (Below.refl 0 w) 1) _ _⟩
end Go.Proofs.YtljlpkeddbfpaaaGreatDoor.Hd
