/- A name of one letter in the root: begin, right, last, step, place walked. (printed by gen_hdn.py) -/
import Derived.Test.YtljlpkeddbfpaaaGreatDoorHdMe
namespace Go.Proofs.YtljlpkeddbfpaaaGreatDoor.Hd
open Go.RowKit Go.Maps Go.Proofs.YtljlpkeddbfpaaaGreatDoor Go.Proofs.YtljlpkeddbfpaaaGreatDoor.Hp
set_option linter.unusedVariables false
attribute [local go_sem] Oper.semAt_some

abbrev nm (c : UInt8) : ByteArray := ⟨#[c]⟩
theorem nm_whole (c : UInt8) : (nm c).extract 0 1 = nm c := by
  apply ByteArray.ext
  rw [ByteArray.data_extract]
  rfl
def Simple (c : UInt8) : Prop := c = 97 ∨ c = 98 ∨ c = 108 ∨ c = 100
set_option maxRecDepth 100000 in
theorem begin_calls (wb : Nat) (c : UInt8) (hc : Simple c) (w : World) :
    Calls Tryz.prog 108 #[pp wb, .int .i64 1, .string (nm c)] w fun e w' => e = .returned (.tuple #[.int .i64 1, .int .i64 0]) ∧ w = w' := by
  rcases hc with rfl | rfl | rfl | rfl
  all_goals
    go_enter Tryz.func108, Tryz.ntmps108
    go_wp2_with fail
    go_ret2
    exact ⟨rfl, rfl⟩
set_option maxRecDepth 100000 in
theorem right_calls (c : UInt8) (hc : Simple c) (w : World) :
    Calls Tryz.prog 112 #[.string (nm c)] w fun e w' => e = .returned (.bool true) ∧ w = w' := by
  have HIx := Tryz.strings_IndexByte (nm c) 0 w
  rcases hc with rfl | rfl | rfl | rfl
  all_goals
    have HIx := Lib.hid HIx
    go_enter Tryz.func112, Tryz.ntmps112
    go_wp2_with fail
    refine HIx.out.mono ?_
    rintro e w1 ⟨rfl, rfl⟩
    rw [show Lib.indexByte _ _ = -1 by rfl]
    go_wp2_with fail
    go_ret
    exact ⟨rfl, rfl⟩
set_option maxRecDepth 100000 in
set_option maxHeartbeats 2000000 in
theorem last_calls (fb mb : Nat) (F : Fs) (x : Nd) (c : UInt8) (hc : Simple c) (hx : find F.L 1 = some x) (h1 : x.kind = 1) (w : World) (R : Hp) (h : Sat w (fsHp fb mb F * R)) :
    Calls Tryz.prog 90 #[pp fb, .int .i64 1, .string (nm c)] w fun e w' => e = .returned (.tuple #[.int .i64 1, .string (nm c), .bool false, .int .i64 0]) ∧ Below w.heap.size w w' := by
  have HI := is_calls fb mb F 1 1 (by unfold I64; omega) w R h
  unfold isK at HI
  rw [hx] at HI
  dsimp only at HI
  rw [h1] at HI
  rw [show ((1 : Int) == 1) = true by rfl] at HI
  have HI := Lib.hid HI
  have HB := Lib.hid (fun wb w => begin_calls wb c hc w)
  have HT := fun w => Tryz.strings_TrimRight_one (nm c) 47 (by decide) w (by show 1 ≤ _; omega)
  have HLi := fun w => Tryz.strings_LastIndexByte (nm c) 47 (by show 1 < _; omega) w
  clear h hx h1
  rcases hc with rfl | rfl | rfl | rfl
  · skip
    have HT := Lib.hid HT
    have HLi := Lib.hid HLi
    go_enter Tryz.func90, Tryz.ntmps90
    go_wp2_with fail
    refine HI.out.mono ?_
    rintro e w1 ⟨rfl, rfl⟩
    go_wp2_with fail
    refine (HB.out _ _).mono ?_
    rintro e w1 ⟨rfl, rfl⟩
    go_wp2_with fail
    refine (HT.out _).mono ?_
    rintro e w1 ⟨rfl, rfl⟩
    rw [show ∀ b : UInt8, b ≠ 47 → (⟨(Lib.trimRightB (nm b).data.toList 47).toArray⟩ : ByteArray) = nm b from fun b hb => by simp [Lib.trimRightB, hb]]
    rotate_left
    · decide
    go_wp2_with fail
    refine (HLi.out _).mono ?_
    rintro e w1 ⟨rfl, rfl⟩
    rw [show Lib.lastIndexByte _ _ = -1 by rfl]
    go_wp2_with fail
    refine Go.Proofs.YtljlpkeddbfpaaaGreatDoor.region_plan (S := (fun _ => True)) [(0, true), (1, true), (2, true), (3, true), (4, true), (5, true), (6, true), (7, true), (8, true), (9, true), (10, true), (11, true), (12, true)] (by kernel_rfl) (by kernel_rfl) (by kernel_rfl) ?_ ?_
    · ((try dsimp only); (first | done | (trivial)))
    simp only [Go.Proofs.YtljlpkeddbfpaaaGreatDoor.planOps, List.map_cons, List.map_nil, List.getElem?_toArray, List.getElem?_cons_zero, List.getElem?_cons_succ]
    repeat (first
      | ((refine Go.Proofs.YtljlpkeddbfpaaaGreatDoor.plan_yes (v := ?_) (by rfl) ?_ ?_); rotate_left; (focus (intro w hSw; (try dsimp only at hSw); go_simp; try (with_reducible rfl))); (try simp only [Act.put, List.setIfInBounds_toArray, List.set_cons_zero, List.set_cons_succ]))
      | ((refine Go.Proofs.YtljlpkeddbfpaaaGreatDoor.plan_no (by rfl) ?_); (try simp only [Act.put, List.setIfInBounds_toArray, List.set_cons_zero, List.set_cons_succ]))
      | ((refine Go.Proofs.YtljlpkeddbfpaaaGreatDoor.plan_step (fun K hK => ?_)); (first | (fail) | (go_simp; (fail); (try go_wp2_with fail)) | go_simp); (refine hK.out _ _ ?_ (fun hHeld => ?_)); (focus ((try dsimp only); (first | done | (trivial)))); clear hK K; (try simp only [Act.put, List.setIfInBounds_toArray, List.set_cons_zero, List.set_cons_succ])))
    refine Go.Proofs.YtljlpkeddbfpaaaGreatDoor.plan_done ?_
    go_wp2_with fail
    refine bodyPost_ret (v := .tuple #[.int .i64 1, .string (nm 97), .bool false, .int .i64 0]) (by simp [results, Tryz.results90, go_sem, nm_whole]) rfl ?_
    exact ⟨rfl, ((Below.refl _ w).alloc (Nat.le_refl _) _).trans ⟨rfl, rfl, rfl, Nat.le_refl _, fun _ _ => rfl⟩⟩
  · skip
    have HT := Lib.hid HT
    have HLi := Lib.hid HLi
    go_enter Tryz.func90, Tryz.ntmps90
    go_wp2_with fail
    refine HI.out.mono ?_
    rintro e w1 ⟨rfl, rfl⟩
    go_wp2_with fail
    refine (HB.out _ _).mono ?_
    rintro e w1 ⟨rfl, rfl⟩
    go_wp2_with fail
    refine (HT.out _).mono ?_
    rintro e w1 ⟨rfl, rfl⟩
    rw [show ∀ b : UInt8, b ≠ 47 → (⟨(Lib.trimRightB (nm b).data.toList 47).toArray⟩ : ByteArray) = nm b from fun b hb => by simp [Lib.trimRightB, hb]]
    rotate_left
    · decide
    go_wp2_with fail
    refine (HLi.out _).mono ?_
    rintro e w1 ⟨rfl, rfl⟩
    rw [show Lib.lastIndexByte _ _ = -1 by rfl]
    go_wp2_with fail
    refine Go.Proofs.YtljlpkeddbfpaaaGreatDoor.region_plan (S := (fun _ => True)) [(0, true), (1, true), (2, true), (3, true), (4, true), (5, true), (6, true), (7, true), (8, true), (9, true), (10, true), (11, true), (12, true)] (by kernel_rfl) (by kernel_rfl) (by kernel_rfl) ?_ ?_
    · ((try dsimp only); (first | done | (trivial)))
    simp only [Go.Proofs.YtljlpkeddbfpaaaGreatDoor.planOps, List.map_cons, List.map_nil, List.getElem?_toArray, List.getElem?_cons_zero, List.getElem?_cons_succ]
    repeat (first
      | ((refine Go.Proofs.YtljlpkeddbfpaaaGreatDoor.plan_yes (v := ?_) (by rfl) ?_ ?_); rotate_left; (focus (intro w hSw; (try dsimp only at hSw); go_simp; try (with_reducible rfl))); (try simp only [Act.put, List.setIfInBounds_toArray, List.set_cons_zero, List.set_cons_succ]))
      | ((refine Go.Proofs.YtljlpkeddbfpaaaGreatDoor.plan_no (by rfl) ?_); (try simp only [Act.put, List.setIfInBounds_toArray, List.set_cons_zero, List.set_cons_succ]))
      | ((refine Go.Proofs.YtljlpkeddbfpaaaGreatDoor.plan_step (fun K hK => ?_)); (first | (fail) | (go_simp; (fail); (try go_wp2_with fail)) | go_simp); (refine hK.out _ _ ?_ (fun hHeld => ?_)); (focus ((try dsimp only); (first | done | (trivial)))); clear hK K; (try simp only [Act.put, List.setIfInBounds_toArray, List.set_cons_zero, List.set_cons_succ])))
    refine Go.Proofs.YtljlpkeddbfpaaaGreatDoor.plan_done ?_
    go_wp2_with fail
    refine bodyPost_ret (v := .tuple #[.int .i64 1, .string (nm 98), .bool false, .int .i64 0]) (by simp [results, Tryz.results90, go_sem, nm_whole]) rfl ?_
    exact ⟨rfl, ((Below.refl _ w).alloc (Nat.le_refl _) _).trans ⟨rfl, rfl, rfl, Nat.le_refl _, fun _ _ => rfl⟩⟩
  · skip
    have HT := Lib.hid HT
    have HLi := Lib.hid HLi
    go_enter Tryz.func90, Tryz.ntmps90
    go_wp2_with fail
    refine HI.out.mono ?_
    rintro e w1 ⟨rfl, rfl⟩
    go_wp2_with fail
    refine (HB.out _ _).mono ?_
    rintro e w1 ⟨rfl, rfl⟩
    go_wp2_with fail
    refine (HT.out _).mono ?_
    rintro e w1 ⟨rfl, rfl⟩
    rw [show ∀ b : UInt8, b ≠ 47 → (⟨(Lib.trimRightB (nm b).data.toList 47).toArray⟩ : ByteArray) = nm b from fun b hb => by simp [Lib.trimRightB, hb]]
    rotate_left
    · decide
    go_wp2_with fail
    refine (HLi.out _).mono ?_
    rintro e w1 ⟨rfl, rfl⟩
    rw [show Lib.lastIndexByte _ _ = -1 by rfl]
    go_wp2_with fail
    refine Go.Proofs.YtljlpkeddbfpaaaGreatDoor.region_plan (S := (fun _ => True)) [(0, true), (1, true), (2, true), (3, true), (4, true), (5, true), (6, true), (7, true), (8, true), (9, true), (10, true), (11, true), (12, true)] (by kernel_rfl) (by kernel_rfl) (by kernel_rfl) ?_ ?_
    · ((try dsimp only); (first | done | (trivial)))
    simp only [Go.Proofs.YtljlpkeddbfpaaaGreatDoor.planOps, List.map_cons, List.map_nil, List.getElem?_toArray, List.getElem?_cons_zero, List.getElem?_cons_succ]
    repeat (first
      | ((refine Go.Proofs.YtljlpkeddbfpaaaGreatDoor.plan_yes (v := ?_) (by rfl) ?_ ?_); rotate_left; (focus (intro w hSw; (try dsimp only at hSw); go_simp; try (with_reducible rfl))); (try simp only [Act.put, List.setIfInBounds_toArray, List.set_cons_zero, List.set_cons_succ]))
      | ((refine Go.Proofs.YtljlpkeddbfpaaaGreatDoor.plan_no (by rfl) ?_); (try simp only [Act.put, List.setIfInBounds_toArray, List.set_cons_zero, List.set_cons_succ]))
      | ((refine Go.Proofs.YtljlpkeddbfpaaaGreatDoor.plan_step (fun K hK => ?_)); (first | (fail) | (go_simp; (fail); (try go_wp2_with fail)) | go_simp); (refine hK.out _ _ ?_ (fun hHeld => ?_)); (focus ((try dsimp only); (first | done | (trivial)))); clear hK K; (try simp only [Act.put, List.setIfInBounds_toArray, List.set_cons_zero, List.set_cons_succ])))
    refine Go.Proofs.YtljlpkeddbfpaaaGreatDoor.plan_done ?_
    go_wp2_with fail
    refine bodyPost_ret (v := .tuple #[.int .i64 1, .string (nm 108), .bool false, .int .i64 0]) (by simp [results, Tryz.results90, go_sem, nm_whole]) rfl ?_
    exact ⟨rfl, ((Below.refl _ w).alloc (Nat.le_refl _) _).trans ⟨rfl, rfl, rfl, Nat.le_refl _, fun _ _ => rfl⟩⟩
  · skip
    have HT := Lib.hid HT
    have HLi := Lib.hid HLi
    go_enter Tryz.func90, Tryz.ntmps90
    go_wp2_with fail
    refine HI.out.mono ?_
    rintro e w1 ⟨rfl, rfl⟩
    go_wp2_with fail
    refine (HB.out _ _).mono ?_
    rintro e w1 ⟨rfl, rfl⟩
    go_wp2_with fail
    refine (HT.out _).mono ?_
    rintro e w1 ⟨rfl, rfl⟩
    rw [show ∀ b : UInt8, b ≠ 47 → (⟨(Lib.trimRightB (nm b).data.toList 47).toArray⟩ : ByteArray) = nm b from fun b hb => by simp [Lib.trimRightB, hb]]
    rotate_left
    · decide
    go_wp2_with fail
    refine (HLi.out _).mono ?_
    rintro e w1 ⟨rfl, rfl⟩
    rw [show Lib.lastIndexByte _ _ = -1 by rfl]
    go_wp2_with fail
    refine Go.Proofs.YtljlpkeddbfpaaaGreatDoor.region_plan (S := (fun _ => True)) [(0, true), (1, true), (2, true), (3, true), (4, true), (5, true), (6, true), (7, true), (8, true), (9, true), (10, true), (11, true), (12, true)] (by kernel_rfl) (by kernel_rfl) (by kernel_rfl) ?_ ?_
    · ((try dsimp only); (first | done | (trivial)))
    simp only [Go.Proofs.YtljlpkeddbfpaaaGreatDoor.planOps, List.map_cons, List.map_nil, List.getElem?_toArray, List.getElem?_cons_zero, List.getElem?_cons_succ]
    repeat (first
      | ((refine Go.Proofs.YtljlpkeddbfpaaaGreatDoor.plan_yes (v := ?_) (by rfl) ?_ ?_); rotate_left; (focus (intro w hSw; (try dsimp only at hSw); go_simp; try (with_reducible rfl))); (try simp only [Act.put, List.setIfInBounds_toArray, List.set_cons_zero, List.set_cons_succ]))
      | ((refine Go.Proofs.YtljlpkeddbfpaaaGreatDoor.plan_no (by rfl) ?_); (try simp only [Act.put, List.setIfInBounds_toArray, List.set_cons_zero, List.set_cons_succ]))
      | ((refine Go.Proofs.YtljlpkeddbfpaaaGreatDoor.plan_step (fun K hK => ?_)); (first | (fail) | (go_simp; (fail); (try go_wp2_with fail)) | go_simp); (refine hK.out _ _ ?_ (fun hHeld => ?_)); (focus ((try dsimp only); (first | done | (trivial)))); clear hK K; (try simp only [Act.put, List.setIfInBounds_toArray, List.set_cons_zero, List.set_cons_succ])))
    refine Go.Proofs.YtljlpkeddbfpaaaGreatDoor.plan_done ?_
    go_wp2_with fail
    refine bodyPost_ret (v := .tuple #[.int .i64 1, .string (nm 100), .bool false, .int .i64 0]) (by simp [results, Tryz.results90, go_sem, nm_whole]) rfl ?_
    exact ⟨rfl, ((Below.refl _ w).alloc (Nat.le_refl _) _).trans ⟨rfl, rfl, rfl, Nat.le_refl _, fun _ _ => rfl⟩⟩
set_option maxRecDepth 100000 in
set_option maxHeartbeats 2000000 in
theorem step_calls (fb mb : Nat) (F : Fs) (x : Nd) (kd : Kd) (c : UInt8) (hc : Simple c) (hx : find F.L 1 = some x) (h1 : x.kind = 1) (hk : x.kids = some kd) (hM : kd.M (nm c) = none) (w : World) (R : Hp) (h : Sat w (fsHp fb mb F * R)) :
    Calls Tryz.prog 91 #[pp fb, .int .i64 1, .string (nm c)] w fun e w' => e = .returned (.tuple #[.int .i64 0, .int .i64 10]) ∧ w = w' := by
  have HI := is_calls fb mb F 1 1 (by unfold I64; omega) w R h
  unfold isK at HI
  rw [hx] at HI
  dsimp only at HI
  rw [h1] at HI
  rw [show ((1 : Int) == 1) = true by rfl] at HI
  have HI := Lib.hid HI
  have HR := Lib.hid (right_calls c hc w)
  obtain ⟨c0, c1, c2, c3⟩ := fs_cells h
  have hl := fs_look h 1 (by unfold I64; omega)
  rw [show blk F.L 1 = some x.b by unfold blk; rw [hx]; rfl] at hl
  unfold pv at hl
  obtain ⟨X, S1, -⟩ := fs_node h hx
  obtain ⟨d0, d1, d2, d3, d4, d5⟩ := nd_cells S1
  rw [hk] at d2 S1
  unfold kv at d2
  dsimp only at d2
  have hl2 := K.smap_look (S1.perm (show _ = K.smap kd.b kd.M kd.sz kd.n * (pts x.b (ndO x) * (pts fb (fsO F mb) * (X * R))) by unfold kidsHp; ac_rfl)) (nm c) (by show 1 ≤ 9223372036854775807; omega)
  rw [hM] at hl2
  rw [show (none : Option Int).getD 0 = 0 by rfl] at hl2
  clear h hx h1 hk hM S1
  rcases hc with rfl | rfl | rfl | rfl
  all_goals
    go_enter Tryz.func91, Tryz.ntmps91
    go_wp2_with fail
    refine HI.out.mono ?_
    rintro e w1 ⟨rfl, rfl⟩
    go_wp2_with fail
    refine HR.out.mono ?_
    rintro e w1 ⟨rfl, rfl⟩
    go_wp2_with fail
    go_ret2
    exact ⟨rfl, rfl⟩
set_option maxRecDepth 100000 in
set_option maxHeartbeats 2000000 in
theorem place_calls (fb mb : Nat) (F : Fs) (x : Nd) (kd : Kd) (c : UInt8) (k : Int) (hc : Simple c) (hx : find F.L 1 = some x) (h1 : x.kind = 1) (hk : x.kids = some kd) (hM : kd.M (nm c) = none) (w : World) (R : Hp) (h : Sat w (fsHp fb mb F * R)) :
    Calls Tryz.prog 62 #[pp fb, .int .i64 1, .string (nm c), .int .i64 k] w fun e w' => e = .returned (.tuple #[.int .i64 1, .string (nm c), .int .i64 0]) ∧ Below w.heap.size w w' := by
  have HL := Lib.hid (last_calls fb mb F x c hc hx h1 w R h)
  have HS := Lib.hid (fun w h => step_calls fb mb F x kd c hc hx h1 hk hM w R h)
  have H0 := Lib.hid h
  clear h hx h1 hk hM
  rcases hc with rfl | rfl | rfl | rfl
  · skip
    go_enter Tryz.func62, Tryz.ntmps62
    go_wp2_with fail
    refine HL.out.mono ?_
    rintro e w1 ⟨rfl, hB⟩
    have HS2 := Lib.hid (HS.out w1 (H0.out.below hB))
    have HB := Lib.hid hB
    clear hB HS HL
    go_wp2_with fail
    refine HS2.out.mono ?_
    rintro e w2 ⟨rfl, rfl⟩
    go_wp2_with fail
    refine bodyPost_ret (v := .tuple #[.int .i64 1, .string (nm 97), .int .i64 0]) (by simp [results, Tryz.results62, go_sem]) rfl ?_
    exact ⟨rfl, HB.out⟩
  · skip
    go_enter Tryz.func62, Tryz.ntmps62
    go_wp2_with fail
    refine HL.out.mono ?_
    rintro e w1 ⟨rfl, hB⟩
    have HS2 := Lib.hid (HS.out w1 (H0.out.below hB))
    have HB := Lib.hid hB
    clear hB HS HL
    go_wp2_with fail
    refine HS2.out.mono ?_
    rintro e w2 ⟨rfl, rfl⟩
    go_wp2_with fail
    refine bodyPost_ret (v := .tuple #[.int .i64 1, .string (nm 98), .int .i64 0]) (by simp [results, Tryz.results62, go_sem]) rfl ?_
    exact ⟨rfl, HB.out⟩
  · skip
    go_enter Tryz.func62, Tryz.ntmps62
    go_wp2_with fail
    refine HL.out.mono ?_
    rintro e w1 ⟨rfl, hB⟩
    have HS2 := Lib.hid (HS.out w1 (H0.out.below hB))
    have HB := Lib.hid hB
    clear hB HS HL
    go_wp2_with fail
    refine HS2.out.mono ?_
    rintro e w2 ⟨rfl, rfl⟩
    go_wp2_with fail
    refine bodyPost_ret (v := .tuple #[.int .i64 1, .string (nm 108), .int .i64 0]) (by simp [results, Tryz.results62, go_sem]) rfl ?_
    exact ⟨rfl, HB.out⟩
  · skip
    go_enter Tryz.func62, Tryz.ntmps62
    go_wp2_with fail
    refine HL.out.mono ?_
    rintro e w1 ⟨rfl, hB⟩
    have HS2 := Lib.hid (HS.out w1 (H0.out.below hB))
    have HB := Lib.hid hB
    clear hB HS HL
    go_wp2_with fail
    refine HS2.out.mono ?_
    rintro e w2 ⟨rfl, rfl⟩
    go_wp2_with fail
    refine bodyPost_ret (v := .tuple #[.int .i64 1, .string (nm 100), .int .i64 0]) (by simp [results, Tryz.results62, go_sem]) rfl ?_
    exact ⟨rfl, HB.out⟩
end Go.Proofs.YtljlpkeddbfpaaaGreatDoor.Hd
