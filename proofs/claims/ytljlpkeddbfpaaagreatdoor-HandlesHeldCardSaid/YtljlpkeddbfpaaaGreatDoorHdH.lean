/- A file's write walked. (printed by gen_hdh.py) -/
import Derived.Test.YtljlpkeddbfpaaaGreatDoorHdG
namespace Go.Proofs.YtljlpkeddbfpaaaGreatDoor.Hd
open Go.RowKit Go.Maps Go.Proofs.YtljlpkeddbfpaaaGreatDoor Go.Proofs.YtljlpkeddbfpaaaGreatDoor.Hp
set_option linter.unusedVariables false
attribute [local go_sem] Oper.semAt_some

/-- Where a file's write begins. -/
def atW (x : Nd) (a : Nat) (m : Md) : Nat := if m.m = true then x.text.size else a
set_option maxRecDepth 100000 in
set_option maxHeartbeats 8000000 in
theorem fwrite_calls (xb fb mb : Nat) (F : Fs) (n : Int) (a : Nat) (m : Md) (x : Nd) (d : ByteArray) (hk : I64 n) (ha : a ≤ 10000000) (hd : d.size ≤ 10000000) (hs : FsOk F) (hx : find F.L n = some x) (h2 : x.kind = 2) (hkid : x.kids = none) (hu : 0 ≤ F.used ∧ F.used ≤ 1000000000) (hr : 0 ≤ F.room ∧ F.room ≤ 1000000000) (w : World) (R : Hp)
    (h : Sat w (fsHp fb mb F * (pts xb (flO fb n a m) * R))) :
    Calls Tryz.prog 208 #[pp xb, .string d] w fun e w' => (e = .returned (.int .i64 (writeP F n x (atW x a m) d).1) ∧
      Sat w' (fsHp fb mb (writeP F n x (atW x a m) d).2 * (pts xb (flO fb n (if (writeP F n x (atW x a m) d).1 = 0 then ((atW x a m : Nat) : Int) + (d.size : Int) else ((atW x a m : Nat) : Int)) m) * R))) ∧ Ran w w' := by
  obtain ⟨mr, mw, mm⟩ := m
  have Hs := Lib.hid hs
  have Hx := Lib.hid hx
  have H2 := Lib.hid h2
  have Hu := Lib.hid hu
  have Hr := Lib.hid hr
  have h1 := (hs n x hx).text
  have hdI : (d.size : Int) ≤ 10000000 := by omega
  have hd0 : (0 : Int) ≤ (d.size : Int) := by omega
  cases mm with
  | false =>
    show Calls _ _ _ _ (fun e w' => (e = .returned (.int .i64 (writeP F n x a d).1) ∧ Sat w' (fsHp fb mb (writeP F n x a d).2 * (pts xb (flO fb n (if (writeP F n x a d).1 = 0 then (a : Int) + (d.size : Int) else (a : Int)) ⟨mr, mw, false⟩) * R))) ∧ Ran w w')
    obtain ⟨en, hen⟩ : ∃ en, en = (writeP F n x a d).1 := ⟨_, rfl⟩
    obtain ⟨F', hF'⟩ : ∃ F', F' = (writeP F n x a d).2 := ⟨_, rfl⟩
    rw [← hen, ← hF']
    have Hen := Lib.hid hen
    have HF' := Lib.hid hF'
    clear hen hF'
    have S4 := h
    have R4 := Lib.hid (Below.refl 0 w : Ran w w)
    clear h hs hx h2 hu hr hkid
    go_enter Tryz.func208, Tryz.ntmps208
    have c := fl_cells S4.right
    obtain ⟨d0, d1, d2, d3, d4, d5⟩ := c
    have HW := Write_calls fb mb F n a x d hk (by omega) (by omega) Hs.out Hx.out H2.out Hu.out Hr.out _ (pts xb (flO fb n (a : Int) ⟨mr, mw, false⟩) * R) S4.drew
    rw [← Hen.out, ← HF'.out] at HW
    have HW := Lib.hid HW
    obtain ⟨d0', d1', d2', -⟩ := fl_cells S4.drew.right
    have haI : (a : Int) ≤ 1000000000 := by omega
    have haI0 : (0 : Int) ≤ (a : Int) := by omega
    have S4 := Lib.hid S4
    go_upto_region 4 with fail
    refine Go.Proofs.YtljlpkeddbfpaaaGreatDoor.region_plan (S := (fun w' => w'.cell? ⟨xb, 0, none⟩ = some (pp fb) ∧ w'.cell? ⟨xb, 1, none⟩ = some (.int .i64 n) ∧ w'.cell? ⟨xb, 2, none⟩ = some (.int .i64 (a : Int)))) [(0, true), (1, true), (2, true), (3, true), (4, true), (5, true), (6, true), (7, true), (8, true), (9, true), (10, true), (11, true), (12, true), (13, false), (14, true)] (by kernel_rfl) (by kernel_rfl) (by kernel_rfl) ?_ ?_
    · ((try dsimp only); (first | done | (first | exact ⟨d0', d1', d2'⟩ | exact K5)))
    simp only [Go.Proofs.YtljlpkeddbfpaaaGreatDoor.planOps, List.map_cons, List.map_nil, List.getElem?_toArray, List.getElem?_cons_zero, List.getElem?_cons_succ]
    repeat (first
      | ((refine Go.Proofs.YtljlpkeddbfpaaaGreatDoor.plan_yes (v := ?_) (by rfl) ?_ ?_); rotate_left; (focus (intro w hSw; (try dsimp only at hSw); go_simp; try (with_reducible rfl))); (try simp only [Act.put, List.setIfInBounds_toArray, List.set_cons_zero, List.set_cons_succ]))
      | ((refine Go.Proofs.YtljlpkeddbfpaaaGreatDoor.plan_no (by rfl) ?_); (try simp only [Act.put, List.setIfInBounds_toArray, List.set_cons_zero, List.set_cons_succ]))
      | ((refine Go.Proofs.YtljlpkeddbfpaaaGreatDoor.plan_step (fun K hK => ?_)); (first | ((go_at_call 14; refine HW.out.mono ?_; rintro e w5 ⟨⟨rfl, S5⟩, R5⟩; have K5 := (And.intro (fl_cells S5.right).1 (And.intro (fl_cells S5.right).2.1 (fl_cells S5.right).2.2.1)))) | (go_simp; ((go_at_call 14; refine HW.out.mono ?_; rintro e w5 ⟨⟨rfl, S5⟩, R5⟩; have K5 := (And.intro (fl_cells S5.right).1 (And.intro (fl_cells S5.right).2.1 (fl_cells S5.right).2.2.1)))); (try go_wp2_with fail)) | go_simp); (refine hK.out _ _ ?_ (fun hHeld => ?_)); (focus ((try dsimp only); (first | done | (first | exact ⟨d0', d1', d2'⟩ | exact K5)))); clear hK K; (try simp only [Act.put, List.setIfInBounds_toArray, List.set_cons_zero, List.set_cons_succ])))
    refine Go.Proofs.YtljlpkeddbfpaaaGreatDoor.plan_done ?_
    have R5 := Lib.hid (Below.trans (Ran.drewN R4.out 1) R5)
    clear d0 d1 d2 d3 d4 d5 d0' d1' d2' K5 HW S4
    obtain ⟨d0, d1, d2, d3, d4, d5⟩ := fl_cells S5.right
    by_cases he : en = 0
    · have S5' := S5.perm (show _ = pts xb (flO fb n (a : Int) ⟨mr, mw, false⟩) * (fsHp fb mb F' * R) by ac_rfl)
      have f0 : ∀ i, w5.frozen? ⟨xb, i, none⟩ = false := fun i => free_at S5'.get i
      have S6 := Lib.hid ((S5'.set (i := 2) (.int .i64 ((a : Int) + (d.size : Int)))).perm (show pts xb (flO fb n ((a : Int) + (d.size : Int)) ⟨mr, mw, false⟩) * (fsHp fb mb F' * R) = fsHp fb mb F' * (pts xb (flO fb n ((a : Int) + (d.size : Int)) ⟨mr, mw, false⟩) * R) by ac_rfl))
      subst he
      clear S5 S5'
      go_wp2_with fail
      go_ret
      exact ⟨⟨rfl, S6.out⟩, Ran.set R5.out _ _⟩
    · have heb : (en == 0) = false := by simp [he]
      have S5 := Lib.hid S5
      go_wp2_with fail
      go_ret
      exact ⟨⟨rfl, S5.out⟩, R5.out⟩
  | true =>
    obtain ⟨sz, hsz⟩ : ∃ s, s = x.text.size := ⟨_, rfl⟩
    show Calls _ _ _ _ (fun e w' => (e = .returned (.int .i64 (writeP F n x x.text.size d).1) ∧ Sat w' (fsHp fb mb (writeP F n x x.text.size d).2 * (pts xb (flO fb n (if (writeP F n x x.text.size d).1 = 0 then (x.text.size : Int) + (d.size : Int) else (x.text.size : Int)) ⟨mr, mw, true⟩) * R))) ∧ Ran w w')
    have HSt := Stat_calls fb mb F n hk (hs.small n) w.drew _ h.drew
    unfold statE statV at HSt
    rw [hx] at HSt
    have hsn : sizeN x = (x.text.size : Int) := by unfold sizeN; rw [hkid]; simp [ksz]
    dsimp only at HSt
    rw [hsn, ← hsz] at HSt
    rw [← hsz] at h1 ⊢
    obtain ⟨en, hen⟩ : ∃ en, en = (writeP F n x sz d).1 := ⟨_, rfl⟩
    obtain ⟨F', hF'⟩ : ∃ F', F' = (writeP F n x sz d).2 := ⟨_, rfl⟩
    rw [← hen, ← hF']
    have Hen := Lib.hid hen
    have HF' := Lib.hid hF'
    clear hen hF'
    have HSt := Lib.hid HSt
    have H0 := Lib.hid h
    obtain ⟨d0, d1, d2, d3, d4, d5⟩ := fl_cells h.right
    obtain ⟨d0', d1', -⟩ := fl_cells h.right.drew
    have hb := (h.alloc (infoO 0 0 0 0)).drew
    have Hsz := Lib.hid hsz
    obtain ⟨y0, y1, -⟩ := fl_cells hb.right.right
    have HStb := Stat_calls fb mb F n hk (hs.small n) _ _ (hb.perm (show _ = fsHp fb mb F * (pts w.heap.size (infoO 0 0 0 0) * (pts xb (flO fb n a ⟨mr, mw, true⟩) * R)) by ac_rfl))
    unfold statE statV at HStb
    rw [hx] at HStb
    dsimp only at HStb
    rw [hsn, ← hsz] at HStb
    have HStb := Lib.hid HStb
    have Hb := Lib.hid hb
    clear h hs hx h2 hu hr hkid hsn hb hsz
    go_enter Tryz.func208, Tryz.ntmps208
    go_wp2_with fail
    refine Go.Proofs.YtljlpkeddbfpaaaGreatDoor.region_tree (S := (fun w' => w'.cell? ⟨xb, 0, none⟩ = some (pp fb) ∧ w'.cell? ⟨xb, 1, none⟩ = some (.int .i64 n))) (.take 0 (.take 1 (.take 2 (.take 3 (.take 4 (.take 5 (.take 6 (.take 7 (.fork 8 (.take 9 (.take 10 (.take 11 (.step 12 (.step 13 (.take 14 (.nil))))))) 12 (.step 8 (.take 9 (.take 10 (.take 11 (.step 13 (.take 14 (.nil)))))))))))))))) (by kernel_rfl) (by kernel_rfl) (by kernel_rfl) ?_ ?_
    · ((try dsimp only); (first | done | (first | with_reducible exact ⟨d0', d1'⟩ | with_reducible exact k4 | with_reducible exact k4a _ | with_reducible exact ⟨y0, y1⟩ | with_reducible exact Kset.out)))
    simp only [Go.Proofs.YtljlpkeddbfpaaaGreatDoor.Plan.ops, List.getElem?_toArray, List.getElem?_cons_zero, List.getElem?_cons_succ]
    ((first | ((refine Go.Proofs.YtljlpkeddbfpaaaGreatDoor.tree_yes (v := ?_) (by rfl) ?_ ?_); rotate_left; (focus (intro w hSw; (try dsimp only at hSw); go_simp; try (with_reducible rfl)))) | (refine Go.Proofs.YtljlpkeddbfpaaaGreatDoor.tree_no (by rfl) ?_)); (try simp only [Act.put, List.setIfInBounds_toArray, List.set_cons_zero, List.set_cons_succ]))
    ((first | ((refine Go.Proofs.YtljlpkeddbfpaaaGreatDoor.tree_yes (v := ?_) (by rfl) ?_ ?_); rotate_left; (focus (intro w hSw; (try dsimp only at hSw); go_simp; try (with_reducible rfl)))) | (refine Go.Proofs.YtljlpkeddbfpaaaGreatDoor.tree_no (by rfl) ?_)); (try simp only [Act.put, List.setIfInBounds_toArray, List.set_cons_zero, List.set_cons_succ]))
    ((first | ((refine Go.Proofs.YtljlpkeddbfpaaaGreatDoor.tree_yes (v := ?_) (by rfl) ?_ ?_); rotate_left; (focus (intro w hSw; (try dsimp only at hSw); go_simp; try (with_reducible rfl)))) | (refine Go.Proofs.YtljlpkeddbfpaaaGreatDoor.tree_no (by rfl) ?_)); (try simp only [Act.put, List.setIfInBounds_toArray, List.set_cons_zero, List.set_cons_succ]))
    ((first | ((refine Go.Proofs.YtljlpkeddbfpaaaGreatDoor.tree_yes (v := ?_) (by rfl) ?_ ?_); rotate_left; (focus (intro w hSw; (try dsimp only at hSw); go_simp; try (with_reducible rfl)))) | (refine Go.Proofs.YtljlpkeddbfpaaaGreatDoor.tree_no (by rfl) ?_)); (try simp only [Act.put, List.setIfInBounds_toArray, List.set_cons_zero, List.set_cons_succ]))
    ((first | ((refine Go.Proofs.YtljlpkeddbfpaaaGreatDoor.tree_yes (v := ?_) (by rfl) ?_ ?_); rotate_left; (focus (intro w hSw; (try dsimp only at hSw); go_simp; try (with_reducible rfl)))) | (refine Go.Proofs.YtljlpkeddbfpaaaGreatDoor.tree_no (by rfl) ?_)); (try simp only [Act.put, List.setIfInBounds_toArray, List.set_cons_zero, List.set_cons_succ]))
    ((first | ((refine Go.Proofs.YtljlpkeddbfpaaaGreatDoor.tree_yes (v := ?_) (by rfl) ?_ ?_); rotate_left; (focus (intro w hSw; (try dsimp only at hSw); go_simp; try (with_reducible rfl)))) | (refine Go.Proofs.YtljlpkeddbfpaaaGreatDoor.tree_no (by rfl) ?_)); (try simp only [Act.put, List.setIfInBounds_toArray, List.set_cons_zero, List.set_cons_succ]))
    ((first | ((refine Go.Proofs.YtljlpkeddbfpaaaGreatDoor.tree_yes (v := ?_) (by rfl) ?_ ?_); rotate_left; (focus (intro w hSw; (try dsimp only at hSw); go_simp; try (with_reducible rfl)))) | (refine Go.Proofs.YtljlpkeddbfpaaaGreatDoor.tree_no (by rfl) ?_)); (try simp only [Act.put, List.setIfInBounds_toArray, List.set_cons_zero, List.set_cons_succ]))
    ((first | ((refine Go.Proofs.YtljlpkeddbfpaaaGreatDoor.tree_yes (v := ?_) (by rfl) ?_ ?_); rotate_left; (focus (intro w hSw; (try dsimp only at hSw); go_simp; try (with_reducible rfl)))) | (refine Go.Proofs.YtljlpkeddbfpaaaGreatDoor.tree_no (by rfl) ?_)); (try simp only [Act.put, List.setIfInBounds_toArray, List.set_cons_zero, List.set_cons_succ]))
    refine Go.Proofs.YtljlpkeddbfpaaaGreatDoor.tree_fork (fun K hK => ?_) (fun K hK => ?_)
    focus
      ((first | (first | (go_at_call 25; refine HSt.out.mono ?_; rintro e w4 ⟨rfl, hB4⟩; have S3 := H0.out.drew.below hB4; have k4 := (And.intro (fl_cells S3.right).1 (fl_cells S3.right).2.1); have k4a := fun o => (And.intro (fl_cells (S3.old o).right).1 (fl_cells (S3.old o).right).2.1); have S3 := Lib.hid S3; have hB4 := Lib.hid hB4) | (go_at_call 25; refine HStb.out.mono ?_; rintro e w4 ⟨rfl, hB4⟩; have S3b := Hb.out.below hB4; have k4 := (And.intro (fl_cells S3b.right.right).1 (fl_cells S3b.right.right).2.1); obtain ⟨z0, z1, z2, z3⟩ := info_cells S3b; have f0b : ∀ i, w4.frozen? ⟨w.heap.size, i, none⟩ = false := (fun i => free_at S3b.get i); have S3c := (((S3b.set (i := 0) (.int .i64 x.kind)).set (i := 1) (.int .i64 (sz : Int))).set (i := 2) (.int .i64 x.names)).set (i := 3) (.int .i64 x.holds); have kset := (And.intro (fl_cells (Sat.right (Sat.right S3c))).1 (fl_cells (Sat.right (Sat.right S3c))).2.1); have S3b := Lib.hid S3b; have hB4 := Lib.hid hB4; have Kset := Lib.hid kset; clear S3c kset)) | (go_simp; (first | (go_at_call 25; refine HSt.out.mono ?_; rintro e w4 ⟨rfl, hB4⟩; have S3 := H0.out.drew.below hB4; have k4 := (And.intro (fl_cells S3.right).1 (fl_cells S3.right).2.1); have k4a := fun o => (And.intro (fl_cells (S3.old o).right).1 (fl_cells (S3.old o).right).2.1); have S3 := Lib.hid S3; have hB4 := Lib.hid hB4) | (go_at_call 25; refine HStb.out.mono ?_; rintro e w4 ⟨rfl, hB4⟩; have S3b := Hb.out.below hB4; have k4 := (And.intro (fl_cells S3b.right.right).1 (fl_cells S3b.right.right).2.1); obtain ⟨z0, z1, z2, z3⟩ := info_cells S3b; have f0b : ∀ i, w4.frozen? ⟨w.heap.size, i, none⟩ = false := (fun i => free_at S3b.get i); have S3c := (((S3b.set (i := 0) (.int .i64 x.kind)).set (i := 1) (.int .i64 (sz : Int))).set (i := 2) (.int .i64 x.names)).set (i := 3) (.int .i64 x.holds); have kset := (And.intro (fl_cells (Sat.right (Sat.right S3c))).1 (fl_cells (Sat.right (Sat.right S3c))).2.1); have S3b := Lib.hid S3b; have hB4 := Lib.hid hB4; have Kset := Lib.hid kset; clear S3c kset)); (try go_wp2_with fail)) | go_simp); (refine hK.out _ _ ?_ (fun hHeld => ?_)); (focus ((try dsimp only); (first | done | (first | with_reducible exact ⟨d0', d1'⟩ | with_reducible exact k4 | with_reducible exact k4a _ | with_reducible exact ⟨y0, y1⟩ | with_reducible exact Kset.out)))); clear hK K; (try simp only [Act.put, List.setIfInBounds_toArray, List.set_cons_zero, List.set_cons_succ]))
      ((first | ((refine Go.Proofs.YtljlpkeddbfpaaaGreatDoor.tree_yes (v := ?_) (by rfl) ?_ ?_); rotate_left; (focus (intro w hSw; (try dsimp only at hSw); go_simp; try (with_reducible rfl)))) | (refine Go.Proofs.YtljlpkeddbfpaaaGreatDoor.tree_no (by rfl) ?_)); (try simp only [Act.put, List.setIfInBounds_toArray, List.set_cons_zero, List.set_cons_succ]))
      ((first | ((refine Go.Proofs.YtljlpkeddbfpaaaGreatDoor.tree_yes (v := ?_) (by rfl) ?_ ?_); rotate_left; (focus (intro w hSw; (try dsimp only at hSw); go_simp; try (with_reducible rfl)))) | (refine Go.Proofs.YtljlpkeddbfpaaaGreatDoor.tree_no (by rfl) ?_)); (try simp only [Act.put, List.setIfInBounds_toArray, List.set_cons_zero, List.set_cons_succ]))
      ((first | ((refine Go.Proofs.YtljlpkeddbfpaaaGreatDoor.tree_yes (v := ?_) (by rfl) ?_ ?_); rotate_left; (focus (intro w hSw; (try dsimp only at hSw); go_simp; try (with_reducible rfl)))) | (refine Go.Proofs.YtljlpkeddbfpaaaGreatDoor.tree_no (by rfl) ?_)); (try simp only [Act.put, List.setIfInBounds_toArray, List.set_cons_zero, List.set_cons_succ]))
      ((refine Go.Proofs.YtljlpkeddbfpaaaGreatDoor.tree_step (fun K hK => ?_)); (first | (first | (go_at_call 25; refine HSt.out.mono ?_; rintro e w4 ⟨rfl, hB4⟩; have S3 := H0.out.drew.below hB4; have k4 := (And.intro (fl_cells S3.right).1 (fl_cells S3.right).2.1); have k4a := fun o => (And.intro (fl_cells (S3.old o).right).1 (fl_cells (S3.old o).right).2.1); have S3 := Lib.hid S3; have hB4 := Lib.hid hB4) | (go_at_call 25; refine HStb.out.mono ?_; rintro e w4 ⟨rfl, hB4⟩; have S3b := Hb.out.below hB4; have k4 := (And.intro (fl_cells S3b.right.right).1 (fl_cells S3b.right.right).2.1); obtain ⟨z0, z1, z2, z3⟩ := info_cells S3b; have f0b : ∀ i, w4.frozen? ⟨w.heap.size, i, none⟩ = false := (fun i => free_at S3b.get i); have S3c := (((S3b.set (i := 0) (.int .i64 x.kind)).set (i := 1) (.int .i64 (sz : Int))).set (i := 2) (.int .i64 x.names)).set (i := 3) (.int .i64 x.holds); have kset := (And.intro (fl_cells (Sat.right (Sat.right S3c))).1 (fl_cells (Sat.right (Sat.right S3c))).2.1); have S3b := Lib.hid S3b; have hB4 := Lib.hid hB4; have Kset := Lib.hid kset; clear S3c kset)) | (go_simp; (first | (go_at_call 25; refine HSt.out.mono ?_; rintro e w4 ⟨rfl, hB4⟩; have S3 := H0.out.drew.below hB4; have k4 := (And.intro (fl_cells S3.right).1 (fl_cells S3.right).2.1); have k4a := fun o => (And.intro (fl_cells (S3.old o).right).1 (fl_cells (S3.old o).right).2.1); have S3 := Lib.hid S3; have hB4 := Lib.hid hB4) | (go_at_call 25; refine HStb.out.mono ?_; rintro e w4 ⟨rfl, hB4⟩; have S3b := Hb.out.below hB4; have k4 := (And.intro (fl_cells S3b.right.right).1 (fl_cells S3b.right.right).2.1); obtain ⟨z0, z1, z2, z3⟩ := info_cells S3b; have f0b : ∀ i, w4.frozen? ⟨w.heap.size, i, none⟩ = false := (fun i => free_at S3b.get i); have S3c := (((S3b.set (i := 0) (.int .i64 x.kind)).set (i := 1) (.int .i64 (sz : Int))).set (i := 2) (.int .i64 x.names)).set (i := 3) (.int .i64 x.holds); have kset := (And.intro (fl_cells (Sat.right (Sat.right S3c))).1 (fl_cells (Sat.right (Sat.right S3c))).2.1); have S3b := Lib.hid S3b; have hB4 := Lib.hid hB4; have Kset := Lib.hid kset; clear S3c kset)); (try go_wp2_with fail)) | go_simp); (refine hK.out _ _ ?_ (fun hHeld => ?_)); (focus ((try dsimp only); (first | done | (first | with_reducible exact ⟨d0', d1'⟩ | with_reducible exact k4 | with_reducible exact k4a _ | with_reducible exact ⟨y0, y1⟩ | with_reducible exact Kset.out)))); clear hK K; (try simp only [Act.put, List.setIfInBounds_toArray, List.set_cons_zero, List.set_cons_succ]))
      ((refine Go.Proofs.YtljlpkeddbfpaaaGreatDoor.tree_step (fun K hK => ?_)); (first | (first | (go_at_call 25; refine HSt.out.mono ?_; rintro e w4 ⟨rfl, hB4⟩; have S3 := H0.out.drew.below hB4; have k4 := (And.intro (fl_cells S3.right).1 (fl_cells S3.right).2.1); have k4a := fun o => (And.intro (fl_cells (S3.old o).right).1 (fl_cells (S3.old o).right).2.1); have S3 := Lib.hid S3; have hB4 := Lib.hid hB4) | (go_at_call 25; refine HStb.out.mono ?_; rintro e w4 ⟨rfl, hB4⟩; have S3b := Hb.out.below hB4; have k4 := (And.intro (fl_cells S3b.right.right).1 (fl_cells S3b.right.right).2.1); obtain ⟨z0, z1, z2, z3⟩ := info_cells S3b; have f0b : ∀ i, w4.frozen? ⟨w.heap.size, i, none⟩ = false := (fun i => free_at S3b.get i); have S3c := (((S3b.set (i := 0) (.int .i64 x.kind)).set (i := 1) (.int .i64 (sz : Int))).set (i := 2) (.int .i64 x.names)).set (i := 3) (.int .i64 x.holds); have kset := (And.intro (fl_cells (Sat.right (Sat.right S3c))).1 (fl_cells (Sat.right (Sat.right S3c))).2.1); have S3b := Lib.hid S3b; have hB4 := Lib.hid hB4; have Kset := Lib.hid kset; clear S3c kset)) | (go_simp; (first | (go_at_call 25; refine HSt.out.mono ?_; rintro e w4 ⟨rfl, hB4⟩; have S3 := H0.out.drew.below hB4; have k4 := (And.intro (fl_cells S3.right).1 (fl_cells S3.right).2.1); have k4a := fun o => (And.intro (fl_cells (S3.old o).right).1 (fl_cells (S3.old o).right).2.1); have S3 := Lib.hid S3; have hB4 := Lib.hid hB4) | (go_at_call 25; refine HStb.out.mono ?_; rintro e w4 ⟨rfl, hB4⟩; have S3b := Hb.out.below hB4; have k4 := (And.intro (fl_cells S3b.right.right).1 (fl_cells S3b.right.right).2.1); obtain ⟨z0, z1, z2, z3⟩ := info_cells S3b; have f0b : ∀ i, w4.frozen? ⟨w.heap.size, i, none⟩ = false := (fun i => free_at S3b.get i); have S3c := (((S3b.set (i := 0) (.int .i64 x.kind)).set (i := 1) (.int .i64 (sz : Int))).set (i := 2) (.int .i64 x.names)).set (i := 3) (.int .i64 x.holds); have kset := (And.intro (fl_cells (Sat.right (Sat.right S3c))).1 (fl_cells (Sat.right (Sat.right S3c))).2.1); have S3b := Lib.hid S3b; have hB4 := Lib.hid hB4; have Kset := Lib.hid kset; clear S3c kset)); (try go_wp2_with fail)) | go_simp); (refine hK.out _ _ ?_ (fun hHeld => ?_)); (focus ((try dsimp only); (first | done | (first | with_reducible exact ⟨d0', d1'⟩ | with_reducible exact k4 | with_reducible exact k4a _ | with_reducible exact ⟨y0, y1⟩ | with_reducible exact Kset.out)))); clear hK K; (try simp only [Act.put, List.setIfInBounds_toArray, List.set_cons_zero, List.set_cons_succ]))
      ((first | ((refine Go.Proofs.YtljlpkeddbfpaaaGreatDoor.tree_yes (v := ?_) (by rfl) ?_ ?_); rotate_left; (focus (intro w hSw; (try dsimp only at hSw); go_simp; try (with_reducible rfl)))) | (refine Go.Proofs.YtljlpkeddbfpaaaGreatDoor.tree_no (by rfl) ?_)); (try simp only [Act.put, List.setIfInBounds_toArray, List.set_cons_zero, List.set_cons_succ]))
      refine Go.Proofs.YtljlpkeddbfpaaaGreatDoor.tree_done ?_
    rotate_left 1
    focus
      ((first | (first | (go_at_call 25; refine HSt.out.mono ?_; rintro e w4 ⟨rfl, hB4⟩; have S3 := H0.out.drew.below hB4; have k4 := (And.intro (fl_cells S3.right).1 (fl_cells S3.right).2.1); have k4a := fun o => (And.intro (fl_cells (S3.old o).right).1 (fl_cells (S3.old o).right).2.1); have S3 := Lib.hid S3; have hB4 := Lib.hid hB4) | (go_at_call 25; refine HStb.out.mono ?_; rintro e w4 ⟨rfl, hB4⟩; have S3b := Hb.out.below hB4; have k4 := (And.intro (fl_cells S3b.right.right).1 (fl_cells S3b.right.right).2.1); obtain ⟨z0, z1, z2, z3⟩ := info_cells S3b; have f0b : ∀ i, w4.frozen? ⟨w.heap.size, i, none⟩ = false := (fun i => free_at S3b.get i); have S3c := (((S3b.set (i := 0) (.int .i64 x.kind)).set (i := 1) (.int .i64 (sz : Int))).set (i := 2) (.int .i64 x.names)).set (i := 3) (.int .i64 x.holds); have kset := (And.intro (fl_cells (Sat.right (Sat.right S3c))).1 (fl_cells (Sat.right (Sat.right S3c))).2.1); have S3b := Lib.hid S3b; have hB4 := Lib.hid hB4; have Kset := Lib.hid kset; clear S3c kset)) | (go_simp; (first | (go_at_call 25; refine HSt.out.mono ?_; rintro e w4 ⟨rfl, hB4⟩; have S3 := H0.out.drew.below hB4; have k4 := (And.intro (fl_cells S3.right).1 (fl_cells S3.right).2.1); have k4a := fun o => (And.intro (fl_cells (S3.old o).right).1 (fl_cells (S3.old o).right).2.1); have S3 := Lib.hid S3; have hB4 := Lib.hid hB4) | (go_at_call 25; refine HStb.out.mono ?_; rintro e w4 ⟨rfl, hB4⟩; have S3b := Hb.out.below hB4; have k4 := (And.intro (fl_cells S3b.right.right).1 (fl_cells S3b.right.right).2.1); obtain ⟨z0, z1, z2, z3⟩ := info_cells S3b; have f0b : ∀ i, w4.frozen? ⟨w.heap.size, i, none⟩ = false := (fun i => free_at S3b.get i); have S3c := (((S3b.set (i := 0) (.int .i64 x.kind)).set (i := 1) (.int .i64 (sz : Int))).set (i := 2) (.int .i64 x.names)).set (i := 3) (.int .i64 x.holds); have kset := (And.intro (fl_cells (Sat.right (Sat.right S3c))).1 (fl_cells (Sat.right (Sat.right S3c))).2.1); have S3b := Lib.hid S3b; have hB4 := Lib.hid hB4; have Kset := Lib.hid kset; clear S3c kset)); (try go_wp2_with fail)) | go_simp); (refine hK.out _ _ ?_ (fun hHeld => ?_)); (focus ((try dsimp only); (first | done | (first | with_reducible exact ⟨d0', d1'⟩ | with_reducible exact k4 | with_reducible exact k4a _ | with_reducible exact ⟨y0, y1⟩ | with_reducible exact Kset.out)))); clear hK K; (try simp only [Act.put, List.setIfInBounds_toArray, List.set_cons_zero, List.set_cons_succ]))
      ((refine Go.Proofs.YtljlpkeddbfpaaaGreatDoor.tree_step (fun K hK => ?_)); (first | (first | (go_at_call 25; refine HSt.out.mono ?_; rintro e w4 ⟨rfl, hB4⟩; have S3 := H0.out.drew.below hB4; have k4 := (And.intro (fl_cells S3.right).1 (fl_cells S3.right).2.1); have k4a := fun o => (And.intro (fl_cells (S3.old o).right).1 (fl_cells (S3.old o).right).2.1); have S3 := Lib.hid S3; have hB4 := Lib.hid hB4) | (go_at_call 25; refine HStb.out.mono ?_; rintro e w4 ⟨rfl, hB4⟩; have S3b := Hb.out.below hB4; have k4 := (And.intro (fl_cells S3b.right.right).1 (fl_cells S3b.right.right).2.1); obtain ⟨z0, z1, z2, z3⟩ := info_cells S3b; have f0b : ∀ i, w4.frozen? ⟨w.heap.size, i, none⟩ = false := (fun i => free_at S3b.get i); have S3c := (((S3b.set (i := 0) (.int .i64 x.kind)).set (i := 1) (.int .i64 (sz : Int))).set (i := 2) (.int .i64 x.names)).set (i := 3) (.int .i64 x.holds); have kset := (And.intro (fl_cells (Sat.right (Sat.right S3c))).1 (fl_cells (Sat.right (Sat.right S3c))).2.1); have S3b := Lib.hid S3b; have hB4 := Lib.hid hB4; have Kset := Lib.hid kset; clear S3c kset)) | (go_simp; (first | (go_at_call 25; refine HSt.out.mono ?_; rintro e w4 ⟨rfl, hB4⟩; have S3 := H0.out.drew.below hB4; have k4 := (And.intro (fl_cells S3.right).1 (fl_cells S3.right).2.1); have k4a := fun o => (And.intro (fl_cells (S3.old o).right).1 (fl_cells (S3.old o).right).2.1); have S3 := Lib.hid S3; have hB4 := Lib.hid hB4) | (go_at_call 25; refine HStb.out.mono ?_; rintro e w4 ⟨rfl, hB4⟩; have S3b := Hb.out.below hB4; have k4 := (And.intro (fl_cells S3b.right.right).1 (fl_cells S3b.right.right).2.1); obtain ⟨z0, z1, z2, z3⟩ := info_cells S3b; have f0b : ∀ i, w4.frozen? ⟨w.heap.size, i, none⟩ = false := (fun i => free_at S3b.get i); have S3c := (((S3b.set (i := 0) (.int .i64 x.kind)).set (i := 1) (.int .i64 (sz : Int))).set (i := 2) (.int .i64 x.names)).set (i := 3) (.int .i64 x.holds); have kset := (And.intro (fl_cells (Sat.right (Sat.right S3c))).1 (fl_cells (Sat.right (Sat.right S3c))).2.1); have S3b := Lib.hid S3b; have hB4 := Lib.hid hB4; have Kset := Lib.hid kset; clear S3c kset)); (try go_wp2_with fail)) | go_simp); (refine hK.out _ _ ?_ (fun hHeld => ?_)); (focus ((try dsimp only); (first | done | (first | with_reducible exact ⟨d0', d1'⟩ | with_reducible exact k4 | with_reducible exact k4a _ | with_reducible exact ⟨y0, y1⟩ | with_reducible exact Kset.out)))); clear hK K; (try simp only [Act.put, List.setIfInBounds_toArray, List.set_cons_zero, List.set_cons_succ]))
      ((first | ((refine Go.Proofs.YtljlpkeddbfpaaaGreatDoor.tree_yes (v := ?_) (by rfl) ?_ ?_); rotate_left; (focus (intro w hSw; (try dsimp only at hSw); go_simp; try (with_reducible rfl)))) | (refine Go.Proofs.YtljlpkeddbfpaaaGreatDoor.tree_no (by rfl) ?_)); (try simp only [Act.put, List.setIfInBounds_toArray, List.set_cons_zero, List.set_cons_succ]))
      ((first | ((refine Go.Proofs.YtljlpkeddbfpaaaGreatDoor.tree_yes (v := ?_) (by rfl) ?_ ?_); rotate_left; (focus (intro w hSw; (try dsimp only at hSw); go_simp; try (with_reducible rfl)))) | (refine Go.Proofs.YtljlpkeddbfpaaaGreatDoor.tree_no (by rfl) ?_)); (try simp only [Act.put, List.setIfInBounds_toArray, List.set_cons_zero, List.set_cons_succ]))
      ((first | ((refine Go.Proofs.YtljlpkeddbfpaaaGreatDoor.tree_yes (v := ?_) (by rfl) ?_ ?_); rotate_left; (focus (intro w hSw; (try dsimp only at hSw); go_simp; try (with_reducible rfl)))) | (refine Go.Proofs.YtljlpkeddbfpaaaGreatDoor.tree_no (by rfl) ?_)); (try simp only [Act.put, List.setIfInBounds_toArray, List.set_cons_zero, List.set_cons_succ]))
      ((refine Go.Proofs.YtljlpkeddbfpaaaGreatDoor.tree_step (fun K hK => ?_)); (first | (first | (go_at_call 25; refine HSt.out.mono ?_; rintro e w4 ⟨rfl, hB4⟩; have S3 := H0.out.drew.below hB4; have k4 := (And.intro (fl_cells S3.right).1 (fl_cells S3.right).2.1); have k4a := fun o => (And.intro (fl_cells (S3.old o).right).1 (fl_cells (S3.old o).right).2.1); have S3 := Lib.hid S3; have hB4 := Lib.hid hB4) | (go_at_call 25; refine HStb.out.mono ?_; rintro e w4 ⟨rfl, hB4⟩; have S3b := Hb.out.below hB4; have k4 := (And.intro (fl_cells S3b.right.right).1 (fl_cells S3b.right.right).2.1); obtain ⟨z0, z1, z2, z3⟩ := info_cells S3b; have f0b : ∀ i, w4.frozen? ⟨w.heap.size, i, none⟩ = false := (fun i => free_at S3b.get i); have S3c := (((S3b.set (i := 0) (.int .i64 x.kind)).set (i := 1) (.int .i64 (sz : Int))).set (i := 2) (.int .i64 x.names)).set (i := 3) (.int .i64 x.holds); have kset := (And.intro (fl_cells (Sat.right (Sat.right S3c))).1 (fl_cells (Sat.right (Sat.right S3c))).2.1); have S3b := Lib.hid S3b; have hB4 := Lib.hid hB4; have Kset := Lib.hid kset; clear S3c kset)) | (go_simp; (first | (go_at_call 25; refine HSt.out.mono ?_; rintro e w4 ⟨rfl, hB4⟩; have S3 := H0.out.drew.below hB4; have k4 := (And.intro (fl_cells S3.right).1 (fl_cells S3.right).2.1); have k4a := fun o => (And.intro (fl_cells (S3.old o).right).1 (fl_cells (S3.old o).right).2.1); have S3 := Lib.hid S3; have hB4 := Lib.hid hB4) | (go_at_call 25; refine HStb.out.mono ?_; rintro e w4 ⟨rfl, hB4⟩; have S3b := Hb.out.below hB4; have k4 := (And.intro (fl_cells S3b.right.right).1 (fl_cells S3b.right.right).2.1); obtain ⟨z0, z1, z2, z3⟩ := info_cells S3b; have f0b : ∀ i, w4.frozen? ⟨w.heap.size, i, none⟩ = false := (fun i => free_at S3b.get i); have S3c := (((S3b.set (i := 0) (.int .i64 x.kind)).set (i := 1) (.int .i64 (sz : Int))).set (i := 2) (.int .i64 x.names)).set (i := 3) (.int .i64 x.holds); have kset := (And.intro (fl_cells (Sat.right (Sat.right S3c))).1 (fl_cells (Sat.right (Sat.right S3c))).2.1); have S3b := Lib.hid S3b; have hB4 := Lib.hid hB4; have Kset := Lib.hid kset; clear S3c kset)); (try go_wp2_with fail)) | go_simp); (refine hK.out _ _ ?_ (fun hHeld => ?_)); (focus ((try dsimp only); (first | done | (first | with_reducible exact ⟨d0', d1'⟩ | with_reducible exact k4 | with_reducible exact k4a _ | with_reducible exact ⟨y0, y1⟩ | with_reducible exact Kset.out)))); clear hK K; (try simp only [Act.put, List.setIfInBounds_toArray, List.set_cons_zero, List.set_cons_succ]))
      ((first | ((refine Go.Proofs.YtljlpkeddbfpaaaGreatDoor.tree_yes (v := ?_) (by rfl) ?_ ?_); rotate_left; (focus (intro w hSw; (try dsimp only at hSw); go_simp; try (with_reducible rfl)))) | (refine Go.Proofs.YtljlpkeddbfpaaaGreatDoor.tree_no (by rfl) ?_)); (try simp only [Act.put, List.setIfInBounds_toArray, List.set_cons_zero, List.set_cons_succ]))
      refine Go.Proofs.YtljlpkeddbfpaaaGreatDoor.tree_done ?_
    all_goals
      first
      | (have R3 := Ran.new (Below.trans (Ran.drewN (Below.refl 0 w) 1) (below_ran hB4.out)) (infoO x.kind (sz : Int) x.names x.holds); have S3i := S3.out.alloc (infoO x.kind (sz : Int) x.names x.holds); obtain ⟨w6, hw6⟩ : ∃ w6, w6 = w4.alloc (infoO x.kind (sz : Int) x.names x.holds) := ⟨_, rfl⟩; obtain ⟨ib, hib⟩ : ∃ ib, ib = w4.heap.size := ⟨_, rfl⟩; rw [← hw6] at R3 S3i ⊢; rw [← hib] at S3i ⊢)
      | (have R3 := Ran.set (Ran.set (Ran.set (Ran.set (Below.trans (Ran.drewN (Ran.new (Below.refl 0 w) (infoO 0 0 0 0)) 1) (below_ran hB4.out)) ⟨w.heap.size, 0, none⟩ (.int .i64 x.kind)) ⟨w.heap.size, 1, none⟩ (.int .i64 (sz : Int))) ⟨w.heap.size, 2, none⟩ (.int .i64 x.names)) ⟨w.heap.size, 3, none⟩ (.int .i64 x.holds); have S3i := (((S3b.out.set (i := 0) (.int .i64 x.kind)).set (i := 1) (.int .i64 (sz : Int))).set (i := 2) (.int .i64 x.names)).set (i := 3) (.int .i64 x.holds); obtain ⟨w6, hw6⟩ : ∃ w6, w6 = (((w4.setCell ⟨w.heap.size, 0, none⟩ (.int .i64 x.kind)).setCell ⟨w.heap.size, 1, none⟩ (.int .i64 (sz : Int))).setCell ⟨w.heap.size, 2, none⟩ (.int .i64 x.names)).setCell ⟨w.heap.size, 3, none⟩ (.int .i64 x.holds) := ⟨_, rfl⟩; obtain ⟨ib, hib⟩ : ∃ ib, ib = w.heap.size := ⟨_, rfl⟩; rw [← hw6] at R3 S3i ⊢; rw [← hib] at S3i ⊢)
    all_goals
      have S3i : Sat w6 (pts ib (infoO x.kind (sz : Int) x.names x.holds) * (fsHp fb mb F * (pts xb (flO fb n a ⟨mr, mw, true⟩) * R))) := S3i
      clear hw6 hib
      obtain ⟨r0, r1, r2, r3⟩ := info_cells S3i
      have S3x := S3i.right.perm (show _ = pts xb (flO fb n a ⟨mr, mw, true⟩) * (fsHp fb mb F * R) by ac_rfl)
      have f0 : ∀ i, w6.frozen? ⟨xb, i, none⟩ = false := fun i => free_at S3x.get i
      clear d0 d1 d2 d3 d4 d5
      obtain ⟨d0, d1, d2, d3, d4, d5⟩ := fl_cells S3x
      have S4 := (S3x.set (i := 2) (.int .i64 (sz : Int))).perm (show pts xb (flO fb n (sz : Int) ⟨mr, mw, true⟩) * (fsHp fb mb F * R) = fsHp fb mb F * (pts xb (flO fb n (sz : Int) ⟨mr, mw, true⟩) * R) by ac_rfl)
      have R4 := Lib.hid (Ran.set R3 ⟨xb, 2, none⟩ (.int .i64 (sz : Int)))
      have S4 : Hid (Sat (w6.setCell ⟨xb, 2, none⟩ (.int .i64 (sz : Int))) (fsHp fb mb F * (pts xb (flO fb n (sz : Int) ⟨mr, mw, true⟩) * R))) := Lib.hid S4
      clear S3i S3x R3 hB4 HSt HStb Hb H0
      go_upto_region 4 with fail
      clear d0 d1 d2 d3 d4 d5 r0 r1 r2 r3 f0
      obtain ⟨w7, hw7⟩ : ∃ w7, w7 = w6.setCell ⟨xb, 2, none⟩ (.int .i64 (sz : Int)) := ⟨_, rfl⟩
      have S4 := S4.out
      rw [← hw7] at S4 R4 ⊢
      clear hw7
      obtain ⟨d0, d1, d2, d3, d4, d5⟩ := fl_cells S4.right
      have HW := Write_calls fb mb F n sz x d hk (by omega) (by omega) Hs.out Hx.out H2.out Hu.out Hr.out _ (pts xb (flO fb n (sz : Int) ⟨mr, mw, true⟩) * R) S4.drew
      rw [← Hen.out, ← HF'.out] at HW
      have HW := Lib.hid HW
      obtain ⟨d0', d1', d2', -⟩ := fl_cells S4.drew.right
      have haI : (sz : Int) ≤ 1000000000 := by omega
      have haI0 : (0 : Int) ≤ (sz : Int) := by omega
      have S4 := Lib.hid S4
      refine Go.Proofs.YtljlpkeddbfpaaaGreatDoor.region_plan (S := (fun w' => w'.cell? ⟨xb, 0, none⟩ = some (pp fb) ∧ w'.cell? ⟨xb, 1, none⟩ = some (.int .i64 n) ∧ w'.cell? ⟨xb, 2, none⟩ = some (.int .i64 (sz : Int)))) [(0, true), (1, true), (2, true), (3, true), (4, true), (5, true), (6, true), (7, true), (8, true), (9, true), (10, true), (11, true), (12, true), (13, false), (14, true)] (by kernel_rfl) (by kernel_rfl) (by kernel_rfl) ?_ ?_
      · ((try dsimp only); (first | done | (first | exact ⟨d0', d1', d2'⟩ | exact K5)))
      simp only [Go.Proofs.YtljlpkeddbfpaaaGreatDoor.planOps, List.map_cons, List.map_nil, List.getElem?_toArray, List.getElem?_cons_zero, List.getElem?_cons_succ]
      repeat (first
        | ((refine Go.Proofs.YtljlpkeddbfpaaaGreatDoor.plan_yes (v := ?_) (by rfl) ?_ ?_); rotate_left; (focus (intro w hSw; (try dsimp only at hSw); go_simp; try (with_reducible rfl))); (try simp only [Act.put, List.setIfInBounds_toArray, List.set_cons_zero, List.set_cons_succ]))
        | ((refine Go.Proofs.YtljlpkeddbfpaaaGreatDoor.plan_no (by rfl) ?_); (try simp only [Act.put, List.setIfInBounds_toArray, List.set_cons_zero, List.set_cons_succ]))
        | ((refine Go.Proofs.YtljlpkeddbfpaaaGreatDoor.plan_step (fun K hK => ?_)); (first | ((go_at_call 14; refine HW.out.mono ?_; rintro e w5 ⟨⟨rfl, S5⟩, R5⟩; have K5 := (And.intro (fl_cells S5.right).1 (And.intro (fl_cells S5.right).2.1 (fl_cells S5.right).2.2.1)))) | (go_simp; ((go_at_call 14; refine HW.out.mono ?_; rintro e w5 ⟨⟨rfl, S5⟩, R5⟩; have K5 := (And.intro (fl_cells S5.right).1 (And.intro (fl_cells S5.right).2.1 (fl_cells S5.right).2.2.1)))); (try go_wp2_with fail)) | go_simp); (refine hK.out _ _ ?_ (fun hHeld => ?_)); (focus ((try dsimp only); (first | done | (first | exact ⟨d0', d1', d2'⟩ | exact K5)))); clear hK K; (try simp only [Act.put, List.setIfInBounds_toArray, List.set_cons_zero, List.set_cons_succ])))
      refine Go.Proofs.YtljlpkeddbfpaaaGreatDoor.plan_done ?_
      have R5 := Lib.hid (Below.trans (Ran.drewN R4.out 1) R5)
      clear d0 d1 d2 d3 d4 d5 d0' d1' d2' K5 HW S4
      obtain ⟨d0, d1, d2, d3, d4, d5⟩ := fl_cells S5.right
      by_cases he : en = 0
      · have S5' := S5.perm (show _ = pts xb (flO fb n (sz : Int) ⟨mr, mw, true⟩) * (fsHp fb mb F' * R) by ac_rfl)
        have f0 : ∀ i, w5.frozen? ⟨xb, i, none⟩ = false := fun i => free_at S5'.get i
        have S6 := Lib.hid ((S5'.set (i := 2) (.int .i64 ((sz : Int) + (d.size : Int)))).perm (show pts xb (flO fb n ((sz : Int) + (d.size : Int)) ⟨mr, mw, true⟩) * (fsHp fb mb F' * R) = fsHp fb mb F' * (pts xb (flO fb n ((sz : Int) + (d.size : Int)) ⟨mr, mw, true⟩) * R) by ac_rfl))
        subst he
        clear S5 S5'
        go_wp2_with fail
        go_ret
        exact ⟨⟨rfl, S6.out⟩, Ran.set R5.out _ _⟩
      · have heb : (en == 0) = false := by simp [he]
        have S5 := Lib.hid S5
        go_wp2_with fail
        go_ret
        exact ⟨⟨rfl, S5.out⟩, R5.out⟩
end Go.Proofs.YtljlpkeddbfpaaaGreatDoor.Hd
