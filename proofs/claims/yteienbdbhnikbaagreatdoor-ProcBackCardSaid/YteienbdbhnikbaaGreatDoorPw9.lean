/- HandlesPlays, part 9 of 31: the texts HdH HdI HdJ, joined by a program. -/
import Derived.Test.YteienbdbhnikbaaGreatDoorPw8
namespace Go.Proofs.YteienbdbhnikbaaGreatDoor.Hd
open Go.RowKit Go.Maps Go.Proofs.YteienbdbhnikbaaGreatDoor Go.Proofs.YteienbdbhnikbaaGreatDoor.Hp
set_option linter.unusedVariables false
attribute [local go_sem] Oper.semAt_some

/-- Where a file's write begins. -/
def atW (x : Nd) (a : Nat) (m : Md) : Nat := if m.m = true then x.text.size else a
set_option maxRecDepth 100000 in
set_option maxHeartbeats 8000000 in
theorem fwrite_calls (xb fb mb : Nat) (F : Fs) (n : Int) (a : Nat) (m : Md) (x : Nd) (d : ByteArray) (hk : I64 n) (ha : a ≤ 10000000) (hd : d.size ≤ 10000000) (hs : FsOk F) (hx : find F.L n = some x) (h2 : x.kind = 2) (hkid : x.kids = none) (hu : 0 ≤ F.used ∧ F.used ≤ 1000000000) (hr : 0 ≤ F.room ∧ F.room ≤ 1000000000) (w : World) (R : Hp)
    (h : Sat w (fsHp fb mb F * (pts xb (flO fb n a m) * R))) :
    Calls Tryz.prog 186 #[pp xb, .string d] w fun e w' => (e = .returned (.int .i64 (writeP F n x (atW x a m) d).1) ∧
      Sat w' (fsHp fb mb (writeP F n x (atW x a m) d).2 * (pts xb (flO fb n (if (writeP F n x (atW x a m) d).1 = 0 then ((atW x a m : Nat) : Int) + (d.size : Int) else ((atW x a m : Nat) : Int)) m) * R))) ∧ Ran w w' := by
  obtain ⟨mr, mw, mm⟩ := m
  have Hs := Lib.hid hs
  have Hx := Lib.hid hx
  have H2 := Lib.hid h2
  have Hu := Lib.hid hu
  have Hr := Lib.hid hr
  have h1 := (hs n x hx).text
  have hdI : (d.size : Int) ≤ 10000000 := by omega
  have hd0 : (0 : Int) ≤ (d.size : Int) := by omega
  cases mm with
  | false =>
    show Calls _ _ _ _ (fun e w' => (e = .returned (.int .i64 (writeP F n x a d).1) ∧ Sat w' (fsHp fb mb (writeP F n x a d).2 * (pts xb (flO fb n (if (writeP F n x a d).1 = 0 then (a : Int) + (d.size : Int) else (a : Int)) ⟨mr, mw, false⟩) * R))) ∧ Ran w w')
    obtain ⟨en, hen⟩ : ∃ en, en = (writeP F n x a d).1 := ⟨_, rfl⟩
    obtain ⟨F', hF'⟩ : ∃ F', F' = (writeP F n x a d).2 := ⟨_, rfl⟩
    rw [← hen, ← hF']
    have Hen := Lib.hid hen
    have HF' := Lib.hid hF'
    clear hen hF'
    have S4 := h
    have R4 := Lib.hid (Below.refl 0 w : Ran w w)
    clear h hs hx h2 hu hr hkid
    go_enter Tryz.func186, Tryz.ntmps186
    have c := fl_cells S4.right
    obtain ⟨d0, d1, d2, d3, d4, d5⟩ := c
    have HW := Write_calls fb mb F n a x d hk (by omega) (by omega) Hs.out Hx.out H2.out Hu.out Hr.out _ (pts xb (flO fb n (a : Int) ⟨mr, mw, false⟩) * R) S4.drew
    rw [← Hen.out, ← HF'.out] at HW
    have HW := Lib.hid HW
    obtain ⟨d0', d1', d2', -⟩ := fl_cells S4.drew.right
    have haI : (a : Int) ≤ 1000000000 := by omega
    have haI0 : (0 : Int) ≤ (a : Int) := by omega
    have S4 := Lib.hid S4
    go_upto_region 4 with fail
    refine region_plan (S := (fun w' => w'.cell? ⟨xb, 0, none⟩ = some (pp fb) ∧ w'.cell? ⟨xb, 1, none⟩ = some (.int .i64 n) ∧ w'.cell? ⟨xb, 2, none⟩ = some (.int .i64 (a : Int)))) [(0, true), (1, true), (2, true), (3, true), (4, true), (5, true), (6, true), (7, true), (8, true), (9, true), (10, true), (11, true), (12, true), (13, false), (14, true)] (by kernel_rfl) (by kernel_rfl) (by kernel_rfl) ?_ ?_
    · ((try dsimp only); (first | done | (first | exact ⟨d0', d1', d2'⟩ | exact K5)))
    simp only [planOps, List.map_cons, List.map_nil, List.getElem?_toArray, List.getElem?_cons_zero, List.getElem?_cons_succ]
    repeat (first
      | ((refine plan_yes (v := ?_) (by rfl) ?_ ?_); rotate_left; (focus (intro w hSw; (try dsimp only at hSw); go_simp; try (with_reducible rfl))); (try simp only [Act.put, List.setIfInBounds_toArray, List.set_cons_zero, List.set_cons_succ]))
      | ((refine plan_no (by rfl) ?_); (try simp only [Act.put, List.setIfInBounds_toArray, List.set_cons_zero, List.set_cons_succ]))
      | ((refine plan_step (fun K hK => ?_)); (first | (go_simp; ((go_at_call 187; refine HW.out.mono ?_; rintro e w5 ⟨⟨rfl, S5⟩, R5⟩; have K5 := (And.intro (fl_cells S5.right).1 (And.intro (fl_cells S5.right).2.1 (fl_cells S5.right).2.2.1)))); (try go_wp2_with fail)) | go_simp); (refine hK.out _ _ ?_ (fun hHeld => ?_)); (focus ((try dsimp only); (first | done | (first | exact ⟨d0', d1', d2'⟩ | exact K5)))); clear hK K; (try simp only [Act.put, List.setIfInBounds_toArray, List.set_cons_zero, List.set_cons_succ])))
    refine plan_done ?_
    have R5 := Lib.hid (Below.trans (Ran.drewN R4.out 1) R5)
    clear d0 d1 d2 d3 d4 d5 d0' d1' d2' K5 HW S4
    obtain ⟨d0, d1, d2, d3, d4, d5⟩ := fl_cells S5.right
    by_cases he : en = 0
    · have S5' := S5.perm (show _ = pts xb (flO fb n (a : Int) ⟨mr, mw, false⟩) * (fsHp fb mb F' * R) by ac_rfl)
      have f0 : ∀ i, w5.frozen? ⟨xb, i, none⟩ = false := fun i => free_at S5'.get i
      have S6 := Lib.hid ((S5'.set (i := 2) (.int .i64 ((a : Int) + (d.size : Int)))).perm (show pts xb (flO fb n ((a : Int) + (d.size : Int)) ⟨mr, mw, false⟩) * (fsHp fb mb F' * R) = fsHp fb mb F' * (pts xb (flO fb n ((a : Int) + (d.size : Int)) ⟨mr, mw, false⟩) * R) by ac_rfl))
      subst he
      clear S5 S5'
      go_wp2_with fail
      go_ret
      exact ⟨⟨rfl, S6.out⟩, Ran.set R5.out _ _⟩
    · have heb : (en == 0) = false := by simp [he]
      have S5 := Lib.hid S5
      go_wp2_with fail
      go_ret
      exact ⟨⟨rfl, S5.out⟩, R5.out⟩
  | true =>
    obtain ⟨sz, hsz⟩ : ∃ s, s = x.text.size := ⟨_, rfl⟩
    show Calls _ _ _ _ (fun e w' => (e = .returned (.int .i64 (writeP F n x x.text.size d).1) ∧ Sat w' (fsHp fb mb (writeP F n x x.text.size d).2 * (pts xb (flO fb n (if (writeP F n x x.text.size d).1 = 0 then (x.text.size : Int) + (d.size : Int) else (x.text.size : Int)) ⟨mr, mw, true⟩) * R))) ∧ Ran w w')
    have HSt := Stat_calls fb mb F n hk (hs.small n) w.drew _ h.drew
    unfold statE statV at HSt
    rw [hx] at HSt
    have hsn : sizeN x = (x.text.size : Int) := by unfold sizeN; rw [hkid]; simp [ksz]
    dsimp only at HSt
    rw [hsn, ← hsz] at HSt
    rw [← hsz] at h1 ⊢
    obtain ⟨en, hen⟩ : ∃ en, en = (writeP F n x sz d).1 := ⟨_, rfl⟩
    obtain ⟨F', hF'⟩ : ∃ F', F' = (writeP F n x sz d).2 := ⟨_, rfl⟩
    rw [← hen, ← hF']
    have Hen := Lib.hid hen
    have HF' := Lib.hid hF'
    clear hen hF'
    have HSt := Lib.hid HSt
    have H0 := Lib.hid h
    obtain ⟨d0, d1, d2, d3, d4, d5⟩ := fl_cells h.right
    obtain ⟨d0', d1', -⟩ := fl_cells h.right.drew
    have hb := (h.alloc (infoO 0 0 0 0)).drew
    have Hsz := Lib.hid hsz
    obtain ⟨y0, y1, -⟩ := fl_cells hb.right.right
    have HStb := Stat_calls fb mb F n hk (hs.small n) _ _ (hb.perm (show _ = fsHp fb mb F * (pts w.heap.size (infoO 0 0 0 0) * (pts xb (flO fb n a ⟨mr, mw, true⟩) * R)) by ac_rfl))
    unfold statE statV at HStb
    rw [hx] at HStb
    dsimp only at HStb
    rw [hsn, ← hsz] at HStb
    have HStb := Lib.hid HStb
    have Hb := Lib.hid hb
    clear h hs hx h2 hu hr hkid hsn hb hsz
    go_enter Tryz.func186, Tryz.ntmps186
    go_wp2_with fail
    refine region_tree (S := (fun w' => w'.cell? ⟨xb, 0, none⟩ = some (pp fb) ∧ w'.cell? ⟨xb, 1, none⟩ = some (.int .i64 n))) (.take 0 (.take 1 (.take 2 (.take 3 (.take 4 (.take 5 (.take 6 (.take 7 (.fork 8 (.take 9 (.take 10 (.take 11 (.step 12 (.step 13 (.take 14 (.nil))))))) 12 (.step 8 (.take 9 (.take 10 (.take 11 (.step 13 (.take 14 (.nil)))))))))))))))) (by kernel_rfl) (by kernel_rfl) (by kernel_rfl) ?_ ?_
    · ((try dsimp only); (first | done | (first | with_reducible exact ⟨d0', d1'⟩ | with_reducible exact k4 | with_reducible exact k4a _ | with_reducible exact ⟨y0, y1⟩ | with_reducible exact Kset.out)))
    simp only [Plan.ops, List.getElem?_toArray, List.getElem?_cons_zero, List.getElem?_cons_succ]
    ((first | ((refine tree_yes (v := ?_) (by rfl) ?_ ?_); rotate_left; (focus (intro w hSw; (try dsimp only at hSw); go_simp; try (with_reducible rfl)))) | (refine tree_no (by rfl) ?_)); (try simp only [Act.put, List.setIfInBounds_toArray, List.set_cons_zero, List.set_cons_succ]))
    ((first | ((refine tree_yes (v := ?_) (by rfl) ?_ ?_); rotate_left; (focus (intro w hSw; (try dsimp only at hSw); go_simp; try (with_reducible rfl)))) | (refine tree_no (by rfl) ?_)); (try simp only [Act.put, List.setIfInBounds_toArray, List.set_cons_zero, List.set_cons_succ]))
    ((first | ((refine tree_yes (v := ?_) (by rfl) ?_ ?_); rotate_left; (focus (intro w hSw; (try dsimp only at hSw); go_simp; try (with_reducible rfl)))) | (refine tree_no (by rfl) ?_)); (try simp only [Act.put, List.setIfInBounds_toArray, List.set_cons_zero, List.set_cons_succ]))
    ((first | ((refine tree_yes (v := ?_) (by rfl) ?_ ?_); rotate_left; (focus (intro w hSw; (try dsimp only at hSw); go_simp; try (with_reducible rfl)))) | (refine tree_no (by rfl) ?_)); (try simp only [Act.put, List.setIfInBounds_toArray, List.set_cons_zero, List.set_cons_succ]))
    ((first | ((refine tree_yes (v := ?_) (by rfl) ?_ ?_); rotate_left; (focus (intro w hSw; (try dsimp only at hSw); go_simp; try (with_reducible rfl)))) | (refine tree_no (by rfl) ?_)); (try simp only [Act.put, List.setIfInBounds_toArray, List.set_cons_zero, List.set_cons_succ]))
    ((first | ((refine tree_yes (v := ?_) (by rfl) ?_ ?_); rotate_left; (focus (intro w hSw; (try dsimp only at hSw); go_simp; try (with_reducible rfl)))) | (refine tree_no (by rfl) ?_)); (try simp only [Act.put, List.setIfInBounds_toArray, List.set_cons_zero, List.set_cons_succ]))
    ((first | ((refine tree_yes (v := ?_) (by rfl) ?_ ?_); rotate_left; (focus (intro w hSw; (try dsimp only at hSw); go_simp; try (with_reducible rfl)))) | (refine tree_no (by rfl) ?_)); (try simp only [Act.put, List.setIfInBounds_toArray, List.set_cons_zero, List.set_cons_succ]))
    ((first | ((refine tree_yes (v := ?_) (by rfl) ?_ ?_); rotate_left; (focus (intro w hSw; (try dsimp only at hSw); go_simp; try (with_reducible rfl)))) | (refine tree_no (by rfl) ?_)); (try simp only [Act.put, List.setIfInBounds_toArray, List.set_cons_zero, List.set_cons_succ]))
    refine tree_fork (fun K hK => ?_) (fun K hK => ?_)
    focus
      ((first | (go_simp; (first | (go_at_call 22; refine HSt.out.mono ?_; rintro e w4 ⟨rfl, hB4⟩; have S3 := H0.out.drew.below hB4; have k4 := (And.intro (fl_cells S3.right).1 (fl_cells S3.right).2.1); have k4a := fun o => (And.intro (fl_cells (S3.old o).right).1 (fl_cells (S3.old o).right).2.1); have S3 := Lib.hid S3; have hB4 := Lib.hid hB4) | (go_at_call 22; refine HStb.out.mono ?_; rintro e w4 ⟨rfl, hB4⟩; have S3b := Hb.out.below hB4; have k4 := (And.intro (fl_cells S3b.right.right).1 (fl_cells S3b.right.right).2.1); obtain ⟨z0, z1, z2, z3⟩ := info_cells S3b; have f0b : ∀ i, w4.frozen? ⟨w.heap.size, i, none⟩ = false := (fun i => free_at S3b.get i); have S3c := (((S3b.set (i := 0) (.int .i64 x.kind)).set (i := 1) (.int .i64 (sz : Int))).set (i := 2) (.int .i64 x.names)).set (i := 3) (.int .i64 x.holds); have kset := (And.intro (fl_cells (Sat.right (Sat.right S3c))).1 (fl_cells (Sat.right (Sat.right S3c))).2.1); have S3b := Lib.hid S3b; have hB4 := Lib.hid hB4; have Kset := Lib.hid kset; clear S3c kset)); (try go_wp2_with fail)) | go_simp); (refine hK.out _ _ ?_ (fun hHeld => ?_)); (focus ((try dsimp only); (first | done | (first | with_reducible exact ⟨d0', d1'⟩ | with_reducible exact k4 | with_reducible exact k4a _ | with_reducible exact ⟨y0, y1⟩ | with_reducible exact Kset.out)))); clear hK K; (try simp only [Act.put, List.setIfInBounds_toArray, List.set_cons_zero, List.set_cons_succ]))
      ((first | ((refine tree_yes (v := ?_) (by rfl) ?_ ?_); rotate_left; (focus (intro w hSw; (try dsimp only at hSw); go_simp; try (with_reducible rfl)))) | (refine tree_no (by rfl) ?_)); (try simp only [Act.put, List.setIfInBounds_toArray, List.set_cons_zero, List.set_cons_succ]))
      ((first | ((refine tree_yes (v := ?_) (by rfl) ?_ ?_); rotate_left; (focus (intro w hSw; (try dsimp only at hSw); go_simp; try (with_reducible rfl)))) | (refine tree_no (by rfl) ?_)); (try simp only [Act.put, List.setIfInBounds_toArray, List.set_cons_zero, List.set_cons_succ]))
      ((first | ((refine tree_yes (v := ?_) (by rfl) ?_ ?_); rotate_left; (focus (intro w hSw; (try dsimp only at hSw); go_simp; try (with_reducible rfl)))) | (refine tree_no (by rfl) ?_)); (try simp only [Act.put, List.setIfInBounds_toArray, List.set_cons_zero, List.set_cons_succ]))
      ((refine tree_step (fun K hK => ?_)); (first | (go_simp; (first | (go_at_call 22; refine HSt.out.mono ?_; rintro e w4 ⟨rfl, hB4⟩; have S3 := H0.out.drew.below hB4; have k4 := (And.intro (fl_cells S3.right).1 (fl_cells S3.right).2.1); have k4a := fun o => (And.intro (fl_cells (S3.old o).right).1 (fl_cells (S3.old o).right).2.1); have S3 := Lib.hid S3; have hB4 := Lib.hid hB4) | (go_at_call 22; refine HStb.out.mono ?_; rintro e w4 ⟨rfl, hB4⟩; have S3b := Hb.out.below hB4; have k4 := (And.intro (fl_cells S3b.right.right).1 (fl_cells S3b.right.right).2.1); obtain ⟨z0, z1, z2, z3⟩ := info_cells S3b; have f0b : ∀ i, w4.frozen? ⟨w.heap.size, i, none⟩ = false := (fun i => free_at S3b.get i); have S3c := (((S3b.set (i := 0) (.int .i64 x.kind)).set (i := 1) (.int .i64 (sz : Int))).set (i := 2) (.int .i64 x.names)).set (i := 3) (.int .i64 x.holds); have kset := (And.intro (fl_cells (Sat.right (Sat.right S3c))).1 (fl_cells (Sat.right (Sat.right S3c))).2.1); have S3b := Lib.hid S3b; have hB4 := Lib.hid hB4; have Kset := Lib.hid kset; clear S3c kset)); (try go_wp2_with fail)) | go_simp); (refine hK.out _ _ ?_ (fun hHeld => ?_)); (focus ((try dsimp only); (first | done | (first | with_reducible exact ⟨d0', d1'⟩ | with_reducible exact k4 | with_reducible exact k4a _ | with_reducible exact ⟨y0, y1⟩ | with_reducible exact Kset.out)))); clear hK K; (try simp only [Act.put, List.setIfInBounds_toArray, List.set_cons_zero, List.set_cons_succ]))
      ((refine tree_step (fun K hK => ?_)); (first | (go_simp; (first | (go_at_call 22; refine HSt.out.mono ?_; rintro e w4 ⟨rfl, hB4⟩; have S3 := H0.out.drew.below hB4; have k4 := (And.intro (fl_cells S3.right).1 (fl_cells S3.right).2.1); have k4a := fun o => (And.intro (fl_cells (S3.old o).right).1 (fl_cells (S3.old o).right).2.1); have S3 := Lib.hid S3; have hB4 := Lib.hid hB4) | (go_at_call 22; refine HStb.out.mono ?_; rintro e w4 ⟨rfl, hB4⟩; have S3b := Hb.out.below hB4; have k4 := (And.intro (fl_cells S3b.right.right).1 (fl_cells S3b.right.right).2.1); obtain ⟨z0, z1, z2, z3⟩ := info_cells S3b; have f0b : ∀ i, w4.frozen? ⟨w.heap.size, i, none⟩ = false := (fun i => free_at S3b.get i); have S3c := (((S3b.set (i := 0) (.int .i64 x.kind)).set (i := 1) (.int .i64 (sz : Int))).set (i := 2) (.int .i64 x.names)).set (i := 3) (.int .i64 x.holds); have kset := (And.intro (fl_cells (Sat.right (Sat.right S3c))).1 (fl_cells (Sat.right (Sat.right S3c))).2.1); have S3b := Lib.hid S3b; have hB4 := Lib.hid hB4; have Kset := Lib.hid kset; clear S3c kset)); (try go_wp2_with fail)) | go_simp); (refine hK.out _ _ ?_ (fun hHeld => ?_)); (focus ((try dsimp only); (first | done | (first | with_reducible exact ⟨d0', d1'⟩ | with_reducible exact k4 | with_reducible exact k4a _ | with_reducible exact ⟨y0, y1⟩ | with_reducible exact Kset.out)))); clear hK K; (try simp only [Act.put, List.setIfInBounds_toArray, List.set_cons_zero, List.set_cons_succ]))
      ((first | ((refine tree_yes (v := ?_) (by rfl) ?_ ?_); rotate_left; (focus (intro w hSw; (try dsimp only at hSw); go_simp; try (with_reducible rfl)))) | (refine tree_no (by rfl) ?_)); (try simp only [Act.put, List.setIfInBounds_toArray, List.set_cons_zero, List.set_cons_succ]))
      refine tree_done ?_
    rotate_left 1
    focus
      ((first | (go_simp; (first | (go_at_call 22; refine HSt.out.mono ?_; rintro e w4 ⟨rfl, hB4⟩; have S3 := H0.out.drew.below hB4; have k4 := (And.intro (fl_cells S3.right).1 (fl_cells S3.right).2.1); have k4a := fun o => (And.intro (fl_cells (S3.old o).right).1 (fl_cells (S3.old o).right).2.1); have S3 := Lib.hid S3; have hB4 := Lib.hid hB4) | (go_at_call 22; refine HStb.out.mono ?_; rintro e w4 ⟨rfl, hB4⟩; have S3b := Hb.out.below hB4; have k4 := (And.intro (fl_cells S3b.right.right).1 (fl_cells S3b.right.right).2.1); obtain ⟨z0, z1, z2, z3⟩ := info_cells S3b; have f0b : ∀ i, w4.frozen? ⟨w.heap.size, i, none⟩ = false := (fun i => free_at S3b.get i); have S3c := (((S3b.set (i := 0) (.int .i64 x.kind)).set (i := 1) (.int .i64 (sz : Int))).set (i := 2) (.int .i64 x.names)).set (i := 3) (.int .i64 x.holds); have kset := (And.intro (fl_cells (Sat.right (Sat.right S3c))).1 (fl_cells (Sat.right (Sat.right S3c))).2.1); have S3b := Lib.hid S3b; have hB4 := Lib.hid hB4; have Kset := Lib.hid kset; clear S3c kset)); (try go_wp2_with fail)) | go_simp); (refine hK.out _ _ ?_ (fun hHeld => ?_)); (focus ((try dsimp only); (first | done | (first | with_reducible exact ⟨d0', d1'⟩ | with_reducible exact k4 | with_reducible exact k4a _ | with_reducible exact ⟨y0, y1⟩ | with_reducible exact Kset.out)))); clear hK K; (try simp only [Act.put, List.setIfInBounds_toArray, List.set_cons_zero, List.set_cons_succ]))
      ((refine tree_step (fun K hK => ?_)); (first | (go_simp; (first | (go_at_call 22; refine HSt.out.mono ?_; rintro e w4 ⟨rfl, hB4⟩; have S3 := H0.out.drew.below hB4; have k4 := (And.intro (fl_cells S3.right).1 (fl_cells S3.right).2.1); have k4a := fun o => (And.intro (fl_cells (S3.old o).right).1 (fl_cells (S3.old o).right).2.1); have S3 := Lib.hid S3; have hB4 := Lib.hid hB4) | (go_at_call 22; refine HStb.out.mono ?_; rintro e w4 ⟨rfl, hB4⟩; have S3b := Hb.out.below hB4; have k4 := (And.intro (fl_cells S3b.right.right).1 (fl_cells S3b.right.right).2.1); obtain ⟨z0, z1, z2, z3⟩ := info_cells S3b; have f0b : ∀ i, w4.frozen? ⟨w.heap.size, i, none⟩ = false := (fun i => free_at S3b.get i); have S3c := (((S3b.set (i := 0) (.int .i64 x.kind)).set (i := 1) (.int .i64 (sz : Int))).set (i := 2) (.int .i64 x.names)).set (i := 3) (.int .i64 x.holds); have kset := (And.intro (fl_cells (Sat.right (Sat.right S3c))).1 (fl_cells (Sat.right (Sat.right S3c))).2.1); have S3b := Lib.hid S3b; have hB4 := Lib.hid hB4; have Kset := Lib.hid kset; clear S3c kset)); (try go_wp2_with fail)) | go_simp); (refine hK.out _ _ ?_ (fun hHeld => ?_)); (focus ((try dsimp only); (first | done | (first | with_reducible exact ⟨d0', d1'⟩ | with_reducible exact k4 | with_reducible exact k4a _ | with_reducible exact ⟨y0, y1⟩ | with_reducible exact Kset.out)))); clear hK K; (try simp only [Act.put, List.setIfInBounds_toArray, List.set_cons_zero, List.set_cons_succ]))
      ((first | ((refine tree_yes (v := ?_) (by rfl) ?_ ?_); rotate_left; (focus (intro w hSw; (try dsimp only at hSw); go_simp; try (with_reducible rfl)))) | (refine tree_no (by rfl) ?_)); (try simp only [Act.put, List.setIfInBounds_toArray, List.set_cons_zero, List.set_cons_succ]))
      ((first | ((refine tree_yes (v := ?_) (by rfl) ?_ ?_); rotate_left; (focus (intro w hSw; (try dsimp only at hSw); go_simp; try (with_reducible rfl)))) | (refine tree_no (by rfl) ?_)); (try simp only [Act.put, List.setIfInBounds_toArray, List.set_cons_zero, List.set_cons_succ]))
      ((first | ((refine tree_yes (v := ?_) (by rfl) ?_ ?_); rotate_left; (focus (intro w hSw; (try dsimp only at hSw); go_simp; try (with_reducible rfl)))) | (refine tree_no (by rfl) ?_)); (try simp only [Act.put, List.setIfInBounds_toArray, List.set_cons_zero, List.set_cons_succ]))
      ((refine tree_step (fun K hK => ?_)); (first | (go_simp; (first | (go_at_call 22; refine HSt.out.mono ?_; rintro e w4 ⟨rfl, hB4⟩; have S3 := H0.out.drew.below hB4; have k4 := (And.intro (fl_cells S3.right).1 (fl_cells S3.right).2.1); have k4a := fun o => (And.intro (fl_cells (S3.old o).right).1 (fl_cells (S3.old o).right).2.1); have S3 := Lib.hid S3; have hB4 := Lib.hid hB4) | (go_at_call 22; refine HStb.out.mono ?_; rintro e w4 ⟨rfl, hB4⟩; have S3b := Hb.out.below hB4; have k4 := (And.intro (fl_cells S3b.right.right).1 (fl_cells S3b.right.right).2.1); obtain ⟨z0, z1, z2, z3⟩ := info_cells S3b; have f0b : ∀ i, w4.frozen? ⟨w.heap.size, i, none⟩ = false := (fun i => free_at S3b.get i); have S3c := (((S3b.set (i := 0) (.int .i64 x.kind)).set (i := 1) (.int .i64 (sz : Int))).set (i := 2) (.int .i64 x.names)).set (i := 3) (.int .i64 x.holds); have kset := (And.intro (fl_cells (Sat.right (Sat.right S3c))).1 (fl_cells (Sat.right (Sat.right S3c))).2.1); have S3b := Lib.hid S3b; have hB4 := Lib.hid hB4; have Kset := Lib.hid kset; clear S3c kset)); (try go_wp2_with fail)) | go_simp); (refine hK.out _ _ ?_ (fun hHeld => ?_)); (focus ((try dsimp only); (first | done | (first | with_reducible exact ⟨d0', d1'⟩ | with_reducible exact k4 | with_reducible exact k4a _ | with_reducible exact ⟨y0, y1⟩ | with_reducible exact Kset.out)))); clear hK K; (try simp only [Act.put, List.setIfInBounds_toArray, List.set_cons_zero, List.set_cons_succ]))
      ((first | ((refine tree_yes (v := ?_) (by rfl) ?_ ?_); rotate_left; (focus (intro w hSw; (try dsimp only at hSw); go_simp; try (with_reducible rfl)))) | (refine tree_no (by rfl) ?_)); (try simp only [Act.put, List.setIfInBounds_toArray, List.set_cons_zero, List.set_cons_succ]))
      refine tree_done ?_
    all_goals
      first
      | (have R3 := Ran.new (Below.trans (Ran.drewN (Below.refl 0 w) 1) (below_ran hB4.out)) (infoO x.kind (sz : Int) x.names x.holds); have S3i := S3.out.alloc (infoO x.kind (sz : Int) x.names x.holds); obtain ⟨w6, hw6⟩ : ∃ w6, w6 = w4.alloc (infoO x.kind (sz : Int) x.names x.holds) := ⟨_, rfl⟩; obtain ⟨ib, hib⟩ : ∃ ib, ib = w4.heap.size := ⟨_, rfl⟩; rw [← hw6] at R3 S3i ⊢; rw [← hib] at S3i ⊢)
      | (have R3 := Ran.set (Ran.set (Ran.set (Ran.set (Below.trans (Ran.drewN (Ran.new (Below.refl 0 w) (infoO 0 0 0 0)) 1) (below_ran hB4.out)) ⟨w.heap.size, 0, none⟩ (.int .i64 x.kind)) ⟨w.heap.size, 1, none⟩ (.int .i64 (sz : Int))) ⟨w.heap.size, 2, none⟩ (.int .i64 x.names)) ⟨w.heap.size, 3, none⟩ (.int .i64 x.holds); have S3i := (((S3b.out.set (i := 0) (.int .i64 x.kind)).set (i := 1) (.int .i64 (sz : Int))).set (i := 2) (.int .i64 x.names)).set (i := 3) (.int .i64 x.holds); obtain ⟨w6, hw6⟩ : ∃ w6, w6 = (((w4.setCell ⟨w.heap.size, 0, none⟩ (.int .i64 x.kind)).setCell ⟨w.heap.size, 1, none⟩ (.int .i64 (sz : Int))).setCell ⟨w.heap.size, 2, none⟩ (.int .i64 x.names)).setCell ⟨w.heap.size, 3, none⟩ (.int .i64 x.holds) := ⟨_, rfl⟩; obtain ⟨ib, hib⟩ : ∃ ib, ib = w.heap.size := ⟨_, rfl⟩; rw [← hw6] at R3 S3i ⊢; rw [← hib] at S3i ⊢)
    all_goals
      have S3i : Sat w6 (pts ib (infoO x.kind (sz : Int) x.names x.holds) * (fsHp fb mb F * (pts xb (flO fb n a ⟨mr, mw, true⟩) * R))) := S3i
      clear hw6 hib
      obtain ⟨r0, r1, r2, r3⟩ := info_cells S3i
      have S3x := S3i.right.perm (show _ = pts xb (flO fb n a ⟨mr, mw, true⟩) * (fsHp fb mb F * R) by ac_rfl)
      have f0 : ∀ i, w6.frozen? ⟨xb, i, none⟩ = false := fun i => free_at S3x.get i
      clear d0 d1 d2 d3 d4 d5
      obtain ⟨d0, d1, d2, d3, d4, d5⟩ := fl_cells S3x
      have S4 := (S3x.set (i := 2) (.int .i64 (sz : Int))).perm (show pts xb (flO fb n (sz : Int) ⟨mr, mw, true⟩) * (fsHp fb mb F * R) = fsHp fb mb F * (pts xb (flO fb n (sz : Int) ⟨mr, mw, true⟩) * R) by ac_rfl)
      have R4 := Lib.hid (Ran.set R3 ⟨xb, 2, none⟩ (.int .i64 (sz : Int)))
      have S4 : Hid (Sat (w6.setCell ⟨xb, 2, none⟩ (.int .i64 (sz : Int))) (fsHp fb mb F * (pts xb (flO fb n (sz : Int) ⟨mr, mw, true⟩) * R))) := Lib.hid S4
      clear S3i S3x R3 hB4 HSt HStb Hb H0
      go_upto_region 4 with fail
      clear d0 d1 d2 d3 d4 d5 r0 r1 r2 r3 f0
      obtain ⟨w7, hw7⟩ : ∃ w7, w7 = w6.setCell ⟨xb, 2, none⟩ (.int .i64 (sz : Int)) := ⟨_, rfl⟩
      have S4 := S4.out
      rw [← hw7] at S4 R4 ⊢
      clear hw7
      obtain ⟨d0, d1, d2, d3, d4, d5⟩ := fl_cells S4.right
      have HW := Write_calls fb mb F n sz x d hk (by omega) (by omega) Hs.out Hx.out H2.out Hu.out Hr.out _ (pts xb (flO fb n (sz : Int) ⟨mr, mw, true⟩) * R) S4.drew
      rw [← Hen.out, ← HF'.out] at HW
      have HW := Lib.hid HW
      obtain ⟨d0', d1', d2', -⟩ := fl_cells S4.drew.right
      have haI : (sz : Int) ≤ 1000000000 := by omega
      have haI0 : (0 : Int) ≤ (sz : Int) := by omega
      have S4 := Lib.hid S4
      refine region_plan (S := (fun w' => w'.cell? ⟨xb, 0, none⟩ = some (pp fb) ∧ w'.cell? ⟨xb, 1, none⟩ = some (.int .i64 n) ∧ w'.cell? ⟨xb, 2, none⟩ = some (.int .i64 (sz : Int)))) [(0, true), (1, true), (2, true), (3, true), (4, true), (5, true), (6, true), (7, true), (8, true), (9, true), (10, true), (11, true), (12, true), (13, false), (14, true)] (by kernel_rfl) (by kernel_rfl) (by kernel_rfl) ?_ ?_
      · ((try dsimp only); (first | done | (first | exact ⟨d0', d1', d2'⟩ | exact K5)))
      simp only [planOps, List.map_cons, List.map_nil, List.getElem?_toArray, List.getElem?_cons_zero, List.getElem?_cons_succ]
      repeat (first
        | ((refine plan_yes (v := ?_) (by rfl) ?_ ?_); rotate_left; (focus (intro w hSw; (try dsimp only at hSw); go_simp; try (with_reducible rfl))); (try simp only [Act.put, List.setIfInBounds_toArray, List.set_cons_zero, List.set_cons_succ]))
        | ((refine plan_no (by rfl) ?_); (try simp only [Act.put, List.setIfInBounds_toArray, List.set_cons_zero, List.set_cons_succ]))
        | ((refine plan_step (fun K hK => ?_)); (first | (go_simp; ((go_at_call 187; refine HW.out.mono ?_; rintro e w5 ⟨⟨rfl, S5⟩, R5⟩; have K5 := (And.intro (fl_cells S5.right).1 (And.intro (fl_cells S5.right).2.1 (fl_cells S5.right).2.2.1)))); (try go_wp2_with fail)) | go_simp); (refine hK.out _ _ ?_ (fun hHeld => ?_)); (focus ((try dsimp only); (first | done | (first | exact ⟨d0', d1', d2'⟩ | exact K5)))); clear hK K; (try simp only [Act.put, List.setIfInBounds_toArray, List.set_cons_zero, List.set_cons_succ])))
      refine plan_done ?_
      have R5 := Lib.hid (Below.trans (Ran.drewN R4.out 1) R5)
      clear d0 d1 d2 d3 d4 d5 d0' d1' d2' K5 HW S4
      obtain ⟨d0, d1, d2, d3, d4, d5⟩ := fl_cells S5.right
      by_cases he : en = 0
      · have S5' := S5.perm (show _ = pts xb (flO fb n (sz : Int) ⟨mr, mw, true⟩) * (fsHp fb mb F' * R) by ac_rfl)
        have f0 : ∀ i, w5.frozen? ⟨xb, i, none⟩ = false := fun i => free_at S5'.get i
        have S6 := Lib.hid ((S5'.set (i := 2) (.int .i64 ((sz : Int) + (d.size : Int)))).perm (show pts xb (flO fb n ((sz : Int) + (d.size : Int)) ⟨mr, mw, true⟩) * (fsHp fb mb F' * R) = fsHp fb mb F' * (pts xb (flO fb n ((sz : Int) + (d.size : Int)) ⟨mr, mw, true⟩) * R) by ac_rfl))
        subst he
        clear S5 S5'
        go_wp2_with fail
        go_ret
        exact ⟨⟨rfl, S6.out⟩, Ran.set R5.out _ _⟩
      · have heb : (en == 0) = false := by simp [he]
        have S5 := Lib.hid S5
        go_wp2_with fail
        go_ret
        exact ⟨⟨rfl, S5.out⟩, R5.out⟩
end Go.Proofs.YteienbdbhnikbaaGreatDoor.Hd

namespace Go.Proofs.YteienbdbhnikbaaGreatDoor.Hd
open Go.RowKit Go.Maps Go.Proofs.YteienbdbhnikbaaGreatDoor Go.Proofs.YteienbdbhnikbaaGreatDoor.Hp
set_option linter.unusedVariables false
attribute [local go_sem] Oper.semAt_some

section
variable {α : Type}
def findA : List (Int × α) → Int → Option α
  | [], _ => none
  | p :: L, k => if p.1 = k then some p.2 else findA L k
def updA : List (Int × α) → Int → α → List (Int × α)
  | [], _, _ => []
  | p :: L, k, x => if p.1 = k then (k, x) :: L else p :: updA L k x
def delA : List (Int × α) → Int → List (Int × α)
  | [], _ => []
  | p :: L, k => if p.1 = k then L else p :: delA L k
theorem focusA (P : α → Hp) : ∀ (L : List (Int × α)) (k : Int) (x : α), findA L k = some x → ∃ F : Hp, all (fun p : Int × α => P p.2) L = P x * F ∧ (∀ x', all (fun p : Int × α => P p.2) (updA L k x') = P x' * F) ∧ all (fun p : Int × α => P p.2) (delA L k) = F
  | [], k, x, h => by cases h
  | p :: L, k, x, h => by
    unfold findA at h
    by_cases e : p.1 = k
    · rw [if_pos e] at h
      injection h with h
      refine ⟨all (fun p : Int × α => P p.2) L, by rw [← h]; rfl, fun x' => by unfold updA; rw [if_pos e]; rfl, by unfold delA; rw [if_pos e]⟩
    · rw [if_neg e] at h
      obtain ⟨F, h1, h2, h3⟩ := focusA P L k x h
      refine ⟨P p.2 * F, ?_, fun x' => ?_, ?_⟩
      · show P p.2 * all (fun p : Int × α => P p.2) L = _
        rw [h1]; ac_rfl
      · unfold updA; rw [if_neg e]
        show P p.2 * all (fun p : Int × α => P p.2) (updA L k x') = _
        rw [h2 x']; ac_rfl
      · unfold delA; rw [if_neg e]
        show P p.2 * all (fun p : Int × α => P p.2) (delA L k) = _
        rw [h3]
theorem findA_upd : ∀ (L : List (Int × α)) (k j : Int) (x : α), (findA L k).isSome = true → findA (updA L k x) j = if j = k then some x else findA L j
  | [], _, _, _, h => by cases h
  | p :: L, k, j, x, h => by
    unfold findA at h
    by_cases e : p.1 = k
    · unfold updA; rw [if_pos e]
      show (if k = j then some x else findA L j) = if j = k then some x else (if p.1 = j then some p.2 else findA L j)
      by_cases e2 : j = k
      · subst e2; simp
      · rw [if_neg e2, if_neg (fun h => e2 h.symm), if_neg (fun h => e2 (by rw [← h, e]))]
    · rw [if_neg e] at h
      unfold updA; rw [if_neg e]; unfold findA
      by_cases e2 : p.1 = j
      · rw [if_pos e2, if_neg (fun h => e (by rw [e2, h])), if_pos e2]
      · rw [if_neg e2, findA_upd L k j x h, if_neg e2]
theorem updA_len : ∀ (L : List (Int × α)) (k : Int) (x : α), (updA L k x).length = L.length
  | [], _, _ => rfl
  | p :: L, k, x => by
    unfold updA
    split
    · rfl
    · show (updA L k x).length + 1 = _; rw [updA_len L k x]; rfl
theorem findA_cons (L : List (Int × α)) (k j : Int) (x : α) : findA ((k, x) :: L) j = if j = k then some x else findA L j := by
  show (if k = j then some x else findA L j) = _
  by_cases e : j = k
  · subst e; simp
  · rw [if_neg e, if_neg (fun h => e h.symm)]
theorem findA_mem : ∀ (L : List (Int × α)) (k : Int), (findA L k).isSome = true → k ∈ L.map Prod.fst
  | [], k, h => by cases h
  | p :: L, k, h => by
    unfold findA at h
    by_cases e : p.1 = k
    · rw [← e]; exact List.mem_cons_self
    · rw [if_neg e] at h; exact List.mem_cons_of_mem _ (findA_mem L k h)
theorem len_subset' : ∀ (l L : List Int), l.Pairwise (· ≠ ·) → (∀ x ∈ l, x ∈ L) → l.length ≤ L.length
  | [], _, _, _ => Nat.zero_le _
  | x :: l, L, hp, hs => by
    have h1 : x ∈ L := hs x List.mem_cons_self
    have h2 := len_subset' l (L.erase x) (List.Pairwise.of_cons hp) (fun y hy => by
      refine (List.mem_erase_of_ne ?_).2 (hs y (List.mem_cons_of_mem _ hy))
      exact fun e => (List.rel_of_pairwise_cons hp hy) e.symm)
    rw [List.length_erase_of_mem h1] at h2
    have := List.length_pos_of_mem h1
    show l.length + 1 ≤ _
    omega
/-- The least number from 1 on that is free. -/
theorem free_number (L : List (Int × α)) : ∃ g : Nat, 1 ≤ g ∧ g ≤ L.length + 1 ∧ findA L (g : Int) = none ∧ ∀ j : Nat, 1 ≤ j → j < g → (findA L (j : Int)).isSome = true := by
  have go : ∀ m : Nat, (∀ j : Nat, 1 ≤ j → j < m + 1 → (findA L (j : Int)).isSome = true) → m ≤ L.length := by
    intro m hm
    have := len_subset' ((List.range m).map fun i : Nat => ((i + 1 : Nat) : Int)) (L.map Prod.fst) (by
      rw [List.pairwise_map]
      exact (List.nodup_range (n := m)).imp fun h e => h (by omega)) (fun x hx => by
      obtain ⟨i, hi, rfl⟩ := List.mem_map.1 hx
      exact findA_mem L _ (hm (i + 1) (by omega) (by have := List.mem_range.1 hi; omega)))
    simpa using this
  have ex : ∀ f m : Nat, L.length + 1 - m ≤ f → (∀ j : Nat, 1 ≤ j → j < m + 1 → (findA L (j : Int)).isSome = true) → ∃ g : Nat, 1 ≤ g ∧ g ≤ L.length + 1 ∧ findA L (g : Int) = none ∧ ∀ j : Nat, 1 ≤ j → j < g → (findA L (j : Int)).isSome = true := by
    intro f
    induction f with
    | zero =>
      intro m hf hm
      have := go m hm
      omega
    | succ f ih =>
      intro m hf hm
      have hle := go m hm
      cases hc : findA L ((m + 1 : Nat) : Int) with
      | none => exact ⟨m + 1, by omega, by omega, hc, hm⟩
      | some x =>
        refine ih (m + 1) (by omega) (fun j h1 h2 => ?_)
        by_cases e : j = m + 1
        · subst e; rw [hc]; rfl
        · exact hm j h1 (by omega)
  exact ex (L.length + 1) 0 (by omega) (fun j h1 h2 => absurd h2 (by omega))
end
/-- What a handle is of. -/
inductive Th where
  | file (n : Int) (a : Nat) (m : Md)
  | text (s : ByteArray) (a : Nat)
  | reader (bb eb : Nat)
  | writer (bb eb : Nat)
  | sink (sp q : Option Addr) (cap : Nat) (l : List UInt8) (most : Nat)
/-- A handle: its block, its refs, the block of its thing, the thing. -/
structure Hn where
  b : Nat
  refs : Int
  xb : Nat
  t : Th
def thT : Th → TypeId
  | .file .. => 159
  | .text .. => 132
  | .reader .. => 144
  | .writer .. => 148
  | .sink .. => 135
def thO (fb : Nat) : Th → Obj
  | .file n a m => flO fb n a m
  | .text s a => .cells #[.string s, .int .i64 (a : Int)] 134 (0, 0)
  | .reader bb eb => .cells #[pp bb, pp eb] 147 (0, 0)
  | .writer bb eb => .cells #[pp bb, pp eb] 149 (0, 0)
  | .sink sp q cap l most => .cells #[.pointer sp, .slice q l.length cap, .int .i64 (most : Int)] 141 (0, 0)
abbrev hnO (x : Hn) : Obj := .cells #[.int .i64 x.refs, .iface (thT x.t) (pp x.xb)] 110 (0, 0)
def hnHp (fb : Nat) (x : Hn) : Hp := pts x.b (hnO x) * pts x.xb (thO fb x.t)
abbrev tbO (fb pb hm : Nat) : Obj := .cells #[pp fb, pp pb, .map (some hm)] 104 (0, 0)
abbrev HL := List (Int × Hn)
def hblk (L : HL) : Int → Option Nat := fun k => (findA L k).map Hn.b
def tabHp (tb fb pb hm : Nat) (L : HL) (n : Nat) : Hp := pts tb (tbO fb pb hm) * (pmap hm (hblk L) L.length n * all (fun p : Int × Hn => hnHp fb p.2) L)
theorem tab_cells {w : World} {tb fb pb hm n : Nat} {L : HL} {R : Hp} (h : Sat w (tabHp tb fb pb hm L n * R)) : w.cell? ⟨tb, 0, none⟩ = some (pp fb) ∧ w.cell? ⟨tb, 1, none⟩ = some (pp pb) ∧ w.cell? ⟨tb, 2, none⟩ = some (.map (some hm)) := by
  have hb := (h.perm (show _ = pts tb (tbO fb pb hm) * (pmap hm (hblk L) L.length n * all (fun p : Int × Hn => hnHp fb p.2) L * R) by unfold tabHp; ac_rfl)).get
  refine ⟨?_, ?_, ?_⟩ <;> rw [cell_at hb] <;> rfl
theorem tab_look {w : World} {tb fb pb hm n : Nat} {L : HL} {R : Hp} (h : Sat w (tabHp tb fb pb hm L n * R)) (k : Int) (hk : I64 k) : (Instr.lookup 101 (.map (some hm)) (.int .i64 k) false).run Tryz.prog w = .ok (pv (hblk L k)) w :=
  pmap_look Tryz.underlying101 zeroHandle (h.perm (show _ = pmap hm (hblk L) L.length n * (pts tb (tbO fb pb hm) * all (fun p : Int × Hn => hnHp fb p.2) L * R) by unfold tabHp; ac_rfl)) k hk
theorem hblk_upd (L : HL) (k : Int) (x x' : Hn) (h : findA L k = some x) (hb : x'.b = x.b) : hblk (updA L k x') = hblk L := by
  funext j
  unfold hblk
  rw [findA_upd L k j x' (by rw [h]; rfl)]
  by_cases e : j = k
  · subst e; rw [if_pos rfl, h]; simp [hb]
  · rw [if_neg e]
/-- One handle, and how another one takes its place. -/
theorem tab_node {w : World} {tb fb pb hm n : Nat} {L : HL} {R : Hp} (h : Sat w (tabHp tb fb pb hm L n * R)) {k : Int} {x : Hn} (hx : findA L k = some x) :
    ∃ X : Hp, Sat w (pts x.b (hnO x) * (pts x.xb (thO fb x.t) * (X * R))) ∧
      ∀ (w' : World) (x' : Hn) (R' : Hp), x'.b = x.b → Sat w' (pts x'.b (hnO x') * (pts x'.xb (thO fb x'.t) * (X * R'))) → Sat w' (tabHp tb fb pb hm (updA L k x') n * R') := by
  obtain ⟨X, h1, h2, _⟩ := focusA (hnHp fb) L k x hx
  refine ⟨pts tb (tbO fb pb hm) * (pmap hm (hblk L) L.length n * X), h.perm ?_, fun w' x' R' hb h' => h'.perm ?_⟩
  · unfold tabHp; rw [h1]; unfold hnHp; ac_rfl
  · unfold tabHp
    rw [h2 x', hblk_upd L k x x' hx hb, updA_len]; unfold hnHp; ac_rfl
theorem hn_cells {w : World} {x : Hn} {S : Hp} (h : Sat w (pts x.b (hnO x) * S)) : w.cell? ⟨x.b, 0, none⟩ = some (.int .i64 x.refs) ∧ w.cell? ⟨x.b, 1, none⟩ = some (.iface (thT x.t) (pp x.xb)) := by
  have hb := h.get
  refine ⟨?_, ?_⟩ <;> rw [cell_at hb] <;> rfl
def getE (L : HL) (k : Int) : Int := match findA L k with
  | none => 18
  | some _ => 0
set_option maxRecDepth 100000 in
set_option maxHeartbeats 4000000 in
theorem get_calls (tb fb pb hm n : Nat) (L : HL) (k : Int) (hk : I64 k) (w : World) (R : Hp) (h : Sat w (tabHp tb fb pb hm L n * R)) :
    Calls Tryz.prog 59 #[pp tb, .int .i64 k] w fun e w' => e = .returned (.tuple #[pv (hblk L k), .int .i64 (getE L k)]) ∧ w = w' := by
  obtain ⟨c0, c1, c2⟩ := tab_cells h
  have hl := tab_look h k hk
  unfold getE
  cases hx : findA L k with
  | none =>
    rw [show hblk L k = none by unfold hblk; rw [hx]; rfl] at hl ⊢
    clear h hx
    unfold pv at hl ⊢
    go_enter Tryz.func59, Tryz.ntmps59
    go_wp2_with fail
    go_ret2
    exact ⟨rfl, rfl⟩
  | some x =>
    rw [show hblk L k = some x.b by unfold hblk; rw [hx]; rfl] at hl ⊢
    clear h hx
    unfold pv at hl ⊢
    go_enter Tryz.func59, Tryz.ntmps59
    go_wp2_with fail
    go_ret2
    exact ⟨rfl, rfl⟩
end Go.Proofs.YteienbdbhnikbaaGreatDoor.Hd

namespace Go.Proofs.YteienbdbhnikbaaGreatDoor.Hd
open Go.RowKit Go.Maps Go.Proofs.YteienbdbhnikbaaGreatDoor Go.Proofs.YteienbdbhnikbaaGreatDoor.Hp
set_option linter.unusedVariables false
attribute [local go_sem] Oper.semAt_some

structure Free (L : HL) (g : Nat) : Prop where
  pos : 1 ≤ g
  le : g ≤ L.length + 1
  none : findA L (g : Int) = none
  least : ∀ j : Nat, 1 ≤ j → j < g → (findA L (j : Int)).isSome = true
theorem hblk_cons (L : HL) (k : Int) (x : Hn) : hblk ((k, x) :: L) = putP (hblk L) k x.b := by
  funext j
  unfold hblk putP
  rw [findA_cons]
  by_cases e : j = k
  · rw [if_pos e, if_pos e]; rfl
  · rw [if_neg e, if_neg e]
set_option maxRecDepth 100000 in
set_option maxHeartbeats 4000000 in
theorem add_calls (tb fb pb hm n : Nat) (L : HL) (t : Th) (xb g : Nat) (hg : Free L g) (hn : n ≤ 1000000) (w : World) (R : Hp) (h : Sat w (tabHp tb fb pb hm L n * (pts xb (thO fb t) * R))) :
    Calls Tryz.prog 68 #[pp tb, .iface (thT t) (pp xb)] w fun e w' => (e = .returned (.int .i64 (g : Int)) ∧ ∃ hb, Sat w' (tabHp tb fb pb hm (((g : Int), ⟨hb, 1, xb, t⟩) :: L) (n + 1) * R)) ∧ Ran w w' := by
  obtain ⟨c0, c1, c2⟩ := tab_cells h
  have hLn : L.length ≤ n := pmap_le (h.perm (show _ = pmap hm (hblk L) L.length n * (pts tb (tbO fb pb hm) * all (fun p : Int × Hn => hnHp fb p.2) L * (pts xb (thO fb t) * R)) by unfold tabHp; ac_rfl))
  obtain ⟨g1, g2, g3, g4⟩ := hg
  have HLk := Lib.hid (fun (k : Int) (hk : I64 k) => tab_look h k hk)
  have Hg3 := Lib.hid g3
  have Hg4 := Lib.hid g4
  -- the end
  obtain ⟨ty, hty⟩ : ∃ ty, ty = thT t := ⟨_, rfl⟩
  have S1 := h.alloc (hnO ⟨w.heap.size, 1, xb, t⟩)
  obtain ⟨w', hrun, S2, R2⟩ := pmap_put Tryz.underlying101 (S1.perm (show _ = pmap hm (hblk L) L.length n * (pts tb (tbO fb pb hm) * all (fun p : Int × Hn => hnHp fb p.2) L * (pts w.heap.size (hnO ⟨w.heap.size, 1, xb, t⟩) * (pts xb (thO fb t) * R))) by unfold tabHp; ac_rfl)) (by unfold maxLen; omega) (g : Int) (by unfold I64; omega) (by unfold hblk; rw [g3]; rfl) w.heap.size
  have S3 : Sat w' (tabHp tb fb pb hm (((g : Int), ⟨w.heap.size, 1, xb, t⟩) :: L) (n + 1) * R) := S2.perm (by
    unfold tabHp
    rw [hblk_cons]
    show _ = pts tb (tbO fb pb hm) * (pmap hm (putP (hblk L) (g : Int) w.heap.size) (L.length + 1) (n + 1) * ((pts w.heap.size (hnO ⟨w.heap.size, 1, xb, t⟩) * pts xb (thO fb t)) * all (fun p : Int × Hn => hnHp fb p.2) L)) * R
    ac_rfl)
  have c2' : (w.alloc (hnO ⟨w.heap.size, 1, xb, t⟩)).cell? ⟨tb, 2, none⟩ = some (.map (some hm)) := (World.cell?_alloc_lt w _ _ (World.block_lt_of_cell? w _ c2)).trans c2
  have R3 := Lib.hid (Below.trans (Ran.new (Below.refl 0 w) (hnO ⟨w.heap.size, 1, xb, t⟩)) R2)
  have S3 := Lib.hid S3
  unfold hnO at hrun c2'
  dsimp only at hrun c2'
  rw [← hty] at hrun c2' ⊢
  have hgI : (g : Int) ≤ 1000001 := by omega
  clear h g3 g4 S1 S2 R2 hty
  go_enter Tryz.func68, Tryz.ntmps68
  go_wp2_with fail
  go_loopg [5] (g - 1) (fun (gk : Nat) (v5 : Value) (wr : World) => ∃ i : Nat, v5 = .int .i64 (i : Int) ∧ 1 ≤ i ∧ i + gk = g ∧ w = wr)
  case atStart => exact ⟨1, rfl, Nat.le_refl _, by omega, rfl⟩
  case round =>
    obtain ⟨i, rfl, hi1, hig, rfl⟩ := hrel
    by_cases hlt : i < g
    · have hs := Hg4.out i hi1 hlt
      obtain ⟨x, hx⟩ := Option.isSome_iff_exists.1 hs
      have hl := HLk.out (i : Int) (by unfold I64; omega)
      rw [show hblk L (i : Int) = some x.b by unfold hblk; rw [hx]; rfl] at hl
      unfold pv at hl
      have hiI : (i : Int) ≤ 1000001 := by omega
      have hi0 : (0 : Int) ≤ (i : Int) := by omega
      clear hs hx hrun
      go_wp2_with fail
      go_roundg (gk - 1)
      case rel => exact ⟨i + 1, by simp, by omega, by omega, rfl⟩
      case measure => omega
    · have hie : i = g := by omega
      subst hie
      have hl := HLk.out (i : Int) (by unfold I64; omega)
      rw [show hblk L (i : Int) = none by unfold hblk; rw [Hg3.out]; rfl] at hl
      unfold pv at hl
      clear hlt
      go_wp2_with fail
      go_ret
      exact ⟨⟨rfl, w.heap.size, S3.out⟩, R3.out⟩
end Go.Proofs.YteienbdbhnikbaaGreatDoor.Hd

