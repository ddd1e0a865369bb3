/- File walked. -/
import Derived.Test.YtljlpkeddbfpaaaGreatDoorHdJ
namespace Go.Proofs.YtljlpkeddbfpaaaGreatDoor.Hd
open Go.RowKit Go.Maps Go.Proofs.YtljlpkeddbfpaaaGreatDoor Go.Proofs.YtljlpkeddbfpaaaGreatDoor.Hp
set_option linter.unusedVariables false
attribute [local go_sem] Oper.semAt_some

abbrev mdO (m : Md) : Obj := .cells #[.bool m.r, .bool m.w, .bool m.m] 35 (0, 0)
abbrev mdV (m : Md) : Value := .agg #[.bool m.r, .bool m.w, .bool m.m]
theorem md_cells {w : World} {b : Nat} {m : Md} {S : Hp} (h : Sat w (pts b (mdO m) * S)) : w.cell? ⟨b, 0, none⟩ = some (.bool m.r) ∧ w.cell? ⟨b, 1, none⟩ = some (.bool m.w) ∧ w.cell? ⟨b, 2, none⟩ = some (.bool m.m) := by
  have hb := h.get
  refine ⟨?_, ?_, ?_⟩ <;> rw [cell_at hb] <;> rfl
set_option maxRecDepth 100000 in
set_option maxHeartbeats 8000000 in
theorem File_calls (tb fb mb pb hm n : Nat) (F : Fs) (L : HL) (k : Int) (m : Md) (x : Nd) (g : Nat) (hk : I64 k) (hs : FsOk F) (hx : find F.L k = some x) (h2 : x.kind = 2) (hmd : m.r = true ∨ m.w = true) (hg : Free L g) (hn : n ≤ 1000000) (w : World) (R : Hp)
    (h : Sat w (fsHp fb mb F * (tabHp tb fb pb hm L n * R))) :
    Calls Tryz.prog 10 #[pp tb, .int .i64 k, mdV m] w fun e w' => (e = .returned (.tuple #[.int .i64 (g : Int), .int .i64 0]) ∧ ∃ hb xb, Sat w' (fsHp fb mb (holdP F k) * (tabHp tb fb pb hm (((g : Int), ⟨hb, 1, xb, .file k 0 m⟩) :: L) (n + 1) * R))) ∧ Ran w w' := by
  have S1 := (h.alloc (mdO m)).perm (show _ = fsHp fb mb F * (tabHp tb fb pb hm L n * (pts w.heap.size (mdO m) * R)) by ac_rfl)
  have HSt := Stat_calls fb mb F k hk (hs.small k) _ _ S1
  unfold statE statV at HSt
  rw [hx] at HSt
  dsimp only at HSt
  rw [h2] at HSt
  have HSt := Lib.hid HSt
  have Hs := Lib.hid hs
  have Hx := Lib.hid hx
  have Hg := Lib.hid hg
  obtain ⟨t0, t1, t2⟩ := tab_cells (S1.perm (show _ = tabHp tb fb pb hm L n * (fsHp fb mb F * (pts w.heap.size (mdO m) * R)) by ac_rfl))
  have S1 := Lib.hid S1
  have RA := Lib.hid (Ran.new (Below.refl 0 w) (mdO m))
  obtain ⟨mr, mw, mm⟩ := m
  dsimp only at hmd
  have Hmd := Lib.hid hmd
  clear h hs hx hg hmd
  by_cases hr1 : mr = true
  · subst hr1
    by_cases hw1 : mw = true
    · subst hw1
      go_enter Tryz.func10, Tryz.ntmps10
      go_wp2_with fail
      refine HSt.out.mono ?_
      rintro e w1 ⟨rfl, hB⟩
      have S2 := (S1.out.below hB).alloc (infoO 2 (sizeN x) x.names x.holds)
      have R2 := Lib.hid (Ran.new (Below.trans RA.out (below_ran hB)) (infoO 2 (sizeN x) x.names x.holds))
      obtain ⟨r0, r1, r2, r3⟩ := info_cells S2
      have S2r := S2.right
      clear t0 t1 t2
      obtain ⟨t0, t1, t2⟩ := tab_cells (S2r.perm (show _ = tabHp tb fb pb hm L n * (fsHp fb mb F * (pts w.heap.size (mdO ⟨true, true, mm⟩) * R)) by ac_rfl))
      obtain ⟨u0, u1, u2⟩ := md_cells (S2r.perm (show _ = pts w.heap.size (mdO ⟨true, true, mm⟩) * (fsHp fb mb F * (tabHp tb fb pb hm L n * R)) by ac_rfl))
      have HH := Hold_calls fb mb F k hk Hs.out _ _ S2r
      unfold statE at HH
      rw [Hx.out] at HH
      have HH := Lib.hid HH
      clear hB S2 S2r HSt S1 RA
      go_wp2_with fail
      refine HH.out.mono ?_
      rintro e w3 ⟨⟨rfl, S3⟩, R3⟩
      have S4 := (S3.alloc (flO fb k 0 ⟨true, true, mm⟩)).drew
      have S3 := S3.drew
      have R3 := Lib.hid (Below.trans R2.out R3)
      clear t0 t1 t2 u0 u1 u2 r0 r1 r2 r3 HH R2
      obtain ⟨t0, t1, t2⟩ := tab_cells (S3.perm (show _ = tabHp tb fb pb hm L n * (fsHp fb mb (holdP F k) * (pts w.heap.size (mdO ⟨true, true, mm⟩) * R)) by ac_rfl))
      obtain ⟨u0, u1, u2⟩ := md_cells (S3.perm (show _ = pts w.heap.size (mdO ⟨true, true, mm⟩) * (fsHp fb mb (holdP F k) * (tabHp tb fb pb hm L n * R)) by ac_rfl))
      have a0 := (tab_cells (S4.right.perm (show _ = tabHp tb fb pb hm L n * (fsHp fb mb (holdP F k) * (pts w.heap.size (mdO ⟨true, true, mm⟩) * R)) by ac_rfl))).1
      obtain ⟨v0, v1, v2⟩ := md_cells (S4.right.perm (show _ = pts w.heap.size (mdO ⟨true, true, mm⟩) * (fsHp fb mb (holdP F k) * (tabHp tb fb pb hm L n * R)) by ac_rfl))
      have HAd := Lib.hid (add_calls tb fb pb hm n L (.file k 0 ⟨true, true, mm⟩) w3.heap.size g Hg.out hn _ (fsHp fb mb (holdP F k) * (pts w.heap.size (mdO ⟨true, true, mm⟩) * R)) (S4.perm (show pts w3.heap.size (thO fb (.file k 0 ⟨true, true, mm⟩)) * _ = _ by ac_rfl)))
      dsimp only at u0 u1 u2 v0 v1 v2
      clear S3 S4
      go_wp2_with fail
      refine Go.Proofs.YtljlpkeddbfpaaaGreatDoor.region_plan (S := (fun w' => w'.cell? ⟨tb, 0, none⟩ = some (pp fb) ∧ w'.cell? ⟨w.heap.size, 0, none⟩ = some (.bool true) ∧ w'.cell? ⟨w.heap.size, 1, none⟩ = some (.bool true) ∧ w'.cell? ⟨w.heap.size, 2, none⟩ = some (.bool mm))) [(0, true), (1, true), (2, true), (3, true), (4, true), (5, true), (6, true), (7, true), (8, false), (9, true), (10, false), (11, true), (12, true)] (by kernel_rfl) (by kernel_rfl) (by kernel_rfl) ?_ ?_
      · ((try dsimp only); (first | done | (first | with_reducible exact ⟨t0, u0, u1, u2⟩ | with_reducible exact ⟨a0, v0, v1, v2⟩ | exact K5)))
      simp only [Go.Proofs.YtljlpkeddbfpaaaGreatDoor.planOps, List.map_cons, List.map_nil, List.getElem?_toArray, List.getElem?_cons_zero, List.getElem?_cons_succ]
      repeat (first
        | ((refine Go.Proofs.YtljlpkeddbfpaaaGreatDoor.plan_yes (v := ?_) (by rfl) ?_ ?_); rotate_left; (focus (intro w hSw; (try dsimp only at hSw); go_simp; try (with_reducible rfl))); (try simp only [Act.put, List.setIfInBounds_toArray, List.set_cons_zero, List.set_cons_succ]))
        | ((refine Go.Proofs.YtljlpkeddbfpaaaGreatDoor.plan_no (by rfl) ?_); (try simp only [Act.put, List.setIfInBounds_toArray, List.set_cons_zero, List.set_cons_succ]))
        | ((refine Go.Proofs.YtljlpkeddbfpaaaGreatDoor.plan_step (fun K hK => ?_)); (first | ((go_at_call 37; refine HAd.out.mono ?_; rintro e w5 ⟨⟨rfl, hb5, S5⟩, R5⟩; have S5 := S5.perm (show _ = fsHp fb mb (holdP F k) * (tabHp tb fb pb hm (((g : Int), ⟨hb5, 1, w3.heap.size, .file k 0 ⟨true, true, mm⟩⟩) :: L) (n + 1) * (pts w.heap.size (mdO ⟨true, true, mm⟩) * R)) by ac_rfl); obtain ⟨x0, x1, x2⟩ := md_cells (S5.perm (show _ = pts w.heap.size (mdO ⟨true, true, mm⟩) * (fsHp fb mb (holdP F k) * (tabHp tb fb pb hm (((g : Int), ⟨hb5, 1, w3.heap.size, .file k 0 ⟨true, true, mm⟩⟩) :: L) (n + 1) * R)) by ac_rfl)); have K5 := And.intro (tab_cells (S5.perm (show _ = tabHp tb fb pb hm (((g : Int), ⟨hb5, 1, w3.heap.size, .file k 0 ⟨true, true, mm⟩⟩) :: L) (n + 1) * (fsHp fb mb (holdP F k) * (pts w.heap.size (mdO ⟨true, true, mm⟩) * R)) by ac_rfl))).1 (And.intro x0 (And.intro x1 x2)))) | (go_simp; ((go_at_call 37; refine HAd.out.mono ?_; rintro e w5 ⟨⟨rfl, hb5, S5⟩, R5⟩; have S5 := S5.perm (show _ = fsHp fb mb (holdP F k) * (tabHp tb fb pb hm (((g : Int), ⟨hb5, 1, w3.heap.size, .file k 0 ⟨true, true, mm⟩⟩) :: L) (n + 1) * (pts w.heap.size (mdO ⟨true, true, mm⟩) * R)) by ac_rfl); obtain ⟨x0, x1, x2⟩ := md_cells (S5.perm (show _ = pts w.heap.size (mdO ⟨true, true, mm⟩) * (fsHp fb mb (holdP F k) * (tabHp tb fb pb hm (((g : Int), ⟨hb5, 1, w3.heap.size, .file k 0 ⟨true, true, mm⟩⟩) :: L) (n + 1) * R)) by ac_rfl)); have K5 := And.intro (tab_cells (S5.perm (show _ = tabHp tb fb pb hm (((g : Int), ⟨hb5, 1, w3.heap.size, .file k 0 ⟨true, true, mm⟩⟩) :: L) (n + 1) * (fsHp fb mb (holdP F k) * (pts w.heap.size (mdO ⟨true, true, mm⟩) * R)) by ac_rfl))).1 (And.intro x0 (And.intro x1 x2)))); (try go_wp2_with fail)) | go_simp); (refine hK.out _ _ ?_ (fun hHeld => ?_)); (focus ((try dsimp only); (first | done | (first | with_reducible exact ⟨t0, u0, u1, u2⟩ | with_reducible exact ⟨a0, v0, v1, v2⟩ | exact K5)))); clear hK K; (try simp only [Act.put, List.setIfInBounds_toArray, List.set_cons_zero, List.set_cons_succ])))
      refine Go.Proofs.YtljlpkeddbfpaaaGreatDoor.plan_done ?_
      have R5 := Lib.hid (Below.trans (Ran.drewN (Ran.new R3.out (flO fb k 0 ⟨true, true, mm⟩)) 1) R5)
      have S5 := Lib.hid (S5.perm (show _ = pts w.heap.size (mdO ⟨true, true, mm⟩) * (fsHp fb mb (holdP F k) * (tabHp tb fb pb hm (((g : Int), ⟨hb5, 1, w3.heap.size, .file k 0 ⟨true, true, mm⟩⟩) :: L) (n + 1) * R)) by ac_rfl))
      go_wp2_with fail
      go_ret2
      exact ⟨⟨rfl, hb5, _, S5.out.right⟩, R5.out⟩
    · have hw2 : mw = false := by simpa using hw1
      subst hw2
      go_enter Tryz.func10, Tryz.ntmps10
      go_wp2_with fail
      refine HSt.out.mono ?_
      rintro e w1 ⟨rfl, hB⟩
      have S2 := (S1.out.below hB).alloc (infoO 2 (sizeN x) x.names x.holds)
      have R2 := Lib.hid (Ran.new (Below.trans RA.out (below_ran hB)) (infoO 2 (sizeN x) x.names x.holds))
      obtain ⟨r0, r1, r2, r3⟩ := info_cells S2
      have S2r := S2.right
      clear t0 t1 t2
      obtain ⟨t0, t1, t2⟩ := tab_cells (S2r.perm (show _ = tabHp tb fb pb hm L n * (fsHp fb mb F * (pts w.heap.size (mdO ⟨true, false, mm⟩) * R)) by ac_rfl))
      obtain ⟨u0, u1, u2⟩ := md_cells (S2r.perm (show _ = pts w.heap.size (mdO ⟨true, false, mm⟩) * (fsHp fb mb F * (tabHp tb fb pb hm L n * R)) by ac_rfl))
      have HH := Hold_calls fb mb F k hk Hs.out _ _ S2r
      unfold statE at HH
      rw [Hx.out] at HH
      have HH := Lib.hid HH
      clear hB S2 S2r HSt S1 RA
      go_wp2_with fail
      refine HH.out.mono ?_
      rintro e w3 ⟨⟨rfl, S3⟩, R3⟩
      have S4 := (S3.alloc (flO fb k 0 ⟨true, false, mm⟩)).drew
      have S3 := S3.drew
      have R3 := Lib.hid (Below.trans R2.out R3)
      clear t0 t1 t2 u0 u1 u2 r0 r1 r2 r3 HH R2
      obtain ⟨t0, t1, t2⟩ := tab_cells (S3.perm (show _ = tabHp tb fb pb hm L n * (fsHp fb mb (holdP F k) * (pts w.heap.size (mdO ⟨true, false, mm⟩) * R)) by ac_rfl))
      obtain ⟨u0, u1, u2⟩ := md_cells (S3.perm (show _ = pts w.heap.size (mdO ⟨true, false, mm⟩) * (fsHp fb mb (holdP F k) * (tabHp tb fb pb hm L n * R)) by ac_rfl))
      have a0 := (tab_cells (S4.right.perm (show _ = tabHp tb fb pb hm L n * (fsHp fb mb (holdP F k) * (pts w.heap.size (mdO ⟨true, false, mm⟩) * R)) by ac_rfl))).1
      obtain ⟨v0, v1, v2⟩ := md_cells (S4.right.perm (show _ = pts w.heap.size (mdO ⟨true, false, mm⟩) * (fsHp fb mb (holdP F k) * (tabHp tb fb pb hm L n * R)) by ac_rfl))
      have HAd := Lib.hid (add_calls tb fb pb hm n L (.file k 0 ⟨true, false, mm⟩) w3.heap.size g Hg.out hn _ (fsHp fb mb (holdP F k) * (pts w.heap.size (mdO ⟨true, false, mm⟩) * R)) (S4.perm (show pts w3.heap.size (thO fb (.file k 0 ⟨true, false, mm⟩)) * _ = _ by ac_rfl)))
      dsimp only at u0 u1 u2 v0 v1 v2
      clear S3 S4
      go_wp2_with fail
      refine Go.Proofs.YtljlpkeddbfpaaaGreatDoor.region_plan (S := (fun w' => w'.cell? ⟨tb, 0, none⟩ = some (pp fb) ∧ w'.cell? ⟨w.heap.size, 0, none⟩ = some (.bool true) ∧ w'.cell? ⟨w.heap.size, 1, none⟩ = some (.bool false) ∧ w'.cell? ⟨w.heap.size, 2, none⟩ = some (.bool mm))) [(0, true), (1, true), (2, true), (3, true), (4, true), (5, true), (6, true), (7, true), (8, false), (9, true), (10, false), (11, true), (12, true)] (by kernel_rfl) (by kernel_rfl) (by kernel_rfl) ?_ ?_
      · ((try dsimp only); (first | done | (first | with_reducible exact ⟨t0, u0, u1, u2⟩ | with_reducible exact ⟨a0, v0, v1, v2⟩ | exact K5)))
      simp only [Go.Proofs.YtljlpkeddbfpaaaGreatDoor.planOps, List.map_cons, List.map_nil, List.getElem?_toArray, List.getElem?_cons_zero, List.getElem?_cons_succ]
      repeat (first
        | ((refine Go.Proofs.YtljlpkeddbfpaaaGreatDoor.plan_yes (v := ?_) (by rfl) ?_ ?_); rotate_left; (focus (intro w hSw; (try dsimp only at hSw); go_simp; try (with_reducible rfl))); (try simp only [Act.put, List.setIfInBounds_toArray, List.set_cons_zero, List.set_cons_succ]))
        | ((refine Go.Proofs.YtljlpkeddbfpaaaGreatDoor.plan_no (by rfl) ?_); (try simp only [Act.put, List.setIfInBounds_toArray, List.set_cons_zero, List.set_cons_succ]))
        | ((refine Go.Proofs.YtljlpkeddbfpaaaGreatDoor.plan_step (fun K hK => ?_)); (first | ((go_at_call 37; refine HAd.out.mono ?_; rintro e w5 ⟨⟨rfl, hb5, S5⟩, R5⟩; have S5 := S5.perm (show _ = fsHp fb mb (holdP F k) * (tabHp tb fb pb hm (((g : Int), ⟨hb5, 1, w3.heap.size, .file k 0 ⟨true, false, mm⟩⟩) :: L) (n + 1) * (pts w.heap.size (mdO ⟨true, false, mm⟩) * R)) by ac_rfl); obtain ⟨x0, x1, x2⟩ := md_cells (S5.perm (show _ = pts w.heap.size (mdO ⟨true, false, mm⟩) * (fsHp fb mb (holdP F k) * (tabHp tb fb pb hm (((g : Int), ⟨hb5, 1, w3.heap.size, .file k 0 ⟨true, false, mm⟩⟩) :: L) (n + 1) * R)) by ac_rfl)); have K5 := And.intro (tab_cells (S5.perm (show _ = tabHp tb fb pb hm (((g : Int), ⟨hb5, 1, w3.heap.size, .file k 0 ⟨true, false, mm⟩⟩) :: L) (n + 1) * (fsHp fb mb (holdP F k) * (pts w.heap.size (mdO ⟨true, false, mm⟩) * R)) by ac_rfl))).1 (And.intro x0 (And.intro x1 x2)))) | (go_simp; ((go_at_call 37; refine HAd.out.mono ?_; rintro e w5 ⟨⟨rfl, hb5, S5⟩, R5⟩; have S5 := S5.perm (show _ = fsHp fb mb (holdP F k) * (tabHp tb fb pb hm (((g : Int), ⟨hb5, 1, w3.heap.size, .file k 0 ⟨true, false, mm⟩⟩) :: L) (n + 1) * (pts w.heap.size (mdO ⟨true, false, mm⟩) * R)) by ac_rfl); obtain ⟨x0, x1, x2⟩ := md_cells (S5.perm (show _ = pts w.heap.size (mdO ⟨true, false, mm⟩) * (fsHp fb mb (holdP F k) * (tabHp tb fb pb hm (((g : Int), ⟨hb5, 1, w3.heap.size, .file k 0 ⟨true, false, mm⟩⟩) :: L) (n + 1) * R)) by ac_rfl)); have K5 := And.intro (tab_cells (S5.perm (show _ = tabHp tb fb pb hm (((g : Int), ⟨hb5, 1, w3.heap.size, .file k 0 ⟨true, false, mm⟩⟩) :: L) (n + 1) * (fsHp fb mb (holdP F k) * (pts w.heap.size (mdO ⟨true, false, mm⟩) * R)) by ac_rfl))).1 (And.intro x0 (And.intro x1 x2)))); (try go_wp2_with fail)) | go_simp); (refine hK.out _ _ ?_ (fun hHeld => ?_)); (focus ((try dsimp only); (first | done | (first | with_reducible exact ⟨t0, u0, u1, u2⟩ | with_reducible exact ⟨a0, v0, v1, v2⟩ | exact K5)))); clear hK K; (try simp only [Act.put, List.setIfInBounds_toArray, List.set_cons_zero, List.set_cons_succ])))
      refine Go.Proofs.YtljlpkeddbfpaaaGreatDoor.plan_done ?_
      have R5 := Lib.hid (Below.trans (Ran.drewN (Ran.new R3.out (flO fb k 0 ⟨true, false, mm⟩)) 1) R5)
      have S5 := Lib.hid (S5.perm (show _ = pts w.heap.size (mdO ⟨true, false, mm⟩) * (fsHp fb mb (holdP F k) * (tabHp tb fb pb hm (((g : Int), ⟨hb5, 1, w3.heap.size, .file k 0 ⟨true, false, mm⟩⟩) :: L) (n + 1) * R)) by ac_rfl))
      go_wp2_with fail
      go_ret2
      exact ⟨⟨rfl, hb5, _, S5.out.right⟩, R5.out⟩
  · have hr2 : mr = false := by simpa using hr1
    subst hr2
    have hw1 : mw = true := by rcases Hmd.out with h | h; cases h; exact h
    subst hw1
    go_enter Tryz.func10, Tryz.ntmps10
    go_wp2_with fail
    refine HSt.out.mono ?_
    rintro e w1 ⟨rfl, hB⟩
    have S2 := (S1.out.below hB).alloc (infoO 2 (sizeN x) x.names x.holds)
    have R2 := Lib.hid (Ran.new (Below.trans RA.out (below_ran hB)) (infoO 2 (sizeN x) x.names x.holds))
    obtain ⟨r0, r1, r2, r3⟩ := info_cells S2
    have S2r := S2.right
    clear t0 t1 t2
    obtain ⟨t0, t1, t2⟩ := tab_cells (S2r.perm (show _ = tabHp tb fb pb hm L n * (fsHp fb mb F * (pts w.heap.size (mdO ⟨false, true, mm⟩) * R)) by ac_rfl))
    obtain ⟨u0, u1, u2⟩ := md_cells (S2r.perm (show _ = pts w.heap.size (mdO ⟨false, true, mm⟩) * (fsHp fb mb F * (tabHp tb fb pb hm L n * R)) by ac_rfl))
    have HH := Hold_calls fb mb F k hk Hs.out _ _ S2r
    unfold statE at HH
    rw [Hx.out] at HH
    have HH := Lib.hid HH
    clear hB S2 S2r HSt S1 RA
    go_wp2_with fail
    refine HH.out.mono ?_
    rintro e w3 ⟨⟨rfl, S3⟩, R3⟩
    have S4 := (S3.alloc (flO fb k 0 ⟨false, true, mm⟩)).drew
    have S3 := S3.drew
    have R3 := Lib.hid (Below.trans R2.out R3)
    clear t0 t1 t2 u0 u1 u2 r0 r1 r2 r3 HH R2
    obtain ⟨t0, t1, t2⟩ := tab_cells (S3.perm (show _ = tabHp tb fb pb hm L n * (fsHp fb mb (holdP F k) * (pts w.heap.size (mdO ⟨false, true, mm⟩) * R)) by ac_rfl))
    obtain ⟨u0, u1, u2⟩ := md_cells (S3.perm (show _ = pts w.heap.size (mdO ⟨false, true, mm⟩) * (fsHp fb mb (holdP F k) * (tabHp tb fb pb hm L n * R)) by ac_rfl))
    have a0 := (tab_cells (S4.right.perm (show _ = tabHp tb fb pb hm L n * (fsHp fb mb (holdP F k) * (pts w.heap.size (mdO ⟨false, true, mm⟩) * R)) by ac_rfl))).1
    obtain ⟨v0, v1, v2⟩ := md_cells (S4.right.perm (show _ = pts w.heap.size (mdO ⟨false, true, mm⟩) * (fsHp fb mb (holdP F k) * (tabHp tb fb pb hm L n * R)) by ac_rfl))
    have HAd := Lib.hid (add_calls tb fb pb hm n L (.file k 0 ⟨false, true, mm⟩) w3.heap.size g Hg.out hn _ (fsHp fb mb (holdP F k) * (pts w.heap.size (mdO ⟨false, true, mm⟩) * R)) (S4.perm (show pts w3.heap.size (thO fb (.file k 0 ⟨false, true, mm⟩)) * _ = _ by ac_rfl)))
    dsimp only at u0 u1 u2 v0 v1 v2
    clear S3 S4
    go_wp2_with fail
    refine Go.Proofs.YtljlpkeddbfpaaaGreatDoor.region_plan (S := (fun w' => w'.cell? ⟨tb, 0, none⟩ = some (pp fb) ∧ w'.cell? ⟨w.heap.size, 0, none⟩ = some (.bool false) ∧ w'.cell? ⟨w.heap.size, 1, none⟩ = some (.bool true) ∧ w'.cell? ⟨w.heap.size, 2, none⟩ = some (.bool mm))) [(0, true), (1, true), (2, true), (3, true), (4, true), (5, true), (6, true), (7, true), (8, false), (9, true), (10, false), (11, true), (12, true)] (by kernel_rfl) (by kernel_rfl) (by kernel_rfl) ?_ ?_
    · ((try dsimp only); (first | done | (first | with_reducible exact ⟨t0, u0, u1, u2⟩ | with_reducible exact ⟨a0, v0, v1, v2⟩ | exact K5)))
    simp only [Go.Proofs.YtljlpkeddbfpaaaGreatDoor.planOps, List.map_cons, List.map_nil, List.getElem?_toArray, List.getElem?_cons_zero, List.getElem?_cons_succ]
    repeat (first
      | ((refine Go.Proofs.YtljlpkeddbfpaaaGreatDoor.plan_yes (v := ?_) (by rfl) ?_ ?_); rotate_left; (focus (intro w hSw; (try dsimp only at hSw); go_simp; try (with_reducible rfl))); (try simp only [Act.put, List.setIfInBounds_toArray, List.set_cons_zero, List.set_cons_succ]))
      | ((refine Go.Proofs.YtljlpkeddbfpaaaGreatDoor.plan_no (by rfl) ?_); (try simp only [Act.put, List.setIfInBounds_toArray, List.set_cons_zero, List.set_cons_succ]))
      | ((refine Go.Proofs.YtljlpkeddbfpaaaGreatDoor.plan_step (fun K hK => ?_)); (first | ((go_at_call 37; refine HAd.out.mono ?_; rintro e w5 ⟨⟨rfl, hb5, S5⟩, R5⟩; have S5 := S5.perm (show _ = fsHp fb mb (holdP F k) * (tabHp tb fb pb hm (((g : Int), ⟨hb5, 1, w3.heap.size, .file k 0 ⟨false, true, mm⟩⟩) :: L) (n + 1) * (pts w.heap.size (mdO ⟨false, true, mm⟩) * R)) by ac_rfl); obtain ⟨x0, x1, x2⟩ := md_cells (S5.perm (show _ = pts w.heap.size (mdO ⟨false, true, mm⟩) * (fsHp fb mb (holdP F k) * (tabHp tb fb pb hm (((g : Int), ⟨hb5, 1, w3.heap.size, .file k 0 ⟨false, true, mm⟩⟩) :: L) (n + 1) * R)) by ac_rfl)); have K5 := And.intro (tab_cells (S5.perm (show _ = tabHp tb fb pb hm (((g : Int), ⟨hb5, 1, w3.heap.size, .file k 0 ⟨false, true, mm⟩⟩) :: L) (n + 1) * (fsHp fb mb (holdP F k) * (pts w.heap.size (mdO ⟨false, true, mm⟩) * R)) by ac_rfl))).1 (And.intro x0 (And.intro x1 x2)))) | (go_simp; ((go_at_call 37; refine HAd.out.mono ?_; rintro e w5 ⟨⟨rfl, hb5, S5⟩, R5⟩; have S5 := S5.perm (show _ = fsHp fb mb (holdP F k) * (tabHp tb fb pb hm (((g : Int), ⟨hb5, 1, w3.heap.size, .file k 0 ⟨false, true, mm⟩⟩) :: L) (n + 1) * (pts w.heap.size (mdO ⟨false, true, mm⟩) * R)) by ac_rfl); obtain ⟨x0, x1, x2⟩ := md_cells (S5.perm (show _ = pts w.heap.size (mdO ⟨false, true, mm⟩) * (fsHp fb mb (holdP F k) * (tabHp tb fb pb hm (((g : Int), ⟨hb5, 1, w3.heap.size, .file k 0 ⟨false, true, mm⟩⟩) :: L) (n + 1) * R)) by ac_rfl)); have K5 := And.intro (tab_cells (S5.perm (show _ = tabHp tb fb pb hm (((g : Int), ⟨hb5, 1, w3.heap.size, .file k 0 ⟨false, true, mm⟩⟩) :: L) (n + 1) * (fsHp fb mb (holdP F k) * (pts w.heap.size (mdO ⟨false, true, mm⟩) * R)) by ac_rfl))).1 (And.intro x0 (And.intro x1 x2)))); (try go_wp2_with fail)) | go_simp); (refine hK.out _ _ ?_ (fun hHeld => ?_)); (focus ((try dsimp only); (first | done | (first | with_reducible exact ⟨t0, u0, u1, u2⟩ | with_reducible exact ⟨a0, v0, v1, v2⟩ | exact K5)))); clear hK K; (try simp only [Act.put, List.setIfInBounds_toArray, List.set_cons_zero, List.set_cons_succ])))
    refine Go.Proofs.YtljlpkeddbfpaaaGreatDoor.plan_done ?_
    have R5 := Lib.hid (Below.trans (Ran.drewN (Ran.new R3.out (flO fb k 0 ⟨false, true, mm⟩)) 1) R5)
    have S5 := Lib.hid (S5.perm (show _ = pts w.heap.size (mdO ⟨false, true, mm⟩) * (fsHp fb mb (holdP F k) * (tabHp tb fb pb hm (((g : Int), ⟨hb5, 1, w3.heap.size, .file k 0 ⟨false, true, mm⟩⟩) :: L) (n + 1) * R)) by ac_rfl))
    go_wp2_with fail
    go_ret2
    exact ⟨⟨rfl, hb5, _, S5.out.right⟩, R5.out⟩
end Go.Proofs.YtljlpkeddbfpaaaGreatDoor.Hd
