/- HandlesPlays, part 10 of 31: the texts HdL HdMe HdM HdU HdV HdW HdX, joined by a program. -/
import Derived.Test.YteienbdbhnikbaaGreatDoorPw9
namespace Go.Proofs.YteienbdbhnikbaaGreatDoor.Hd
open Go.RowKit Go.Maps Go.Proofs.YteienbdbhnikbaaGreatDoor Go.Proofs.YteienbdbhnikbaaGreatDoor.Hp
set_option linter.unusedVariables false
attribute [local go_sem] Oper.semAt_some

abbrev mdO (m : Md) : Obj := .cells #[.bool m.r, .bool m.w, .bool m.m] 50 (0, 0)
abbrev mdV (m : Md) : Value := .agg #[.bool m.r, .bool m.w, .bool m.m]
theorem md_cells {w : World} {b : Nat} {m : Md} {S : Hp} (h : Sat w (pts b (mdO m) * S)) : w.cell? ⟨b, 0, none⟩ = some (.bool m.r) ∧ w.cell? ⟨b, 1, none⟩ = some (.bool m.w) ∧ w.cell? ⟨b, 2, none⟩ = some (.bool m.m) := by
  have hb := h.get
  refine ⟨?_, ?_, ?_⟩ <;> rw [cell_at hb] <;> rfl
set_option maxRecDepth 100000 in
set_option maxHeartbeats 8000000 in
theorem File_calls (tb fb mb pb hm n : Nat) (F : Fs) (L : HL) (k : Int) (m : Md) (x : Nd) (g : Nat) (hk : I64 k) (hs : FsOk F) (hx : find F.L k = some x) (h2 : x.kind = 2) (hmd : m.r = true ∨ m.w = true) (hg : Free L g) (hn : n ≤ 1000000) (w : World) (R : Hp)
    (h : Sat w (fsHp fb mb F * (tabHp tb fb pb hm L n * R))) :
    Calls Tryz.prog 62 #[pp tb, .int .i64 k, mdV m] w fun e w' => (e = .returned (.tuple #[.int .i64 (g : Int), .int .i64 0]) ∧ ∃ hb xb, Sat w' (fsHp fb mb (holdP F k) * (tabHp tb fb pb hm (((g : Int), ⟨hb, 1, xb, .file k 0 m⟩) :: L) (n + 1) * R))) ∧ Ran w w' := by
  have S1 := (h.alloc (mdO m)).perm (show _ = fsHp fb mb F * (tabHp tb fb pb hm L n * (pts w.heap.size (mdO m) * R)) by ac_rfl)
  have HSt := Stat_calls fb mb F k hk (hs.small k) _ _ S1
  unfold statE statV at HSt
  rw [hx] at HSt
  dsimp only at HSt
  rw [h2] at HSt
  have HSt := Lib.hid HSt
  have Hs := Lib.hid hs
  have Hx := Lib.hid hx
  have Hg := Lib.hid hg
  obtain ⟨t0, t1, t2⟩ := tab_cells (S1.perm (show _ = tabHp tb fb pb hm L n * (fsHp fb mb F * (pts w.heap.size (mdO m) * R)) by ac_rfl))
  have S1 := Lib.hid S1
  have RA := Lib.hid (Ran.new (Below.refl 0 w) (mdO m))
  obtain ⟨mr, mw, mm⟩ := m
  dsimp only at hmd
  have Hmd := Lib.hid hmd
  clear h hs hx hg hmd
  by_cases hr1 : mr = true
  · subst hr1
    by_cases hw1 : mw = true
    · subst hw1
      go_enter Tryz.func62, Tryz.ntmps62
      go_wp2_with fail
      refine HSt.out.mono ?_
      rintro e w1 ⟨rfl, hB⟩
      have S2 := (S1.out.below hB).alloc (infoO 2 (sizeN x) x.names x.holds)
      have R2 := Lib.hid (Ran.new (Below.trans RA.out (below_ran hB)) (infoO 2 (sizeN x) x.names x.holds))
      obtain ⟨r0, r1, r2, r3⟩ := info_cells S2
      have S2r := S2.right
      clear t0 t1 t2
      obtain ⟨t0, t1, t2⟩ := tab_cells (S2r.perm (show _ = tabHp tb fb pb hm L n * (fsHp fb mb F * (pts w.heap.size (mdO ⟨true, true, mm⟩) * R)) by ac_rfl))
      obtain ⟨u0, u1, u2⟩ := md_cells (S2r.perm (show _ = pts w.heap.size (mdO ⟨true, true, mm⟩) * (fsHp fb mb F * (tabHp tb fb pb hm L n * R)) by ac_rfl))
      have HH := Hold_calls fb mb F k hk Hs.out _ _ S2r
      unfold statE at HH
      rw [Hx.out] at HH
      have HH := Lib.hid HH
      clear hB S2 S2r HSt S1 RA
      go_wp2_with fail
      refine HH.out.mono ?_
      rintro e w3 ⟨⟨rfl, S3⟩, R3⟩
      have S4 := (S3.alloc (flO fb k 0 ⟨true, true, mm⟩)).drew
      have S3 := S3.drew
      have R3 := Lib.hid (Below.trans R2.out R3)
      clear t0 t1 t2 u0 u1 u2 r0 r1 r2 r3 HH R2
      obtain ⟨t0, t1, t2⟩ := tab_cells (S3.perm (show _ = tabHp tb fb pb hm L n * (fsHp fb mb (holdP F k) * (pts w.heap.size (mdO ⟨true, true, mm⟩) * R)) by ac_rfl))
      obtain ⟨u0, u1, u2⟩ := md_cells (S3.perm (show _ = pts w.heap.size (mdO ⟨true, true, mm⟩) * (fsHp fb mb (holdP F k) * (tabHp tb fb pb hm L n * R)) by ac_rfl))
      have a0 := (tab_cells (S4.right.perm (show _ = tabHp tb fb pb hm L n * (fsHp fb mb (holdP F k) * (pts w.heap.size (mdO ⟨true, true, mm⟩) * R)) by ac_rfl))).1
      obtain ⟨v0, v1, v2⟩ := md_cells (S4.right.perm (show _ = pts w.heap.size (mdO ⟨true, true, mm⟩) * (fsHp fb mb (holdP F k) * (tabHp tb fb pb hm L n * R)) by ac_rfl))
      have HAd := Lib.hid (add_calls tb fb pb hm n L (.file k 0 ⟨true, true, mm⟩) w3.heap.size g Hg.out hn _ (fsHp fb mb (holdP F k) * (pts w.heap.size (mdO ⟨true, true, mm⟩) * R)) (S4.perm (show pts w3.heap.size (thO fb (.file k 0 ⟨true, true, mm⟩)) * _ = _ by ac_rfl)))
      dsimp only at u0 u1 u2 v0 v1 v2
      clear S3 S4
      go_wp2_with fail
      refine region_plan (S := (fun w' => w'.cell? ⟨tb, 0, none⟩ = some (pp fb) ∧ w'.cell? ⟨w.heap.size, 0, none⟩ = some (.bool true) ∧ w'.cell? ⟨w.heap.size, 1, none⟩ = some (.bool true) ∧ w'.cell? ⟨w.heap.size, 2, none⟩ = some (.bool mm))) [(0, true), (1, true), (2, true), (3, true), (4, true), (5, true), (6, true), (7, true), (8, false), (9, true), (10, false), (11, true), (12, true)] (by kernel_rfl) (by kernel_rfl) (by kernel_rfl) ?_ ?_
      · ((try dsimp only); (first | done | (first | with_reducible exact ⟨t0, u0, u1, u2⟩ | with_reducible exact ⟨a0, v0, v1, v2⟩ | exact K5)))
      simp only [planOps, List.map_cons, List.map_nil, List.getElem?_toArray, List.getElem?_cons_zero, List.getElem?_cons_succ]
      repeat (first
        | ((refine plan_yes (v := ?_) (by rfl) ?_ ?_); rotate_left; (focus (intro w hSw; (try dsimp only at hSw); go_simp; try (with_reducible rfl))); (try simp only [Act.put, List.setIfInBounds_toArray, List.set_cons_zero, List.set_cons_succ]))
        | ((refine plan_no (by rfl) ?_); (try simp only [Act.put, List.setIfInBounds_toArray, List.set_cons_zero, List.set_cons_succ]))
        | ((refine plan_step (fun K hK => ?_)); (first | (go_simp; ((go_at_call 68; refine HAd.out.mono ?_; rintro e w5 ⟨⟨rfl, hb5, S5⟩, R5⟩; have S5 := S5.perm (show _ = fsHp fb mb (holdP F k) * (tabHp tb fb pb hm (((g : Int), ⟨hb5, 1, w3.heap.size, .file k 0 ⟨true, true, mm⟩⟩) :: L) (n + 1) * (pts w.heap.size (mdO ⟨true, true, mm⟩) * R)) by ac_rfl); obtain ⟨x0, x1, x2⟩ := md_cells (S5.perm (show _ = pts w.heap.size (mdO ⟨true, true, mm⟩) * (fsHp fb mb (holdP F k) * (tabHp tb fb pb hm (((g : Int), ⟨hb5, 1, w3.heap.size, .file k 0 ⟨true, true, mm⟩⟩) :: L) (n + 1) * R)) by ac_rfl)); have K5 := And.intro (tab_cells (S5.perm (show _ = tabHp tb fb pb hm (((g : Int), ⟨hb5, 1, w3.heap.size, .file k 0 ⟨true, true, mm⟩⟩) :: L) (n + 1) * (fsHp fb mb (holdP F k) * (pts w.heap.size (mdO ⟨true, true, mm⟩) * R)) by ac_rfl))).1 (And.intro x0 (And.intro x1 x2)))); (try go_wp2_with fail)) | go_simp); (refine hK.out _ _ ?_ (fun hHeld => ?_)); (focus ((try dsimp only); (first | done | (first | with_reducible exact ⟨t0, u0, u1, u2⟩ | with_reducible exact ⟨a0, v0, v1, v2⟩ | exact K5)))); clear hK K; (try simp only [Act.put, List.setIfInBounds_toArray, List.set_cons_zero, List.set_cons_succ])))
      refine plan_done ?_
      have R5 := Lib.hid (Below.trans (Ran.drewN (Ran.new R3.out (flO fb k 0 ⟨true, true, mm⟩)) 1) R5)
      have S5 := Lib.hid (S5.perm (show _ = pts w.heap.size (mdO ⟨true, true, mm⟩) * (fsHp fb mb (holdP F k) * (tabHp tb fb pb hm (((g : Int), ⟨hb5, 1, w3.heap.size, .file k 0 ⟨true, true, mm⟩⟩) :: L) (n + 1) * R)) by ac_rfl))
      go_wp2_with fail
      go_ret2
      exact ⟨⟨rfl, hb5, _, S5.out.right⟩, R5.out⟩
    · have hw2 : mw = false := by simpa using hw1
      subst hw2
      go_enter Tryz.func62, Tryz.ntmps62
      go_wp2_with fail
      refine HSt.out.mono ?_
      rintro e w1 ⟨rfl, hB⟩
      have S2 := (S1.out.below hB).alloc (infoO 2 (sizeN x) x.names x.holds)
      have R2 := Lib.hid (Ran.new (Below.trans RA.out (below_ran hB)) (infoO 2 (sizeN x) x.names x.holds))
      obtain ⟨r0, r1, r2, r3⟩ := info_cells S2
      have S2r := S2.right
      clear t0 t1 t2
      obtain ⟨t0, t1, t2⟩ := tab_cells (S2r.perm (show _ = tabHp tb fb pb hm L n * (fsHp fb mb F * (pts w.heap.size (mdO ⟨true, false, mm⟩) * R)) by ac_rfl))
      obtain ⟨u0, u1, u2⟩ := md_cells (S2r.perm (show _ = pts w.heap.size (mdO ⟨true, false, mm⟩) * (fsHp fb mb F * (tabHp tb fb pb hm L n * R)) by ac_rfl))
      have HH := Hold_calls fb mb F k hk Hs.out _ _ S2r
      unfold statE at HH
      rw [Hx.out] at HH
      have HH := Lib.hid HH
      clear hB S2 S2r HSt S1 RA
      go_wp2_with fail
      refine HH.out.mono ?_
      rintro e w3 ⟨⟨rfl, S3⟩, R3⟩
      have S4 := (S3.alloc (flO fb k 0 ⟨true, false, mm⟩)).drew
      have S3 := S3.drew
      have R3 := Lib.hid (Below.trans R2.out R3)
      clear t0 t1 t2 u0 u1 u2 r0 r1 r2 r3 HH R2
      obtain ⟨t0, t1, t2⟩ := tab_cells (S3.perm (show _ = tabHp tb fb pb hm L n * (fsHp fb mb (holdP F k) * (pts w.heap.size (mdO ⟨true, false, mm⟩) * R)) by ac_rfl))
      obtain ⟨u0, u1, u2⟩ := md_cells (S3.perm (show _ = pts w.heap.size (mdO ⟨true, false, mm⟩) * (fsHp fb mb (holdP F k) * (tabHp tb fb pb hm L n * R)) by ac_rfl))
      have a0 := (tab_cells (S4.right.perm (show _ = tabHp tb fb pb hm L n * (fsHp fb mb (holdP F k) * (pts w.heap.size (mdO ⟨true, false, mm⟩) * R)) by ac_rfl))).1
      obtain ⟨v0, v1, v2⟩ := md_cells (S4.right.perm (show _ = pts w.heap.size (mdO ⟨true, false, mm⟩) * (fsHp fb mb (holdP F k) * (tabHp tb fb pb hm L n * R)) by ac_rfl))
      have HAd := Lib.hid (add_calls tb fb pb hm n L (.file k 0 ⟨true, false, mm⟩) w3.heap.size g Hg.out hn _ (fsHp fb mb (holdP F k) * (pts w.heap.size (mdO ⟨true, false, mm⟩) * R)) (S4.perm (show pts w3.heap.size (thO fb (.file k 0 ⟨true, false, mm⟩)) * _ = _ by ac_rfl)))
      dsimp only at u0 u1 u2 v0 v1 v2
      clear S3 S4
      go_wp2_with fail
      refine region_plan (S := (fun w' => w'.cell? ⟨tb, 0, none⟩ = some (pp fb) ∧ w'.cell? ⟨w.heap.size, 0, none⟩ = some (.bool true) ∧ w'.cell? ⟨w.heap.size, 1, none⟩ = some (.bool false) ∧ w'.cell? ⟨w.heap.size, 2, none⟩ = some (.bool mm))) [(0, true), (1, true), (2, true), (3, true), (4, true), (5, true), (6, true), (7, true), (8, false), (9, true), (10, false), (11, true), (12, true)] (by kernel_rfl) (by kernel_rfl) (by kernel_rfl) ?_ ?_
      · ((try dsimp only); (first | done | (first | with_reducible exact ⟨t0, u0, u1, u2⟩ | with_reducible exact ⟨a0, v0, v1, v2⟩ | exact K5)))
      simp only [planOps, List.map_cons, List.map_nil, List.getElem?_toArray, List.getElem?_cons_zero, List.getElem?_cons_succ]
      repeat (first
        | ((refine plan_yes (v := ?_) (by rfl) ?_ ?_); rotate_left; (focus (intro w hSw; (try dsimp only at hSw); go_simp; try (with_reducible rfl))); (try simp only [Act.put, List.setIfInBounds_toArray, List.set_cons_zero, List.set_cons_succ]))
        | ((refine plan_no (by rfl) ?_); (try simp only [Act.put, List.setIfInBounds_toArray, List.set_cons_zero, List.set_cons_succ]))
        | ((refine plan_step (fun K hK => ?_)); (first | (go_simp; ((go_at_call 68; refine HAd.out.mono ?_; rintro e w5 ⟨⟨rfl, hb5, S5⟩, R5⟩; have S5 := S5.perm (show _ = fsHp fb mb (holdP F k) * (tabHp tb fb pb hm (((g : Int), ⟨hb5, 1, w3.heap.size, .file k 0 ⟨true, false, mm⟩⟩) :: L) (n + 1) * (pts w.heap.size (mdO ⟨true, false, mm⟩) * R)) by ac_rfl); obtain ⟨x0, x1, x2⟩ := md_cells (S5.perm (show _ = pts w.heap.size (mdO ⟨true, false, mm⟩) * (fsHp fb mb (holdP F k) * (tabHp tb fb pb hm (((g : Int), ⟨hb5, 1, w3.heap.size, .file k 0 ⟨true, false, mm⟩⟩) :: L) (n + 1) * R)) by ac_rfl)); have K5 := And.intro (tab_cells (S5.perm (show _ = tabHp tb fb pb hm (((g : Int), ⟨hb5, 1, w3.heap.size, .file k 0 ⟨true, false, mm⟩⟩) :: L) (n + 1) * (fsHp fb mb (holdP F k) * (pts w.heap.size (mdO ⟨true, false, mm⟩) * R)) by ac_rfl))).1 (And.intro x0 (And.intro x1 x2)))); (try go_wp2_with fail)) | go_simp); (refine hK.out _ _ ?_ (fun hHeld => ?_)); (focus ((try dsimp only); (first | done | (first | with_reducible exact ⟨t0, u0, u1, u2⟩ | with_reducible exact ⟨a0, v0, v1, v2⟩ | exact K5)))); clear hK K; (try simp only [Act.put, List.setIfInBounds_toArray, List.set_cons_zero, List.set_cons_succ])))
      refine plan_done ?_
      have R5 := Lib.hid (Below.trans (Ran.drewN (Ran.new R3.out (flO fb k 0 ⟨true, false, mm⟩)) 1) R5)
      have S5 := Lib.hid (S5.perm (show _ = pts w.heap.size (mdO ⟨true, false, mm⟩) * (fsHp fb mb (holdP F k) * (tabHp tb fb pb hm (((g : Int), ⟨hb5, 1, w3.heap.size, .file k 0 ⟨true, false, mm⟩⟩) :: L) (n + 1) * R)) by ac_rfl))
      go_wp2_with fail
      go_ret2
      exact ⟨⟨rfl, hb5, _, S5.out.right⟩, R5.out⟩
  · have hr2 : mr = false := by simpa using hr1
    subst hr2
    have hw1 : mw = true := by rcases Hmd.out with h | h; cases h; exact h
    subst hw1
    go_enter Tryz.func62, Tryz.ntmps62
    go_wp2_with fail
    refine HSt.out.mono ?_
    rintro e w1 ⟨rfl, hB⟩
    have S2 := (S1.out.below hB).alloc (infoO 2 (sizeN x) x.names x.holds)
    have R2 := Lib.hid (Ran.new (Below.trans RA.out (below_ran hB)) (infoO 2 (sizeN x) x.names x.holds))
    obtain ⟨r0, r1, r2, r3⟩ := info_cells S2
    have S2r := S2.right
    clear t0 t1 t2
    obtain ⟨t0, t1, t2⟩ := tab_cells (S2r.perm (show _ = tabHp tb fb pb hm L n * (fsHp fb mb F * (pts w.heap.size (mdO ⟨false, true, mm⟩) * R)) by ac_rfl))
    obtain ⟨u0, u1, u2⟩ := md_cells (S2r.perm (show _ = pts w.heap.size (mdO ⟨false, true, mm⟩) * (fsHp fb mb F * (tabHp tb fb pb hm L n * R)) by ac_rfl))
    have HH := Hold_calls fb mb F k hk Hs.out _ _ S2r
    unfold statE at HH
    rw [Hx.out] at HH
    have HH := Lib.hid HH
    clear hB S2 S2r HSt S1 RA
    go_wp2_with fail
    refine HH.out.mono ?_
    rintro e w3 ⟨⟨rfl, S3⟩, R3⟩
    have S4 := (S3.alloc (flO fb k 0 ⟨false, true, mm⟩)).drew
    have S3 := S3.drew
    have R3 := Lib.hid (Below.trans R2.out R3)
    clear t0 t1 t2 u0 u1 u2 r0 r1 r2 r3 HH R2
    obtain ⟨t0, t1, t2⟩ := tab_cells (S3.perm (show _ = tabHp tb fb pb hm L n * (fsHp fb mb (holdP F k) * (pts w.heap.size (mdO ⟨false, true, mm⟩) * R)) by ac_rfl))
    obtain ⟨u0, u1, u2⟩ := md_cells (S3.perm (show _ = pts w.heap.size (mdO ⟨false, true, mm⟩) * (fsHp fb mb (holdP F k) * (tabHp tb fb pb hm L n * R)) by ac_rfl))
    have a0 := (tab_cells (S4.right.perm (show _ = tabHp tb fb pb hm L n * (fsHp fb mb (holdP F k) * (pts w.heap.size (mdO ⟨false, true, mm⟩) * R)) by ac_rfl))).1
    obtain ⟨v0, v1, v2⟩ := md_cells (S4.right.perm (show _ = pts w.heap.size (mdO ⟨false, true, mm⟩) * (fsHp fb mb (holdP F k) * (tabHp tb fb pb hm L n * R)) by ac_rfl))
    have HAd := Lib.hid (add_calls tb fb pb hm n L (.file k 0 ⟨false, true, mm⟩) w3.heap.size g Hg.out hn _ (fsHp fb mb (holdP F k) * (pts w.heap.size (mdO ⟨false, true, mm⟩) * R)) (S4.perm (show pts w3.heap.size (thO fb (.file k 0 ⟨false, true, mm⟩)) * _ = _ by ac_rfl)))
    dsimp only at u0 u1 u2 v0 v1 v2
    clear S3 S4
    go_wp2_with fail
    refine region_plan (S := (fun w' => w'.cell? ⟨tb, 0, none⟩ = some (pp fb) ∧ w'.cell? ⟨w.heap.size, 0, none⟩ = some (.bool false) ∧ w'.cell? ⟨w.heap.size, 1, none⟩ = some (.bool true) ∧ w'.cell? ⟨w.heap.size, 2, none⟩ = some (.bool mm))) [(0, true), (1, true), (2, true), (3, true), (4, true), (5, true), (6, true), (7, true), (8, false), (9, true), (10, false), (11, true), (12, true)] (by kernel_rfl) (by kernel_rfl) (by kernel_rfl) ?_ ?_
    · ((try dsimp only); (first | done | (first | with_reducible exact ⟨t0, u0, u1, u2⟩ | with_reducible exact ⟨a0, v0, v1, v2⟩ | exact K5)))
    simp only [planOps, List.map_cons, List.map_nil, List.getElem?_toArray, List.getElem?_cons_zero, List.getElem?_cons_succ]
    repeat (first
      | ((refine plan_yes (v := ?_) (by rfl) ?_ ?_); rotate_left; (focus (intro w hSw; (try dsimp only at hSw); go_simp; try (with_reducible rfl))); (try simp only [Act.put, List.setIfInBounds_toArray, List.set_cons_zero, List.set_cons_succ]))
      | ((refine plan_no (by rfl) ?_); (try simp only [Act.put, List.setIfInBounds_toArray, List.set_cons_zero, List.set_cons_succ]))
      | ((refine plan_step (fun K hK => ?_)); (first | (go_simp; ((go_at_call 68; refine HAd.out.mono ?_; rintro e w5 ⟨⟨rfl, hb5, S5⟩, R5⟩; have S5 := S5.perm (show _ = fsHp fb mb (holdP F k) * (tabHp tb fb pb hm (((g : Int), ⟨hb5, 1, w3.heap.size, .file k 0 ⟨false, true, mm⟩⟩) :: L) (n + 1) * (pts w.heap.size (mdO ⟨false, true, mm⟩) * R)) by ac_rfl); obtain ⟨x0, x1, x2⟩ := md_cells (S5.perm (show _ = pts w.heap.size (mdO ⟨false, true, mm⟩) * (fsHp fb mb (holdP F k) * (tabHp tb fb pb hm (((g : Int), ⟨hb5, 1, w3.heap.size, .file k 0 ⟨false, true, mm⟩⟩) :: L) (n + 1) * R)) by ac_rfl)); have K5 := And.intro (tab_cells (S5.perm (show _ = tabHp tb fb pb hm (((g : Int), ⟨hb5, 1, w3.heap.size, .file k 0 ⟨false, true, mm⟩⟩) :: L) (n + 1) * (fsHp fb mb (holdP F k) * (pts w.heap.size (mdO ⟨false, true, mm⟩) * R)) by ac_rfl))).1 (And.intro x0 (And.intro x1 x2)))); (try go_wp2_with fail)) | go_simp); (refine hK.out _ _ ?_ (fun hHeld => ?_)); (focus ((try dsimp only); (first | done | (first | with_reducible exact ⟨t0, u0, u1, u2⟩ | with_reducible exact ⟨a0, v0, v1, v2⟩ | exact K5)))); clear hK K; (try simp only [Act.put, List.setIfInBounds_toArray, List.set_cons_zero, List.set_cons_succ])))
    refine plan_done ?_
    have R5 := Lib.hid (Below.trans (Ran.drewN (Ran.new R3.out (flO fb k 0 ⟨false, true, mm⟩)) 1) R5)
    have S5 := Lib.hid (S5.perm (show _ = pts w.heap.size (mdO ⟨false, true, mm⟩) * (fsHp fb mb (holdP F k) * (tabHp tb fb pb hm (((g : Int), ⟨hb5, 1, w3.heap.size, .file k 0 ⟨false, true, mm⟩⟩) :: L) (n + 1) * R)) by ac_rfl))
    go_wp2_with fail
    go_ret2
    exact ⟨⟨rfl, hb5, _, S5.out.right⟩, R5.out⟩
end Go.Proofs.YteienbdbhnikbaaGreatDoor.Hd

namespace Go.Proofs.YteienbdbhnikbaaGreatDoor.Hd
open Go.RowKit Go.Maps Go.Proofs.YteienbdbhnikbaaGreatDoor Go.Proofs.YteienbdbhnikbaaGreatDoor.Hp
set_option linter.unusedVariables false

theorem meth_file_info (b : Nat) (w : World) : (method 347 159 (pp b) "whelk/handles.info").run Tryz.prog w = .ok (184, pp b) w := by kernel_rfl
theorem meth_file_read (b : Nat) (w : World) : (method 347 159 (pp b) "whelk/handles.read").run Tryz.prog w = .ok (185, pp b) w := by kernel_rfl
theorem meth_file_write (b : Nat) (w : World) : (method 347 159 (pp b) "whelk/handles.write").run Tryz.prog w = .ok (186, pp b) w := by kernel_rfl
theorem meth_file_gone (b : Nat) (w : World) : (method 347 159 (pp b) "whelk/handles.gone").run Tryz.prog w = .ok (183, pp b) w := by kernel_rfl
theorem meth_text_info (b : Nat) (w : World) : (method 347 132 (pp b) "whelk/handles.info").run Tryz.prog w = .ok (153, pp b) w := by kernel_rfl
theorem meth_text_read (b : Nat) (w : World) : (method 347 132 (pp b) "whelk/handles.read").run Tryz.prog w = .ok (154, pp b) w := by kernel_rfl
theorem meth_sink_info (b : Nat) (w : World) : (method 347 135 (pp b) "whelk/handles.info").run Tryz.prog w = .ok (157, pp b) w := by kernel_rfl
theorem meth_sink_write (b : Nat) (w : World) : (method 347 135 (pp b) "whelk/handles.write").run Tryz.prog w = .ok (159, pp b) w := by kernel_rfl
theorem meth_reader_info (b : Nat) (w : World) : (method 347 144 (pp b) "whelk/handles.info").run Tryz.prog w = .ok (168, pp b) w := by kernel_rfl
theorem meth_reader_read (b : Nat) (w : World) : (method 347 144 (pp b) "whelk/handles.read").run Tryz.prog w = .ok (169, pp b) w := by kernel_rfl
theorem meth_writer_info (b : Nat) (w : World) : (method 347 148 (pp b) "whelk/handles.info").run Tryz.prog w = .ok (178, pp b) w := by kernel_rfl
theorem meth_writer_write (b : Nat) (w : World) : (method 347 148 (pp b) "whelk/handles.write").run Tryz.prog w = .ok (180, pp b) w := by kernel_rfl
theorem field_mode (k rf a n : Int) (x y z : Bool) (w : World) : (Instr.field 52 (.agg #[.int .i64 k, .int .i64 rf, .int .i64 a, .int .i64 n, .bool x, .bool y, .bool z]) 4).run Tryz.prog w = .ok (.agg #[.bool x, .bool y, .bool z]) w := by kernel_rfl
theorem field_r (x y z : Bool) (w : World) : (Instr.field 50 (.agg #[.bool x, .bool y, .bool z]) 0).run Tryz.prog w = .ok (.bool x) w := by kernel_rfl
theorem field_w (x y z : Bool) (w : World) : (Instr.field 50 (.agg #[.bool x, .bool y, .bool z]) 1).run Tryz.prog w = .ok (.bool y) w := by kernel_rfl
end Go.Proofs.YteienbdbhnikbaaGreatDoor.Hd

namespace Go.Proofs.YteienbdbhnikbaaGreatDoor.Hd
open Go.RowKit Go.Maps Go.Proofs.YteienbdbhnikbaaGreatDoor Go.Proofs.YteienbdbhnikbaaGreatDoor.Hp
set_option linter.unusedVariables false
attribute [local go_sem] Oper.semAt_some

def atN (F : Fs) (k : Int) (x : Nd) (a : Nat) (m : Md) (d : ByteArray) : Nat := if (writeP F k x (atW x a m) d).1 = 0 then atW x a m + d.size else atW x a m
set_option maxRecDepth 100000 in
set_option maxHeartbeats 4000000 in
theorem TWrite_file (tb fb mb pb hm n : Nat) (F : Fs) (L : HL) (id k : Int) (y : Hn) (a : Nat) (m : Md) (x : Nd) (d : ByteArray) (hid : I64 id) (hy : findA L id = some y) (hyt : y.t = .file k a m) (hmw : m.w = true) (hk : I64 k) (ha : a ≤ 10000000) (hd : d.size ≤ 10000000) (hs : FsOk F) (hx : find F.L k = some x) (h2 : x.kind = 2) (hkid : x.kids = none) (hu : 0 ≤ F.used ∧ F.used ≤ 1000000000) (hr : 0 ≤ F.room ∧ F.room ≤ 1000000000) (w : World) (R : Hp)
    (h : Sat w (fsHp fb mb F * (tabHp tb fb pb hm L n * R))) :
    Calls Tryz.prog 63 #[pp tb, .int .i64 id, .string d] w fun e w' => (e = .returned (.int .i64 (writeP F k x (atW x a m) d).1) ∧
      Sat w' (fsHp fb mb (writeP F k x (atW x a m) d).2 * (tabHp tb fb pb hm (updA L id { y with t := .file k (atN F k x a m d) m }) n * R))) ∧ Ran w w' := by
  have HGt := get_calls tb fb pb hm n L id hid w _ (h.perm (show _ = tabHp tb fb pb hm L n * (fsHp fb mb F * R) by ac_rfl))
  unfold getE at HGt
  rw [show hblk L id = some y.b by unfold hblk; rw [hy]; rfl, hy] at HGt
  unfold pv at HGt
  have HGt := Lib.hid HGt
  obtain ⟨X, S1, back⟩ := tab_node (h.perm (show _ = tabHp tb fb pb hm L n * (fsHp fb mb F * R) by ac_rfl)) hy
  obtain ⟨d0, d1⟩ := hn_cells S1
  rw [hyt] at S1 d1
  unfold thT at d1
  unfold thO at S1
  have Hs := Lib.hid hs
  have hmi := meth_file_info y.xb
  have hmw2 := meth_file_write y.xb
  have S2 := S1.perm (show _ = pts y.xb (flO fb k a m) * (X * (fsHp fb mb F * R) * pts y.b (hnO y)) by ac_rfl)
  have HIn := Lib.hid (finfo_calls y.xb fb k a m w _ S2)
  have S2 := Lib.hid (S2.perm (show _ = fsHp fb mb F * (pts y.xb (flO fb k a m) * (X * R * pts y.b (hnO y))) by ac_rfl))
  obtain ⟨en, hen⟩ : ∃ en, en = (writeP F k x (atW x a m) d).1 := ⟨_, rfl⟩
  obtain ⟨F', hF'⟩ : ∃ F', F' = (writeP F k x (atW x a m) d).2 := ⟨_, rfl⟩
  obtain ⟨a2, ha2⟩ : ∃ a2, a2 = atN F k x a m d := ⟨_, rfl⟩
  have ha3 : (if (writeP F k x (atW x a m) d).1 = 0 then ((atW x a m : Nat) : Int) + (d.size : Int) else ((atW x a m : Nat) : Int)) = (a2 : Int) := by
    rw [ha2]; unfold atN; split <;> simp
  have HFW := Lib.hid (fun W hW => fwrite_calls y.xb fb mb F k a m x d hk ha hd hs hx h2 hkid hu hr W (X * R * pts y.b (hnO y)) hW)
  rw [← hen, ← hF', ← ha2]
  have Hen := Lib.hid (And.intro hen (And.intro hF' ha3))
  have Back := Lib.hid back
  have Hyt := Lib.hid hyt
  obtain ⟨mr, mw, mm⟩ := m
  dsimp only at hmw
  subst hmw
  clear h S1 back hen hF' ha2 ha3 hyt hy hs hx
  have hf1 := field_mode 1 0 a k mr true mm
  have hf2 := field_w mr true mm
  go_enter Tryz.func63, Tryz.ntmps63
  go_wp2_with fail
  refine HGt.out.mono ?_
  rintro e w1 ⟨rfl, rfl⟩
  go_wp2_with fail
  refine HIn.out.mono ?_
  rintro e w1 ⟨rfl, hB⟩
  have S3 := S2.out.below hB
  have R3 := Lib.hid (below_ran hB)
  obtain ⟨e0, e1⟩ := hn_cells (S3.perm (show _ = pts y.b (hnO y) * (fsHp fb mb F * (pts y.xb (flO fb k a ⟨mr, true, mm⟩) * (X * R))) by ac_rfl))
  rw [Hyt.out] at e1
  unfold thT at e1
  have HW := HFW.out _ S3
  rw [Hen.out.2.2, ← Hen.out.1, ← Hen.out.2.1] at HW
  have HW := Lib.hid HW
  clear hB HIn HFW HGt d0 d1 S3 S2
  go_wp2_with fail
  refine HW.out.mono ?_
  rintro e w2 ⟨⟨rfl, S4⟩, R4⟩
  have R4 := Lib.hid (Below.trans R3.out R4)
  have S5 := Lib.hid (Back.out w2 { y with t := .file k a2 ⟨mr, true, mm⟩ } (fsHp fb mb F' * R) rfl (S4.perm (show _ = pts y.b (hnO { y with t := .file k a2 ⟨mr, true, mm⟩ }) * (pts y.xb (flO fb k a2 ⟨mr, true, mm⟩) * (X * (fsHp fb mb F' * R))) by
    rw [show hnO { y with t := .file k a2 ⟨mr, true, mm⟩ } = hnO y by unfold hnO; rw [Hyt.out]; rfl]
    ac_rfl)))
  clear S4 HW
  go_wp2_with fail
  go_ret
  exact ⟨⟨rfl, S5.out.perm (by ac_rfl)⟩, R4.out⟩
end Go.Proofs.YteienbdbhnikbaaGreatDoor.Hd

namespace Go.Proofs.YteienbdbhnikbaaGreatDoor.Hd
open Go.RowKit Go.Maps Go.Proofs.YteienbdbhnikbaaGreatDoor Go.Proofs.YteienbdbhnikbaaGreatDoor.Hp
set_option linter.unusedVariables false
attribute [local go_sem] Oper.semAt_some

set_option maxRecDepth 100000 in
set_option maxHeartbeats 4000000 in
theorem Ref_calls (tb fb pb hm n : Nat) (L : HL) (id : Int) (y : Hn) (hid : I64 id) (hy : findA L id = some y) (h1 : 0 ≤ y.refs) (h2 : y.refs ≤ 1000000) (w : World) (R : Hp) (h : Sat w (tabHp tb fb pb hm L n * R)) :
    Calls Tryz.prog 50 #[pp tb, .int .i64 id] w fun e w' => (e = .returned (.int .i64 0) ∧ Sat w' (tabHp tb fb pb hm (updA L id { y with refs := y.refs + 1 }) n * R)) ∧ Ran w w' := by
  have HGt := get_calls tb fb pb hm n L id hid w _ h
  unfold getE at HGt
  rw [show hblk L id = some y.b by unfold hblk; rw [hy]; rfl, hy] at HGt
  unfold pv at HGt
  have HGt := Lib.hid HGt
  obtain ⟨X, S1, back⟩ := tab_node h hy
  obtain ⟨d0, d1⟩ := hn_cells S1
  have f0 : ∀ i, w.frozen? ⟨y.b, i, none⟩ = false := fun i => free_at S1.get i
  have S2 := Lib.hid (back _ { y with refs := y.refs + 1 } R rfl (S1.set (i := 0) (.int .i64 (y.refs + 1))))
  clear h S1 back
  go_enter Tryz.func50, Tryz.ntmps50
  go_wp2_with fail
  refine HGt.out.mono ?_
  rintro e w1 ⟨rfl, rfl⟩
  go_wp2_with fail
  go_ret
  exact ⟨⟨rfl, S2.out⟩, Ran.set (Below.refl 0 w) _ _⟩
set_option maxRecDepth 100000 in
set_option maxHeartbeats 4000000 in
/-- Unref where refs are left. -/
theorem Unref_more (tb fb pb hm n : Nat) (L : HL) (id : Int) (y : Hn) (hid : I64 id) (hy : findA L id = some y) (h1 : 2 ≤ y.refs) (h2 : y.refs ≤ 1000000) (w : World) (R : Hp) (h : Sat w (tabHp tb fb pb hm L n * R)) :
    Calls Tryz.prog 52 #[pp tb, .int .i64 id] w fun e w' => (e = .returned (.int .i64 0) ∧ Sat w' (tabHp tb fb pb hm (updA L id { y with refs := y.refs - 1 }) n * R)) ∧ Ran w w' := by
  have HGt := get_calls tb fb pb hm n L id hid w _ h
  unfold getE at HGt
  rw [show hblk L id = some y.b by unfold hblk; rw [hy]; rfl, hy] at HGt
  unfold pv at HGt
  have HGt := Lib.hid HGt
  obtain ⟨X, S1, back⟩ := tab_node h hy
  obtain ⟨d0, d1⟩ := hn_cells S1
  have f0 : ∀ i, w.frozen? ⟨y.b, i, none⟩ = false := fun i => free_at S1.get i
  have S2 := Lib.hid (back _ { y with refs := y.refs - 1 } R rfl (S1.set (i := 0) (.int .i64 (y.refs - 1))))
  have hne : ¬ y.refs - 1 = 0 := by omega
  have hnb : (y.refs - 1 == 0) = false := by simp [hne]
  clear h S1 back
  go_enter Tryz.func52, Tryz.ntmps52
  go_wp2_with fail
  refine HGt.out.mono ?_
  rintro e w1 ⟨rfl, rfl⟩
  go_wp2_with fail
  go_ret
  exact ⟨⟨rfl, S2.out⟩, Ran.set (Below.refl 0 w) _ _⟩
set_option maxRecDepth 100000 in
set_option maxHeartbeats 4000000 in
theorem fread_calls (xb fb mb : Nat) (F : Fs) (n : Int) (a : Nat) (m : Md) (x : Nd) (q : Nat) (hk : I64 n) (ha : a ≤ 10000000) (hq : q ≤ 9223372036854775807) (hs : FsOk F) (hx : find F.L n = some x) (hd1 : x.kind ≠ 1) (w : World) (R : Hp)
    (h : Sat w (fsHp fb mb F * (pts xb (flO fb n a m) * R))) :
    Calls Tryz.prog 185 #[pp xb, .int .i64 q] w fun e w' => (e = .returned (.tuple #[.string (readB x.text a q), .int .i64 0]) ∧
      Sat w' (fsHp fb mb F * (pts xb (flO fb n ((a + (readB x.text a q).size : Nat) : Int) m) * R))) ∧ Ran w w' := by
  have HRd := Read_calls fb mb F n a q x hk (by omega) (by omega) hs hx hd1 w.drew _ h.drew
  have hrs : (readB x.text a q).size ≤ x.text.size := by
    unfold readB
    rw [ByteArray.size_extract, ByteArray.size_extract]
    omega
  have htx := (hs n x hx).text
  obtain ⟨s, hs2⟩ : ∃ s, s = readB x.text a q := ⟨_, rfl⟩
  rw [← hs2] at HRd hrs ⊢
  have HRd := Lib.hid HRd
  obtain ⟨d0, d1, d2, d3, d4, d5⟩ := fl_cells h.right
  obtain ⟨d0', d1', d2', -⟩ := fl_cells h.right.drew
  have hsI : (s.size : Int) ≤ 10000000 := by omega
  have haI : (a : Int) ≤ 10000000 := by omega
  have ha0 : (0 : Int) ≤ (a : Int) := by omega
  have hqI : (q : Int) ≤ 9223372036854775807 := by omega
  have ecast : ((a + s.size : Nat) : Int) = (a : Int) + (s.size : Int) := by omega
  rw [ecast]
  clear h hs hx hd1 hs2 ecast
  go_enter Tryz.func185, Tryz.ntmps185
  go_wp2_with fail
  refine region_plan (S := (fun w' => w'.cell? ⟨xb, 0, none⟩ = some (pp fb) ∧ w'.cell? ⟨xb, 1, none⟩ = some (.int .i64 n) ∧ w'.cell? ⟨xb, 2, none⟩ = some (.int .i64 (a : Int)))) [(0, true), (1, true), (2, true), (3, true), (4, true), (5, true), (6, true), (7, true), (8, true), (9, true), (10, true), (11, true), (12, true), (13, false), (14, true), (15, true), (16, true), (17, true), (18, true)] (by kernel_rfl) (by kernel_rfl) (by kernel_rfl) ?_ ?_
  · ((try dsimp only); (first | done | (first | exact ⟨d0', d1', d2'⟩ | exact K5)))
  simp only [planOps, List.map_cons, List.map_nil, List.getElem?_toArray, List.getElem?_cons_zero, List.getElem?_cons_succ]
  repeat (first
    | ((refine plan_yes (v := ?_) (by rfl) ?_ ?_); rotate_left; (focus (intro w hSw; (try dsimp only at hSw); go_simp; try (with_reducible rfl))); (try simp only [Act.put, List.setIfInBounds_toArray, List.set_cons_zero, List.set_cons_succ]))
    | ((refine plan_no (by rfl) ?_); (try simp only [Act.put, List.setIfInBounds_toArray, List.set_cons_zero, List.set_cons_succ]))
    | ((refine plan_step (fun K hK => ?_)); (first | (go_simp; ((go_at_call 29; refine HRd.out.mono ?_; rintro e w5 ⟨⟨rfl, S5⟩, R5⟩; have K5 := (And.intro (fl_cells S5.right).1 (And.intro (fl_cells S5.right).2.1 (fl_cells S5.right).2.2.1)))); (try go_wp2_with fail)) | go_simp); (refine hK.out _ _ ?_ (fun hHeld => ?_)); (focus ((try dsimp only); (first | done | (first | exact ⟨d0', d1', d2'⟩ | exact K5)))); clear hK K; (try simp only [Act.put, List.setIfInBounds_toArray, List.set_cons_zero, List.set_cons_succ])))
  refine plan_done ?_
  have R5 := Lib.hid (Below.trans (Ran.drewN (Below.refl 0 w) 1) R5)
  clear d0 d1 d2 d3 d4 d5 d0' d1' d2' K5 HRd
  obtain ⟨d0, d1, d2, d3, d4, d5⟩ := fl_cells S5.right
  have S5' := S5.perm (show _ = pts xb (flO fb n (a : Int) m) * (fsHp fb mb F * R) by ac_rfl)
  have f0 : ∀ i, w5.frozen? ⟨xb, i, none⟩ = false := fun i => free_at S5'.get i
  have S6 := Lib.hid ((S5'.set (i := 2) (.int .i64 ((a : Int) + (s.size : Int)))).perm (show pts xb (flO fb n ((a : Int) + (s.size : Int)) m) * (fsHp fb mb F * R) = fsHp fb mb F * (pts xb (flO fb n ((a : Int) + (s.size : Int)) m) * R) by ac_rfl))
  clear S5 S5'
  go_wp2_with fail
  go_ret2
  exact ⟨⟨rfl, S6.out⟩, Ran.set R5.out _ _⟩
set_option maxRecDepth 100000 in
set_option maxHeartbeats 4000000 in
theorem TRead_file (tb fb mb pb hm n : Nat) (F : Fs) (L : HL) (id k : Int) (y : Hn) (a : Nat) (m : Md) (x : Nd) (q : Nat) (hid : I64 id) (hy : findA L id = some y) (hyt : y.t = .file k a m) (hmr : m.r = true) (hk : I64 k) (ha : a ≤ 10000000) (hq : q ≤ 9223372036854775807) (hs : FsOk F) (hx : find F.L k = some x) (h2 : x.kind ≠ 1) (w : World) (R : Hp)
    (h : Sat w (fsHp fb mb F * (tabHp tb fb pb hm L n * R))) :
    Calls Tryz.prog 70 #[pp tb, .int .i64 id, .int .i64 q] w fun e w' => (e = .returned (.tuple #[.string (readB x.text a q), .int .i64 0]) ∧
      Sat w' (fsHp fb mb F * (tabHp tb fb pb hm (updA L id { y with t := .file k (a + (readB x.text a q).size) m }) n * R))) ∧ Ran w w' := by
  have HGt := get_calls tb fb pb hm n L id hid w _ (h.perm (show _ = tabHp tb fb pb hm L n * (fsHp fb mb F * R) by ac_rfl))
  unfold getE at HGt
  rw [show hblk L id = some y.b by unfold hblk; rw [hy]; rfl, hy] at HGt
  unfold pv at HGt
  have HGt := Lib.hid HGt
  obtain ⟨X, S1, back⟩ := tab_node (h.perm (show _ = tabHp tb fb pb hm L n * (fsHp fb mb F * R) by ac_rfl)) hy
  obtain ⟨d0, d1⟩ := hn_cells S1
  rw [hyt] at S1 d1
  unfold thT at d1
  unfold thO at S1
  have hmi := meth_file_info y.xb
  have hmw2 := meth_file_read y.xb
  have S2 := S1.perm (show _ = pts y.xb (flO fb k a m) * (X * (fsHp fb mb F * R) * pts y.b (hnO y)) by ac_rfl)
  have HIn := Lib.hid (finfo_calls y.xb fb k a m w _ S2)
  have S2 := Lib.hid (S2.perm (show _ = fsHp fb mb F * (pts y.xb (flO fb k a m) * (X * R * pts y.b (hnO y))) by ac_rfl))
  have HFR := Lib.hid (fun W hW => fread_calls y.xb fb mb F k a m x q hk ha hq hs hx h2 W (X * R * pts y.b (hnO y)) hW)
  obtain ⟨s, hs2⟩ : ∃ s, s = readB x.text a q := ⟨_, rfl⟩
  rw [← hs2] at HFR ⊢
  have Back := Lib.hid back
  have Hyt := Lib.hid hyt
  obtain ⟨mr, mw, mm⟩ := m
  dsimp only at hmr
  subst hmr
  have hf1 := field_mode 1 0 a k true mw mm
  have hf2 := field_r true mw mm
  have hq0 : (0 : Int) ≤ (q : Int) := by omega
  clear h S1 back hyt hy hs hx hs2
  go_enter Tryz.func70, Tryz.ntmps70
  go_wp2_with fail
  refine HGt.out.mono ?_
  rintro e w1 ⟨rfl, rfl⟩
  go_wp2_with fail
  refine HIn.out.mono ?_
  rintro e w1 ⟨rfl, hB⟩
  have S3 := S2.out.below hB
  have R3 := Lib.hid (below_ran hB)
  obtain ⟨e0, e1⟩ := hn_cells (S3.perm (show _ = pts y.b (hnO y) * (fsHp fb mb F * (pts y.xb (flO fb k a ⟨true, mw, mm⟩) * (X * R))) by ac_rfl))
  rw [Hyt.out] at e1
  unfold thT at e1
  have HW := Lib.hid (HFR.out _ S3)
  clear hB HIn HFR HGt d0 d1 S3 S2
  go_wp2_with fail
  refine HW.out.mono ?_
  rintro e w2 ⟨⟨rfl, S4⟩, R4⟩
  have R4 := Lib.hid (Below.trans R3.out R4)
  have S5 := Lib.hid (Back.out w2 { y with t := .file k (a + s.size) ⟨true, mw, mm⟩ } (fsHp fb mb F * R) rfl (S4.perm (show _ = pts y.b (hnO { y with t := .file k (a + s.size) ⟨true, mw, mm⟩ }) * (pts y.xb (flO fb k ((a + s.size : Nat) : Int) ⟨true, mw, mm⟩) * (X * (fsHp fb mb F * R))) by
    rw [show hnO { y with t := .file k (a + s.size) ⟨true, mw, mm⟩ } = hnO y by unfold hnO; rw [Hyt.out]; rfl]
    ac_rfl)))
  clear S4 HW
  go_wp2_with fail
  go_ret2
  exact ⟨⟨rfl, S5.out.perm (by ac_rfl)⟩, R4.out⟩
end Go.Proofs.YteienbdbhnikbaaGreatDoor.Hd

namespace Go.Proofs.YteienbdbhnikbaaGreatDoor.Hd
open Go.RowKit Go.Maps Go.Proofs.YteienbdbhnikbaaGreatDoor Go.Proofs.YteienbdbhnikbaaGreatDoor.Hp
set_option linter.unusedVariables false
attribute [local go_sem] Oper.semAt_some

def NodupK (L : HL) : Prop := (L.map Prod.fst).Nodup
theorem findA_del {α : Type} : ∀ (L : List (Int × α)) (k j : Int), (L.map Prod.fst).Nodup → findA (delA L k) j = if j = k then none else findA L j
  | [], k, j, _ => by unfold delA findA; simp
  | p :: L, k, j, h => by
    rw [List.map_cons, List.nodup_cons] at h
    unfold delA
    by_cases e : p.1 = k
    · rw [if_pos e]
      by_cases e2 : j = k
      · rw [if_pos e2]
        cases hf : findA L j with
        | none => rfl
        | some z => exact absurd (findA_mem L j (by rw [hf]; rfl)) (by rw [e2, ← e]; exact h.1)
      · rw [if_neg e2]
        show _ = (if p.1 = j then some p.2 else findA L j)
        rw [if_neg (fun h => e2 (by rw [← h, e]))]
    · rw [if_neg e]
      show (if p.1 = j then some p.2 else findA (delA L k) j) = if j = k then none else (if p.1 = j then some p.2 else findA L j)
      by_cases e2 : p.1 = j
      · rw [if_pos e2, if_pos e2, if_neg (fun h => e (by rw [e2, h]))]
      · rw [if_neg e2, if_neg e2, findA_del L k j h.2]
theorem delA_len {α : Type} : ∀ (L : List (Int × α)) (k : Int), (findA L k).isSome = true → (delA L k).length + 1 = L.length
  | [], k, h => by cases h
  | p :: L, k, h => by
    unfold findA at h
    unfold delA
    by_cases e : p.1 = k
    · rw [if_pos e]; rfl
    · rw [if_neg e] at h ⊢
      show (delA L k).length + 1 + 1 = L.length + 1
      rw [delA_len L k h]
theorem hblk_del {L : HL} (hn : NodupK L) (k : Int) : hblk (delA L k) = delP (hblk L) k := by
  funext j
  unfold hblk delP
  rw [findA_del L k j hn]
  by_cases e : j = k
  · rw [if_pos e, if_pos e]; rfl
  · rw [if_neg e, if_neg e]
-- KINDS{
set_option maxRecDepth 100000 in
set_option maxHeartbeats 4000000 in
/-- The last Unref, by what the thing's gone does. -/
theorem Unref_last_file (tb fb pb hm n : Nat) (L : HL) (id : Int) (y : Hn) (hid : I64 id) (hy : findA L id = some y) (hnd : NodupK L) (h1 : y.refs = 1) (w : World) (R R' : Hp)
    (hT : thT y.t = 159)
    (HG : ∀ W, Sat W (pts y.xb (thO fb y.t) * (tabHp tb fb pb hm (delA L id) n * R)) → Calls Tryz.prog 183 #[pp y.xb] W fun e w' => (e = .returned (.tuple #[]) ∧ Sat w' (tabHp tb fb pb hm (delA L id) n * R')) ∧ Ran W w')
    (h : Sat w (tabHp tb fb pb hm L n * R)) :
    Calls Tryz.prog 52 #[pp tb, .int .i64 id] w fun e w' => (e = .returned (.int .i64 0) ∧ Sat w' (tabHp tb fb pb hm (delA L id) n * R')) ∧ Ran w w' := by
  have HGt := get_calls tb fb pb hm n L id hid w _ h
  unfold getE at HGt
  rw [show hblk L id = some y.b by unfold hblk; rw [hy]; rfl, hy] at HGt
  unfold pv at HGt
  have HGt := Lib.hid HGt
  obtain ⟨X, e1, -, e3⟩ := focusA (hnHp fb) L id y hy
  have hlen := delA_len L id (by rw [hy]; rfl)
  have S1 := h.perm (show _ = pts y.b (hnO y) * (pmap hm (hblk L) ((delA L id).length + 1) n * (pts y.xb (thO fb y.t) * (pts tb (tbO fb pb hm) * (X * R)))) by unfold tabHp; rw [e1, ← hlen]; unfold hnHp; ac_rfl)
  obtain ⟨d0, d1⟩ := hn_cells S1
  rw [h1] at d0
  have f0 : ∀ i, w.frozen? ⟨y.b, i, none⟩ = false := fun i => free_at S1.get i
  have S2 := S1.set (i := 0) (.int .i64 0)
  obtain ⟨q0, q1⟩ := hn_cells (x := { y with refs := 0 }) S2
  have c2 : (w.setCell ⟨y.b, 0, none⟩ (.int .i64 0)).cell? ⟨tb, 2, none⟩ = some (.map (some hm)) := by
    rw [cell_at (S2.perm (show _ = pts tb (tbO fb pb hm) * (pts y.b (hnO { y with refs := 0 }) * (pmap hm (hblk L) ((delA L id).length + 1) n * (pts y.xb (thO fb y.t) * (X * R)))) by show pts y.b (hnO { y with refs := 0 }) * _ = _; ac_rfl)).get]; rfl
  obtain ⟨w2, hrun, S3, R3⟩ := pmap_del Tryz.underlying101 (S2.perm (show _ = pmap hm (hblk L) ((delA L id).length + 1) n * (pts y.b (hnO { y with refs := 0 }) * (pts y.xb (thO fb y.t) * (pts tb (tbO fb pb hm) * (X * R)))) by show pts y.b (hnO { y with refs := 0 }) * _ = _; ac_rfl)) id hid (by unfold hblk; rw [hy]; rfl) 0
  obtain ⟨x0, x1⟩ := hn_cells (x := { y with refs := 0 }) (S3.perm (show _ = pts y.b (hnO { y with refs := 0 }) * (pmap hm (delP (hblk L) id) (delA L id).length n * (pts y.xb (thO fb y.t) * (pts tb (tbO fb pb hm) * (X * R)))) by ac_rfl))
  have S4 := S3.perm (show _ = pts y.b (hnO { y with refs := 0 }) * (pts y.xb (thO fb y.t) * (tabHp tb fb pb hm (delA L id) n * R)) by unfold tabHp; rw [hblk_del hnd, e3]; ac_rfl)
  have HGo := Lib.hid (HG w2 S4.right)
  have R4 := Lib.hid (Below.trans (Ran.set (Below.refl 0 w) ⟨y.b, 0, none⟩ (.int .i64 0)) R3)
  have hmt := meth_file_gone y.xb
  dsimp only at q1 x1
  rw [hT] at d1 q1 x1
  clear h S1 S2 S3 S4 HG hT e1 e3 hlen R3
  go_enter Tryz.func52, Tryz.ntmps52
  go_wp2_with fail
  refine HGt.out.mono ?_
  rintro e w1 ⟨rfl, rfl⟩
  go_wp2_with fail
  refine HGo.out.mono ?_
  rintro e w3 ⟨⟨rfl, S5⟩, R5⟩
  have R5 := Lib.hid (Below.trans R4.out R5)
  have S5 := Lib.hid S5
  clear HGo R4
  go_wp2_with fail
  go_ret
  exact ⟨⟨rfl, S5.out⟩, R5.out⟩
end Go.Proofs.YteienbdbhnikbaaGreatDoor.Hd

namespace Go.Proofs.YteienbdbhnikbaaGreatDoor.Hd
open Go.RowKit Go.Maps Go.Proofs.YteienbdbhnikbaaGreatDoor Go.Proofs.YteienbdbhnikbaaGreatDoor.Hp
set_option linter.unusedVariables false
attribute [local go_sem] Oper.semAt_some

set_option maxRecDepth 100000 in
set_option maxHeartbeats 8000000 in
theorem TStat_file (tb fb pb hm n : Nat) (L : HL) (id k : Int) (y : Hn) (a : Nat) (m : Md) (hid : I64 id) (hy : findA L id = some y) (hyt : y.t = .file k a m) (w : World) (R : Hp)
    (h : Sat w (tabHp tb fb pb hm L n * R)) :
    Calls Tryz.prog 21 #[pp tb, .int .i64 id] w fun e w' => e = .returned (.tuple #[inV 1 y.refs a k m, .int .i64 0]) ∧ Below w.heap.size w w' := by
  have S0 := (h.alloc (inO 0 0 0 0 ⟨false, false, false⟩)).perm (show _ = tabHp tb fb pb hm L n * (pts w.heap.size (inO 0 0 0 0 ⟨false, false, false⟩) * R) by ac_rfl)
  have hB0 := (Below.refl w.heap.size w).alloc (Nat.le_refl _) (inO 0 0 0 0 ⟨false, false, false⟩)
  have HGt := get_calls tb fb pb hm n L id hid _ _ S0
  unfold getE at HGt
  rw [show hblk L id = some y.b by unfold hblk; rw [hy]; rfl, hy] at HGt
  unfold pv at HGt
  have HGt := Lib.hid HGt
  obtain ⟨X, S1, back⟩ := tab_node S0 hy
  obtain ⟨d0, d1⟩ := hn_cells S1
  rw [hyt] at S1 d1
  unfold thT at d1
  unfold thO at S1
  have hmi := meth_file_info y.xb
  have S2 := S1.perm (show _ = pts y.xb (flO fb k a m) * (X * (pts w.heap.size (inO 0 0 0 0 ⟨false, false, false⟩) * R) * pts y.b (hnO y)) by ac_rfl)
  have HIn := Lib.hid (finfo_calls y.xb fb k a m _ _ S2)
  have S2 := Lib.hid S2
  have hB0 := Lib.hid hB0
  obtain ⟨mr, mw, mm⟩ := m
  clear h S0 S1 back hy
  go_enter Tryz.func21, Tryz.ntmps21
  go_wp2_with fail
  refine HGt.out.mono ?_
  rintro e w1 ⟨rfl, rfl⟩
  go_wp2_with fail
  refine HIn.out.mono ?_
  rintro e w1 ⟨rfl, hB⟩
  have S3 := (S2.out.below hB).alloc (inO 1 0 a k ⟨mr, mw, mm⟩)
  have S4 := (S2.out.below hB).alloc (inO 1 y.refs a k ⟨mr, mw, mm⟩)
  obtain ⟨p0, p1⟩ := hn_cells (S3.perm (show _ = pts y.b (hnO y) * (pts w1.heap.size (inO 1 0 a k ⟨mr, mw, mm⟩) * (pts y.xb (flO fb k a ⟨mr, mw, mm⟩) * (X * (pts w.heap.size (inO 0 0 0 0 ⟨false, false, false⟩) * R)))) by ac_rfl))
  obtain ⟨u0, u1, u2, u3, u4, u5, u6⟩ := in_cells S4
  have S5 := S4.perm (show _ = pts w.heap.size (inO 0 0 0 0 ⟨false, false, false⟩) * (pts w1.heap.size (inO 1 y.refs a k ⟨mr, mw, mm⟩) * (pts y.b (hnO y) * (pts y.xb (flO fb k a ⟨mr, mw, mm⟩) * (X * R)))) by ac_rfl)
  obtain ⟨z0, z1, z2, z3, z4, z5, z6⟩ := in_cells S5
  have f0 : ∀ i, (w1.alloc (inO 1 y.refs a k ⟨mr, mw, mm⟩)).frozen? ⟨w.heap.size, i, none⟩ = false := fun i => free_at S5.get i
  have S6 := ((((((S5.set (i := 0) (.int .i64 1)).set (i := 1) (.int .i64 y.refs)).set (i := 2) (.int .i64 a)).set (i := 3) (.int .i64 k)).set (i := 4) (.bool mr)).set (i := 5) (.bool mw)).set (i := 6) (.bool mm)
  obtain ⟨r0, r1, r2, r3, r4, r5, r6⟩ := in_cells (k := 1) (rf := y.refs) (a := a) (n := k) (m := ⟨mr, mw, mm⟩) S6
  have hle : w.heap.size ≤ w1.heap.size := Nat.le_trans hB0.out.size hB.size
  have HB := Lib.hid (((((((((hB0.out.trans (hB.mono hB0.out.size)).alloc hle (inO 1 y.refs a k ⟨mr, mw, mm⟩)).setCell (Nat.le_refl _) (p := ⟨w.heap.size, 0, none⟩) (.int .i64 1)).setCell (Nat.le_refl _) (p := ⟨w.heap.size, 1, none⟩) (.int .i64 y.refs)).setCell (Nat.le_refl _) (p := ⟨w.heap.size, 2, none⟩) (.int .i64 a)).setCell (Nat.le_refl _) (p := ⟨w.heap.size, 3, none⟩) (.int .i64 k)).setCell (Nat.le_refl _) (p := ⟨w.heap.size, 4, none⟩) (.bool mr)).setCell (Nat.le_refl _) (p := ⟨w.heap.size, 5, none⟩) (.bool mw)).setCell (Nat.le_refl _) (p := ⟨w.heap.size, 6, none⟩) (.bool mm))
  dsimp only at z4 z5 z6 u4 u5 u6 r4 r5 r6
  clear hB HIn HGt d0 d1 S3 S4 S5 S6 S2 hB0 hle
  go_wp2_with fail
  refine bodyPost_ret (v := .tuple #[inV 1 y.refs a k ⟨mr, mw, mm⟩, .int .i64 0]) (by simp [results, Tryz.results21, go_sem, r0, r1, r2, r3, r4, r5, r6]) rfl ⟨rfl, HB.out⟩
end Go.Proofs.YteienbdbhnikbaaGreatDoor.Hd

namespace Go.Proofs.YteienbdbhnikbaaGreatDoor.Hd
open Go.RowKit Go.Maps Go.Proofs.YteienbdbhnikbaaGreatDoor Go.Proofs.YteienbdbhnikbaaGreatDoor.Hp
set_option linter.unusedVariables false
attribute [local go_sem] Oper.semAt_some

abbrev ebO (k : Int) : Obj := .cells #[.int .i64 k] 3 (0, 0)
abbrev rdO (bb eb : Nat) : Obj := .cells #[pp bb, pp eb] 147 (0, 0)
abbrev wrO (bb eb : Nat) : Obj := .cells #[pp bb, pp eb] 149 (0, 0)
set_option maxRecDepth 100000 in
set_option maxHeartbeats 8000000 in
theorem Pipe_calls (tb fb bp hm n held used opn tot : Nat) (L : HL) (g1 g2 : Nat) (hg1 : Free L g1) (hg2 : ∀ x, Free (((g1 : Int), x) :: L) g2) (hn : n ≤ 900000) (ho : opn ≤ 1000000) (w : World) (R : Hp)
    (h : Sat w (tabHp tb fb bp hm L n * (Spill.poolX bp 40 3 4 held used opn tot * R))) :
    Calls Tryz.prog 37 #[pp tb] w fun e w' => (e = .returned (.tuple #[.int .i64 (g1 : Int), .int .i64 (g2 : Int), .int .i64 0]) ∧
      ∃ bb eb h1 x1 h2 x2, Sat w' (tabHp tb fb bp hm (((g2 : Int), ⟨h2, 1, x2, .writer bb eb⟩) :: ((g1 : Int), ⟨h1, 1, x1, .reader bb eb⟩) :: L) (n + 2) * (Spill.poolX bp 40 3 4 held used (opn + 1) tot * (Spill.bufX bb bp 3 4 0 [] * (pts eb (ebO 2) * R))))) ∧ Ran w w' := by
  have S1 := h.alloc (ebO 2)
  obtain ⟨t0, t1, t2⟩ := tab_cells (S1.perm (show _ = tabHp tb fb bp hm L n * (pts w.heap.size (ebO 2) * (Spill.poolX bp 40 3 4 held used opn tot * R)) by ac_rfl))
  have HOp := Lib.hid (Spill.xopen bp 40 3 4 held used opn tot _ _ (by omega) (by omega) (by omega) (S1.perm (show _ = Spill.poolX bp 40 3 4 held used opn tot * (tabHp tb fb bp hm L n * (pts w.heap.size (ebO 2) * R)) by ac_rfl)))
  have R1 := Lib.hid (Ran.new (Below.refl 0 w) (ebO 2))
  clear h S1
  go_enter Tryz.func37, Tryz.ntmps37
  go_wp2_with fail
  refine HOp.out.mono ?_
  rintro e w1 ⟨bb, rfl, S2, R2⟩
  have R2 := Lib.hid (Ran.new (Below.trans R1.out R2) (rdO bb w.heap.size))
  have HA1 := Lib.hid (add_calls tb fb bp hm n L (.reader bb w.heap.size) w1.heap.size g1 hg1 (by omega) _ _ ((S2.alloc (rdO bb w.heap.size)).perm (show pts w1.heap.size (thO fb (.reader bb w.heap.size)) * _ = tabHp tb fb bp hm L n * (pts w1.heap.size (thO fb (.reader bb w.heap.size)) * (Spill.poolX bp 40 3 4 held used (opn + 1) tot * (Spill.bufX bb bp 3 4 0 [] * (pts w.heap.size (ebO 2) * R)))) by ac_rfl)))
  clear S2 HOp R1 t0 t1 t2
  go_wp2_with fail
  refine HA1.out.mono ?_
  rintro e w2 ⟨⟨rfl, h1, S3⟩, R3⟩
  have R3 := Lib.hid (Ran.new (Below.trans R2.out R3) (wrO bb w.heap.size))
  have HA2 := Lib.hid (add_calls tb fb bp hm (n + 1) _ (.writer bb w.heap.size) w2.heap.size g2 (hg2 _) (by omega) _ _ ((S3.alloc (wrO bb w.heap.size)).perm (show pts w2.heap.size (thO fb (.writer bb w.heap.size)) * _ = tabHp tb fb bp hm (((g1 : Int), ⟨h1, 1, w1.heap.size, .reader bb w.heap.size⟩) :: L) (n + 1) * (pts w2.heap.size (thO fb (.writer bb w.heap.size)) * (Spill.poolX bp 40 3 4 held used (opn + 1) tot * (Spill.bufX bb bp 3 4 0 [] * (pts w.heap.size (ebO 2) * R)))) by ac_rfl)))
  clear S3 HA1 R2
  go_wp2_with fail
  refine HA2.out.mono ?_
  rintro e w3 ⟨⟨rfl, h2, S4⟩, R4⟩
  have R4 := Lib.hid (Below.trans R3.out R4)
  have S4 := Lib.hid S4
  clear HA2 R3
  go_wp2_with fail
  refine bodyPost_ret (v := .tuple #[.int .i64 (g1 : Int), .int .i64 (g2 : Int), .int .i64 0]) (by simp [results, Tryz.results37, go_sem]) rfl ?_
  exact ⟨⟨rfl, bb, w.heap.size, h1, w1.heap.size, h2, w2.heap.size, S4.out⟩, R4.out⟩
theorem rd_cells {w : World} {b bb eb : Nat} {S : Hp} {T : TypeId} (h : Sat w (pts b (.cells #[pp bb, pp eb] T (0, 0)) * S)) : w.cell? ⟨b, 0, none⟩ = some (pp bb) ∧ w.cell? ⟨b, 1, none⟩ = some (pp eb) := by
  have hb := h.get
  refine ⟨?_, ?_⟩ <;> rw [cell_at hb] <;> rfl
end Go.Proofs.YteienbdbhnikbaaGreatDoor.Hd

