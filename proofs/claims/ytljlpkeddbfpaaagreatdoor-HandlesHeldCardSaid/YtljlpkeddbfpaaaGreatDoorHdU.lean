/- Ref, Unref where refs are left, a file's read and gone, Read of a table at a file walked. -/
import Derived.Test.YtljlpkeddbfpaaaGreatDoorHdM
namespace Go.Proofs.YtljlpkeddbfpaaaGreatDoor.Hd
open Go.RowKit Go.Maps Go.Proofs.YtljlpkeddbfpaaaGreatDoor Go.Proofs.YtljlpkeddbfpaaaGreatDoor.Hp
set_option linter.unusedVariables false
attribute [local go_sem] Oper.semAt_some

set_option maxRecDepth 100000 in
set_option maxHeartbeats 4000000 in
theorem Ref_calls (tb fb pb hm n : Nat) (L : HL) (id : Int) (y : Hn) (hid : I64 id) (hy : findA L id = some y) (h1 : 0 ≤ y.refs) (h2 : y.refs ≤ 1000000) (w : World) (R : Hp) (h : Sat w (tabHp tb fb pb hm L n * R)) :
    Calls Tryz.prog 18 #[pp tb, .int .i64 id] w fun e w' => (e = .returned (.int .i64 0) ∧ Sat w' (tabHp tb fb pb hm (updA L id { y with refs := y.refs + 1 }) n * R)) ∧ Ran w w' := by
  have HGt := get_calls tb fb pb hm n L id hid w _ h
  unfold getE at HGt
  rw [show hblk L id = some y.b by unfold hblk; rw [hy]; rfl, hy] at HGt
  unfold pv at HGt
  have HGt := Lib.hid HGt
  obtain ⟨X, S1, back⟩ := tab_node h hy
  obtain ⟨d0, d1⟩ := hn_cells S1
  have f0 : ∀ i, w.frozen? ⟨y.b, i, none⟩ = false := fun i => free_at S1.get i
  have S2 := Lib.hid (back _ { y with refs := y.refs + 1 } R rfl (S1.set (i := 0) (.int .i64 (y.refs + 1))))
  clear h S1 back
  go_enter Tryz.func18, Tryz.ntmps18
  go_wp2_with fail
  refine HGt.out.mono ?_
  rintro e w1 ⟨rfl, rfl⟩
  go_wp2_with fail
  go_ret
  exact ⟨⟨rfl, S2.out⟩, Ran.set (Below.refl 0 w) _ _⟩
set_option maxRecDepth 100000 in
set_option maxHeartbeats 4000000 in
/-- Unref where refs are left. -/
theorem Unref_more (tb fb pb hm n : Nat) (L : HL) (id : Int) (y : Hn) (hid : I64 id) (hy : findA L id = some y) (h1 : 2 ≤ y.refs) (h2 : y.refs ≤ 1000000) (w : World) (R : Hp) (h : Sat w (tabHp tb fb pb hm L n * R)) :
    Calls Tryz.prog 27 #[pp tb, .int .i64 id] w fun e w' => (e = .returned (.int .i64 0) ∧ Sat w' (tabHp tb fb pb hm (updA L id { y with refs := y.refs - 1 }) n * R)) ∧ Ran w w' := by
  have HGt := get_calls tb fb pb hm n L id hid w _ h
  unfold getE at HGt
  rw [show hblk L id = some y.b by unfold hblk; rw [hy]; rfl, hy] at HGt
  unfold pv at HGt
  have HGt := Lib.hid HGt
  obtain ⟨X, S1, back⟩ := tab_node h hy
  obtain ⟨d0, d1⟩ := hn_cells S1
  have f0 : ∀ i, w.frozen? ⟨y.b, i, none⟩ = false := fun i => free_at S1.get i
  have S2 := Lib.hid (back _ { y with refs := y.refs - 1 } R rfl (S1.set (i := 0) (.int .i64 (y.refs - 1))))
  have hne : ¬ y.refs - 1 = 0 := by omega
  have hnb : (y.refs - 1 == 0) = false := by simp [hne]
  clear h S1 back
  go_enter Tryz.func27, Tryz.ntmps27
  go_wp2_with fail
  refine HGt.out.mono ?_
  rintro e w1 ⟨rfl, rfl⟩
  go_wp2_with fail
  go_ret
  exact ⟨⟨rfl, S2.out⟩, Ran.set (Below.refl 0 w) _ _⟩
set_option maxRecDepth 100000 in
set_option maxHeartbeats 4000000 in
theorem fread_calls (xb fb mb : Nat) (F : Fs) (n : Int) (a : Nat) (m : Md) (x : Nd) (q : Nat) (hk : I64 n) (ha : a ≤ 10000000) (hq : q ≤ 9223372036854775807) (hs : FsOk F) (hx : find F.L n = some x) (hd1 : x.kind ≠ 1) (w : World) (R : Hp)
    (h : Sat w (fsHp fb mb F * (pts xb (flO fb n a m) * R))) :
    Calls Tryz.prog 207 #[pp xb, .int .i64 q] w fun e w' => (e = .returned (.tuple #[.string (readB x.text a q), .int .i64 0]) ∧
      Sat w' (fsHp fb mb F * (pts xb (flO fb n ((a + (readB x.text a q).size : Nat) : Int) m) * R))) ∧ Ran w w' := by
  have HRd := Read_calls fb mb F n a q x hk (by omega) (by omega) hs hx hd1 w.drew _ h.drew
  have hrs : (readB x.text a q).size ≤ x.text.size := by
    unfold readB
    rw [ByteArray.size_extract, ByteArray.size_extract]
    omega
  have htx := (hs n x hx).text
  obtain ⟨s, hs2⟩ : ∃ s, s = readB x.text a q := ⟨_, rfl⟩
  rw [← hs2] at HRd hrs ⊢
  have HRd := Lib.hid HRd
  obtain ⟨d0, d1, d2, d3, d4, d5⟩ := fl_cells h.right
  obtain ⟨d0', d1', d2', -⟩ := fl_cells h.right.drew
  have hsI : (s.size : Int) ≤ 10000000 := by omega
  have haI : (a : Int) ≤ 10000000 := by omega
  have ha0 : (0 : Int) ≤ (a : Int) := by omega
  have hqI : (q : Int) ≤ 9223372036854775807 := by omega
  have ecast : ((a + s.size : Nat) : Int) = (a : Int) + (s.size : Int) := by omega
  rw [ecast]
  clear h hs hx hd1 hs2 ecast
  go_enter Tryz.func207, Tryz.ntmps207
  go_wp2_with fail
  refine Go.Proofs.YtljlpkeddbfpaaaGreatDoor.region_plan (S := (fun w' => w'.cell? ⟨xb, 0, none⟩ = some (pp fb) ∧ w'.cell? ⟨xb, 1, none⟩ = some (.int .i64 n) ∧ w'.cell? ⟨xb, 2, none⟩ = some (.int .i64 (a : Int)))) [(0, true), (1, true), (2, true), (3, true), (4, true), (5, true), (6, true), (7, true), (8, true), (9, true), (10, true), (11, true), (12, true), (13, false), (14, true), (15, true), (16, true), (17, true), (18, true)] (by kernel_rfl) (by kernel_rfl) (by kernel_rfl) ?_ ?_
  · ((try dsimp only); (first | done | (first | exact ⟨d0', d1', d2'⟩ | exact K5)))
  simp only [Go.Proofs.YtljlpkeddbfpaaaGreatDoor.planOps, List.map_cons, List.map_nil, List.getElem?_toArray, List.getElem?_cons_zero, List.getElem?_cons_succ]
  repeat (first
    | ((refine Go.Proofs.YtljlpkeddbfpaaaGreatDoor.plan_yes (v := ?_) (by rfl) ?_ ?_); rotate_left; (focus (intro w hSw; (try dsimp only at hSw); go_simp; try (with_reducible rfl))); (try simp only [Act.put, List.setIfInBounds_toArray, List.set_cons_zero, List.set_cons_succ]))
    | ((refine Go.Proofs.YtljlpkeddbfpaaaGreatDoor.plan_no (by rfl) ?_); (try simp only [Act.put, List.setIfInBounds_toArray, List.set_cons_zero, List.set_cons_succ]))
    | ((refine Go.Proofs.YtljlpkeddbfpaaaGreatDoor.plan_step (fun K hK => ?_)); (first | ((go_at_call 12; refine HRd.out.mono ?_; rintro e w5 ⟨⟨rfl, S5⟩, R5⟩; have K5 := (And.intro (fl_cells S5.right).1 (And.intro (fl_cells S5.right).2.1 (fl_cells S5.right).2.2.1)))) | (go_simp; ((go_at_call 12; refine HRd.out.mono ?_; rintro e w5 ⟨⟨rfl, S5⟩, R5⟩; have K5 := (And.intro (fl_cells S5.right).1 (And.intro (fl_cells S5.right).2.1 (fl_cells S5.right).2.2.1)))); (try go_wp2_with fail)) | go_simp); (refine hK.out _ _ ?_ (fun hHeld => ?_)); (focus ((try dsimp only); (first | done | (first | exact ⟨d0', d1', d2'⟩ | exact K5)))); clear hK K; (try simp only [Act.put, List.setIfInBounds_toArray, List.set_cons_zero, List.set_cons_succ])))
  refine Go.Proofs.YtljlpkeddbfpaaaGreatDoor.plan_done ?_
  have R5 := Lib.hid (Below.trans (Ran.drewN (Below.refl 0 w) 1) R5)
  clear d0 d1 d2 d3 d4 d5 d0' d1' d2' K5 HRd
  obtain ⟨d0, d1, d2, d3, d4, d5⟩ := fl_cells S5.right
  have S5' := S5.perm (show _ = pts xb (flO fb n (a : Int) m) * (fsHp fb mb F * R) by ac_rfl)
  have f0 : ∀ i, w5.frozen? ⟨xb, i, none⟩ = false := fun i => free_at S5'.get i
  have S6 := Lib.hid ((S5'.set (i := 2) (.int .i64 ((a : Int) + (s.size : Int)))).perm (show pts xb (flO fb n ((a : Int) + (s.size : Int)) m) * (fsHp fb mb F * R) = fsHp fb mb F * (pts xb (flO fb n ((a : Int) + (s.size : Int)) m) * R) by ac_rfl))
  clear S5 S5'
  go_wp2_with fail
  go_ret2
  exact ⟨⟨rfl, S6.out⟩, Ran.set R5.out _ _⟩
set_option maxRecDepth 100000 in
set_option maxHeartbeats 4000000 in
theorem TRead_file (tb fb mb pb hm n : Nat) (F : Fs) (L : HL) (id k : Int) (y : Hn) (a : Nat) (m : Md) (x : Nd) (q : Nat) (hid : I64 id) (hy : findA L id = some y) (hyt : y.t = .file k a m) (hmr : m.r = true) (hk : I64 k) (ha : a ≤ 10000000) (hq : q ≤ 9223372036854775807) (hs : FsOk F) (hx : find F.L k = some x) (h2 : x.kind ≠ 1) (w : World) (R : Hp)
    (h : Sat w (fsHp fb mb F * (tabHp tb fb pb hm L n * R))) :
    Calls Tryz.prog 19 #[pp tb, .int .i64 id, .int .i64 q] w fun e w' => (e = .returned (.tuple #[.string (readB x.text a q), .int .i64 0]) ∧
      Sat w' (fsHp fb mb F * (tabHp tb fb pb hm (updA L id { y with t := .file k (a + (readB x.text a q).size) m }) n * R))) ∧ Ran w w' := by
  have HGt := get_calls tb fb pb hm n L id hid w _ (h.perm (show _ = tabHp tb fb pb hm L n * (fsHp fb mb F * R) by ac_rfl))
  unfold getE at HGt
  rw [show hblk L id = some y.b by unfold hblk; rw [hy]; rfl, hy] at HGt
  unfold pv at HGt
  have HGt := Lib.hid HGt
  obtain ⟨X, S1, back⟩ := tab_node (h.perm (show _ = tabHp tb fb pb hm L n * (fsHp fb mb F * R) by ac_rfl)) hy
  obtain ⟨d0, d1⟩ := hn_cells S1
  rw [hyt] at S1 d1
  unfold thT at d1
  unfold thO at S1
  have hmi := meth_file_info y.xb
  have hmw2 := meth_file_read y.xb
  have S2 := S1.perm (show _ = pts y.xb (flO fb k a m) * (X * (fsHp fb mb F * R) * pts y.b (hnO y)) by ac_rfl)
  have HIn := Lib.hid (finfo_calls y.xb fb k a m w _ S2)
  have S2 := Lib.hid (S2.perm (show _ = fsHp fb mb F * (pts y.xb (flO fb k a m) * (X * R * pts y.b (hnO y))) by ac_rfl))
  have HFR := Lib.hid (fun W hW => fread_calls y.xb fb mb F k a m x q hk ha hq hs hx h2 W (X * R * pts y.b (hnO y)) hW)
  obtain ⟨s, hs2⟩ : ∃ s, s = readB x.text a q := ⟨_, rfl⟩
  rw [← hs2] at HFR ⊢
  have Back := Lib.hid back
  have Hyt := Lib.hid hyt
  obtain ⟨mr, mw, mm⟩ := m
  dsimp only at hmr
  subst hmr
  have hf1 := field_mode 1 0 a k true mw mm
  have hf2 := field_r true mw mm
  have hq0 : (0 : Int) ≤ (q : Int) := by omega
  clear h S1 back hyt hy hs hx hs2
  go_enter Tryz.func19, Tryz.ntmps19
  go_wp2_with fail
  refine HGt.out.mono ?_
  rintro e w1 ⟨rfl, rfl⟩
  go_wp2_with fail
  refine HIn.out.mono ?_
  rintro e w1 ⟨rfl, hB⟩
  have S3 := S2.out.below hB
  have R3 := Lib.hid (below_ran hB)
  obtain ⟨e0, e1⟩ := hn_cells (S3.perm (show _ = pts y.b (hnO y) * (fsHp fb mb F * (pts y.xb (flO fb k a ⟨true, mw, mm⟩) * (X * R))) by ac_rfl))
  rw [Hyt.out] at e1
  unfold thT at e1
  have HW := Lib.hid (HFR.out _ S3)
  clear hB HIn HFR HGt d0 d1 S3 S2
  go_wp2_with fail
  refine HW.out.mono ?_
  rintro e w2 ⟨⟨rfl, S4⟩, R4⟩
  have R4 := Lib.hid (Below.trans R3.out R4)
  have S5 := Lib.hid (Back.out w2 { y with t := .file k (a + s.size) ⟨true, mw, mm⟩ } (fsHp fb mb F * R) rfl (S4.perm (show _ = pts y.b (hnO { y with t := .file k (a + s.size) ⟨true, mw, mm⟩ }) * (pts y.xb (flO fb k ((a + s.size : Nat) : Int) ⟨true, mw, mm⟩) * (X * (fsHp fb mb F * R))) by
    rw [show hnO { y with t := .file k (a + s.size) ⟨true, mw, mm⟩ } = hnO y by unfold hnO; rw [Hyt.out]; rfl]
    ac_rfl)))
  clear S4 HW
  go_wp2_with fail
  go_ret2
  exact ⟨⟨rfl, S5.out.perm (by ac_rfl)⟩, R4.out⟩
end Go.Proofs.YtljlpkeddbfpaaaGreatDoor.Hd
