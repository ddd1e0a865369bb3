/- The ends of a pipe are let go. (printed by gen_hdz.py) -/
import Derived.Test.YtljlpkeddbfpaaaGreatDoorHdY
namespace Go.Proofs.YtljlpkeddbfpaaaGreatDoor.Hd
open Go.RowKit Go.Maps Go.Proofs.YtljlpkeddbfpaaaGreatDoor Go.Proofs.YtljlpkeddbfpaaaGreatDoor.Hp
set_option linter.unusedVariables false
attribute [local go_sem] Oper.semAt_some

set_option maxRecDepth 100000 in
theorem ends_two (bb eb : Nat) (w : World) (R : Hp) (h : Sat w (pts eb (ebO 2) * R)) :
    Calls Tryz.prog 220 #[pp bb, pp eb] w fun e w' => (e = .returned (.tuple #[]) ∧ Sat w' (pts eb (ebO 1) * R)) ∧ Ran w w' := by
  have c0 : w.cell? ⟨eb, 0, none⟩ = some (.int .i64 2) := by rw [cell_at h.get]; rfl
  have f0 : ∀ i, w.frozen? ⟨eb, i, none⟩ = false := fun i => free_at h.get i
  have S1 : Hid (Sat (w.setCell ⟨eb, 0, none⟩ (.int .i64 1)) (pts eb (ebO 1) * R)) := Lib.hid (h.set (i := 0) (.int .i64 1))
  clear h
  go_enter Tryz.func220, Tryz.ntmps220
  go_wp2_with fail
  go_end0
  exact ⟨⟨rfl, S1.out⟩, Ran.set (Below.refl 0 w) _ _⟩
set_option maxRecDepth 100000 in
theorem ends_one (bb eb bp held U opn tot frm : Nat) (data : List UInt8) (hh : held ≤ 1000000000) (hd : data.length ≤ held) (hf : frm + data.length ≤ 1000000000) (hU : U ≤ 1000000000) (htot : tot ≤ 1000000000) (hop : opn ≤ 1000000000) (w : World) (R : Hp)
    (h : Sat w (pts eb (ebO 1) * (Spill.poolX bp 40 3 4 held (U + (Spill.cl 3 4 (frm + data.length) - Spill.gn 3 4 frm)) (opn + 1) tot * (Spill.bufX bb bp 3 4 frm data * R)))) :
    Calls Tryz.prog 220 #[pp bb, pp eb] w fun e w' => (e = .returned (.tuple #[]) ∧ Sat w' (Spill.poolX bp 40 3 4 (held - data.length) U opn tot * R)) ∧ Ran w w' := by
  have c0 : w.cell? ⟨eb, 0, none⟩ = some (.int .i64 1) := by rw [cell_at h.get]; rfl
  have f0 : ∀ i, w.frozen? ⟨eb, i, none⟩ = false := fun i => free_at h.get i
  have S1 : Sat (w.setCell ⟨eb, 0, none⟩ (.int .i64 0)) (pts eb (ebO 0) * (Spill.poolX bp 40 3 4 held (U + (Spill.cl 3 4 (frm + data.length) - Spill.gn 3 4 frm)) (opn + 1) tot * (Spill.bufX bb bp 3 4 frm data * R))) := h.set (i := 0) (.int .i64 0)
  have HC := Lib.hid (Spill.close_calls bp bb 40 3 4 held U opn tot frm data _ _ (by omega) hh hd hf hU htot hop S1.right)
  have R1 := Lib.hid (Ran.set (Below.refl 0 w) ⟨eb, 0, none⟩ (.int .i64 0))
  clear h S1
  go_enter Tryz.func220, Tryz.ntmps220
  go_wp2_with fail
  refine HC.out.mono ?_
  rintro e w1 ⟨rfl, S2, R2⟩
  have S2 := Lib.hid ((S2.perm (show _ = Spill.closedB bb bp * (Spill.poolX bp 40 3 4 (held - data.length) U opn tot * R) by ac_rfl)).right)
  have R2 := Lib.hid (Below.trans R1.out R2)
  clear HC R1
  go_wp2_with fail
  go_end0
  exact ⟨⟨rfl, S2.out⟩, R2.out⟩
set_option maxRecDepth 100000 in
theorem rgone_calls (xb bb eb : Nat) (P P' : Hp) (w : World) (HE : ∀ W, Sat W (pts xb (rdO bb eb) * P) → Calls Tryz.prog 220 #[pp bb, pp eb] W fun e w' => (e = .returned (.tuple #[]) ∧ Sat w' (pts xb (rdO bb eb) * P')) ∧ Ran W w')
    (h : Sat w (pts xb (rdO bb eb) * P)) :
    Calls Tryz.prog 216 #[pp xb] w fun e w' => (e = .returned (.tuple #[]) ∧ Sat w' (pts xb (rdO bb eb) * P')) ∧ Ran w w' := by
  obtain ⟨d0, d1⟩ := rd_cells h.drew
  have HE2 := Lib.hid (HE _ h.drew)
  clear h HE
  go_enter Tryz.func216, Tryz.ntmps216
  go_wp2_with fail
  refine Go.Proofs.YtljlpkeddbfpaaaGreatDoor.region_plan (S := (fun w' => w'.cell? ⟨xb, 0, none⟩ = some (pp bb) ∧ w'.cell? ⟨xb, 1, none⟩ = some (pp eb))) [(0, true), (1, true), (2, true), (3, true), (4, true), (5, true), (6, true), (7, true), (8, false)] (by kernel_rfl) (by kernel_rfl) (by kernel_rfl) ?_ ?_
  · ((try dsimp only); (first | done | (first | exact ⟨d0, d1⟩ | exact K5)))
  simp only [Go.Proofs.YtljlpkeddbfpaaaGreatDoor.planOps, List.map_cons, List.map_nil, List.getElem?_toArray, List.getElem?_cons_zero, List.getElem?_cons_succ]
  repeat (first
    | ((refine Go.Proofs.YtljlpkeddbfpaaaGreatDoor.plan_yes (v := ?_) (by rfl) ?_ ?_); rotate_left; (focus (intro w hSw; (try dsimp only at hSw); go_simp; try (with_reducible rfl))); (try simp only [Act.put, List.setIfInBounds_toArray, List.set_cons_zero, List.set_cons_succ]))
    | ((refine Go.Proofs.YtljlpkeddbfpaaaGreatDoor.plan_no (by rfl) ?_); (try simp only [Act.put, List.setIfInBounds_toArray, List.set_cons_zero, List.set_cons_succ]))
    | ((refine Go.Proofs.YtljlpkeddbfpaaaGreatDoor.plan_step (fun K hK => ?_)); (first | ((go_at_call 220; refine HE2.out.mono ?_; rintro e w5 ⟨⟨rfl, S5⟩, R5⟩; have K5 := rd_cells S5)) | (go_simp; ((go_at_call 220; refine HE2.out.mono ?_; rintro e w5 ⟨⟨rfl, S5⟩, R5⟩; have K5 := rd_cells S5)); (try go_wp2_with fail)) | go_simp); (refine hK.out _ _ ?_ (fun hHeld => ?_)); (focus ((try dsimp only); (first | done | (first | exact ⟨d0, d1⟩ | exact K5)))); clear hK K; (try simp only [Act.put, List.setIfInBounds_toArray, List.set_cons_zero, List.set_cons_succ])))
  refine Go.Proofs.YtljlpkeddbfpaaaGreatDoor.plan_done ?_
  have S5 := Lib.hid S5
  have R5 := Lib.hid (Below.trans (Ran.drewN (Below.refl 0 w) 1) R5)
  go_wp2_with fail
  go_end0
  exact ⟨⟨rfl, S5.out⟩, R5.out⟩
/-- The reader's last Unref while the other end is there. -/
theorem Unref_reader_two (tb fb bp hm n : Nat) (L : HL) (id : Int) (y : Hn) (bb eb : Nat) (hid : I64 id) (hy : findA L id = some y) (hyt : y.t = .reader bb eb) (hnd : NodupK L) (h1 : y.refs = 1) (w : World) (R : Hp)
    (h : Sat w (tabHp tb fb bp hm L n * (pts eb (ebO 2) * R))) :
    Calls Tryz.prog 27 #[pp tb, .int .i64 id] w fun e w' => (e = .returned (.int .i64 0) ∧ Sat w' (tabHp tb fb bp hm (delA L id) n * (pts eb (ebO 1) * R))) ∧ Ran w w' := by
  refine Unref_last_reader tb fb bp hm n L id y hid hy hnd h1 w (pts eb (ebO 2) * R) (pts eb (ebO 1) * R) (by rw [hyt]; rfl) (fun W hW => ?_) h
  rw [hyt] at hW
  refine (rgone_calls y.xb bb eb (tabHp tb fb bp hm (delA L id) n * (pts eb (ebO 2) * R)) (tabHp tb fb bp hm (delA L id) n * (pts eb (ebO 1) * R)) W (fun V hV => ?_) hW).mono ?_
  · refine (ends_two bb eb V (pts y.xb (rdO bb eb) * (tabHp tb fb bp hm (delA L id) n * R)) (hV.perm (by ac_rfl))).mono ?_
    rintro e w' ⟨⟨he, hs⟩, hr⟩
    exact ⟨⟨he, hs.perm (by ac_rfl)⟩, hr⟩
  · rintro e w' ⟨⟨he, hs⟩, hr⟩
    exact ⟨⟨he, hs.right⟩, hr⟩
/-- The reader's last Unref when it is the pipe's last end. -/
theorem Unref_reader_one (tb fb bp hm n held U opn tot frm : Nat) (L : HL) (id : Int) (y : Hn) (bb eb : Nat) (data : List UInt8) (hid : I64 id) (hy : findA L id = some y) (hyt : y.t = .reader bb eb) (hnd : NodupK L) (h1 : y.refs = 1) (hh : held ≤ 1000000000) (hd : data.length ≤ held) (hf : frm + data.length ≤ 1000000000) (hU : U ≤ 1000000000) (htot : tot ≤ 1000000000) (hop : opn ≤ 1000000000) (w : World) (R : Hp)
    (h : Sat w (tabHp tb fb bp hm L n * (pts eb (ebO 1) * (Spill.poolX bp 40 3 4 held (U + (Spill.cl 3 4 (frm + data.length) - Spill.gn 3 4 frm)) (opn + 1) tot * (Spill.bufX bb bp 3 4 frm data * R))))) :
    Calls Tryz.prog 27 #[pp tb, .int .i64 id] w fun e w' => (e = .returned (.int .i64 0) ∧ Sat w' (tabHp tb fb bp hm (delA L id) n * (Spill.poolX bp 40 3 4 (held - data.length) U opn tot * R))) ∧ Ran w w' := by
  refine Unref_last_reader tb fb bp hm n L id y hid hy hnd h1 w _ (Spill.poolX bp 40 3 4 (held - data.length) U opn tot * R) (by rw [hyt]; rfl) (fun W hW => ?_) h
  rw [hyt] at hW
  refine (rgone_calls y.xb bb eb _ (tabHp tb fb bp hm (delA L id) n * (Spill.poolX bp 40 3 4 (held - data.length) U opn tot * R)) W (fun V hV => ?_) hW).mono ?_
  · refine (ends_one bb eb bp held U opn tot frm data hh hd hf hU htot hop V (pts y.xb (rdO bb eb) * (tabHp tb fb bp hm (delA L id) n * R)) (hV.perm (by ac_rfl))).mono ?_
    rintro e w' ⟨⟨he, hs⟩, hr⟩
    exact ⟨⟨he, hs.perm (by ac_rfl)⟩, hr⟩
  · rintro e w' ⟨⟨he, hs⟩, hr⟩
    exact ⟨⟨he, hs.right⟩, hr⟩
set_option maxRecDepth 100000 in
theorem wgone_calls (xb bb eb : Nat) (P P' : Hp) (w : World) (HE : ∀ W, Sat W (pts xb (wrO bb eb) * P) → Calls Tryz.prog 220 #[pp bb, pp eb] W fun e w' => (e = .returned (.tuple #[]) ∧ Sat w' (pts xb (wrO bb eb) * P')) ∧ Ran W w')
    (h : Sat w (pts xb (wrO bb eb) * P)) :
    Calls Tryz.prog 226 #[pp xb] w fun e w' => (e = .returned (.tuple #[]) ∧ Sat w' (pts xb (wrO bb eb) * P')) ∧ Ran w w' := by
  obtain ⟨d0, d1⟩ := rd_cells h.drew
  have HE2 := Lib.hid (HE _ h.drew)
  clear h HE
  go_enter Tryz.func226, Tryz.ntmps226
  go_wp2_with fail
  refine Go.Proofs.YtljlpkeddbfpaaaGreatDoor.region_plan (S := (fun w' => w'.cell? ⟨xb, 0, none⟩ = some (pp bb) ∧ w'.cell? ⟨xb, 1, none⟩ = some (pp eb))) [(0, true), (1, true), (2, true), (3, true), (4, true), (5, true), (6, true), (7, true), (8, false)] (by kernel_rfl) (by kernel_rfl) (by kernel_rfl) ?_ ?_
  · ((try dsimp only); (first | done | (first | exact ⟨d0, d1⟩ | exact K5)))
  simp only [Go.Proofs.YtljlpkeddbfpaaaGreatDoor.planOps, List.map_cons, List.map_nil, List.getElem?_toArray, List.getElem?_cons_zero, List.getElem?_cons_succ]
  repeat (first
    | ((refine Go.Proofs.YtljlpkeddbfpaaaGreatDoor.plan_yes (v := ?_) (by rfl) ?_ ?_); rotate_left; (focus (intro w hSw; (try dsimp only at hSw); go_simp; try (with_reducible rfl))); (try simp only [Act.put, List.setIfInBounds_toArray, List.set_cons_zero, List.set_cons_succ]))
    | ((refine Go.Proofs.YtljlpkeddbfpaaaGreatDoor.plan_no (by rfl) ?_); (try simp only [Act.put, List.setIfInBounds_toArray, List.set_cons_zero, List.set_cons_succ]))
    | ((refine Go.Proofs.YtljlpkeddbfpaaaGreatDoor.plan_step (fun K hK => ?_)); (first | ((go_at_call 220; refine HE2.out.mono ?_; rintro e w5 ⟨⟨rfl, S5⟩, R5⟩; have K5 := rd_cells S5)) | (go_simp; ((go_at_call 220; refine HE2.out.mono ?_; rintro e w5 ⟨⟨rfl, S5⟩, R5⟩; have K5 := rd_cells S5)); (try go_wp2_with fail)) | go_simp); (refine hK.out _ _ ?_ (fun hHeld => ?_)); (focus ((try dsimp only); (first | done | (first | exact ⟨d0, d1⟩ | exact K5)))); clear hK K; (try simp only [Act.put, List.setIfInBounds_toArray, List.set_cons_zero, List.set_cons_succ])))
  refine Go.Proofs.YtljlpkeddbfpaaaGreatDoor.plan_done ?_
  have S5 := Lib.hid S5
  have R5 := Lib.hid (Below.trans (Ran.drewN (Below.refl 0 w) 1) R5)
  go_wp2_with fail
  go_end0
  exact ⟨⟨rfl, S5.out⟩, R5.out⟩
/-- The writer's last Unref while the other end is there. -/
theorem Unref_writer_two (tb fb bp hm n : Nat) (L : HL) (id : Int) (y : Hn) (bb eb : Nat) (hid : I64 id) (hy : findA L id = some y) (hyt : y.t = .writer bb eb) (hnd : NodupK L) (h1 : y.refs = 1) (w : World) (R : Hp)
    (h : Sat w (tabHp tb fb bp hm L n * (pts eb (ebO 2) * R))) :
    Calls Tryz.prog 27 #[pp tb, .int .i64 id] w fun e w' => (e = .returned (.int .i64 0) ∧ Sat w' (tabHp tb fb bp hm (delA L id) n * (pts eb (ebO 1) * R))) ∧ Ran w w' := by
  refine Unref_last_writer tb fb bp hm n L id y hid hy hnd h1 w (pts eb (ebO 2) * R) (pts eb (ebO 1) * R) (by rw [hyt]; rfl) (fun W hW => ?_) h
  rw [hyt] at hW
  refine (wgone_calls y.xb bb eb (tabHp tb fb bp hm (delA L id) n * (pts eb (ebO 2) * R)) (tabHp tb fb bp hm (delA L id) n * (pts eb (ebO 1) * R)) W (fun V hV => ?_) hW).mono ?_
  · refine (ends_two bb eb V (pts y.xb (wrO bb eb) * (tabHp tb fb bp hm (delA L id) n * R)) (hV.perm (by ac_rfl))).mono ?_
    rintro e w' ⟨⟨he, hs⟩, hr⟩
    exact ⟨⟨he, hs.perm (by ac_rfl)⟩, hr⟩
  · rintro e w' ⟨⟨he, hs⟩, hr⟩
    exact ⟨⟨he, hs.right⟩, hr⟩
/-- The writer's last Unref when it is the pipe's last end. -/
theorem Unref_writer_one (tb fb bp hm n held U opn tot frm : Nat) (L : HL) (id : Int) (y : Hn) (bb eb : Nat) (data : List UInt8) (hid : I64 id) (hy : findA L id = some y) (hyt : y.t = .writer bb eb) (hnd : NodupK L) (h1 : y.refs = 1) (hh : held ≤ 1000000000) (hd : data.length ≤ held) (hf : frm + data.length ≤ 1000000000) (hU : U ≤ 1000000000) (htot : tot ≤ 1000000000) (hop : opn ≤ 1000000000) (w : World) (R : Hp)
    (h : Sat w (tabHp tb fb bp hm L n * (pts eb (ebO 1) * (Spill.poolX bp 40 3 4 held (U + (Spill.cl 3 4 (frm + data.length) - Spill.gn 3 4 frm)) (opn + 1) tot * (Spill.bufX bb bp 3 4 frm data * R))))) :
    Calls Tryz.prog 27 #[pp tb, .int .i64 id] w fun e w' => (e = .returned (.int .i64 0) ∧ Sat w' (tabHp tb fb bp hm (delA L id) n * (Spill.poolX bp 40 3 4 (held - data.length) U opn tot * R))) ∧ Ran w w' := by
  refine Unref_last_writer tb fb bp hm n L id y hid hy hnd h1 w _ (Spill.poolX bp 40 3 4 (held - data.length) U opn tot * R) (by rw [hyt]; rfl) (fun W hW => ?_) h
  rw [hyt] at hW
  refine (wgone_calls y.xb bb eb _ (tabHp tb fb bp hm (delA L id) n * (Spill.poolX bp 40 3 4 (held - data.length) U opn tot * R)) W (fun V hV => ?_) hW).mono ?_
  · refine (ends_one bb eb bp held U opn tot frm data hh hd hf hU htot hop V (pts y.xb (wrO bb eb) * (tabHp tb fb bp hm (delA L id) n * R)) (hV.perm (by ac_rfl))).mono ?_
    rintro e w' ⟨⟨he, hs⟩, hr⟩
    exact ⟨⟨he, hs.perm (by ac_rfl)⟩, hr⟩
  · rintro e w' ⟨⟨he, hs⟩, hr⟩
    exact ⟨⟨he, hs.right⟩, hr⟩
/-- A file's last Unref. -/
theorem Unref_file_one (tb fb mb pb hm n : Nat) (F : Fs) (L : HL) (id k : Int) (y : Hn) (a : Nat) (m : Md) (x : Nd) (hid : I64 id) (hy : findA L id = some y) (hyt : y.t = .file k a m) (hnd : NodupK L) (h1 : y.refs = 1) (hk : I64 k) (hs : FsOk F) (hx : find F.L k = some x) (hn : 1 ≤ x.names) (w : World) (R : Hp)
    (h : Sat w (tabHp tb fb pb hm L n * (fsHp fb mb F * R))) :
    Calls Tryz.prog 27 #[pp tb, .int .i64 id] w fun e w' => (e = .returned (.int .i64 0) ∧ Sat w' (tabHp tb fb pb hm (delA L id) n * (fsHp fb mb (dropP F k) * R))) ∧ Ran w w' := by
  refine Unref_last_file tb fb pb hm n L id y hid hy hnd h1 w _ (fsHp fb mb (dropP F k) * R) (by rw [hyt]; rfl) (fun W hW => ?_) h
  rw [hyt] at hW
  refine (fgone_calls y.xb fb mb F k a m x hk hs hx hn W (tabHp tb fb pb hm (delA L id) n * R) (hW.perm (show pts y.xb (flO fb k a m) * _ = _ by ac_rfl))).mono ?_
  rintro e w' ⟨⟨he, hs'⟩, hr⟩
  exact ⟨⟨he, (hs'.perm (show _ = pts y.xb (flO fb k a m) * (tabHp tb fb pb hm (delA L id) n * (fsHp fb mb (dropP F k) * R)) by ac_rfl)).right⟩, hr⟩
end Go.Proofs.YtljlpkeddbfpaaaGreatDoor.Hd
