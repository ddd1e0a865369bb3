/- HandlesPlays, part 8 of 34: the texts HdZ HdTx HdSk, joined by a program. -/
import Derived.Test.YtljlpkeddbfpaaaGreatDoorHm7
import Derived.Test.YtljlpkeddbfpaaaGreatDoorHm5
import Derived.Lib.Builder
import Derived.Lib.UnsafeStr
import Derived.Laws.Externs
namespace Go.Proofs.YtljlpkeddbfpaaaGreatDoor.Hd
open Go.RowKit Go.Maps Go.Proofs.YtljlpkeddbfpaaaGreatDoor Go.Proofs.YtljlpkeddbfpaaaGreatDoor.Hp
set_option linter.unusedVariables false
attribute [local go_sem] Oper.semAt_some

set_option maxRecDepth 100000 in
theorem ends_two (bb eb : Nat) (w : World) (R : Hp) (h : Sat w (pts eb (ebO 2) * R)) :
    Calls Tryz.prog 220 #[pp bb, pp eb] w fun e w' => (e = .returned (.tuple #[]) ∧ Sat w' (pts eb (ebO 1) * R)) ∧ Ran w w' := by
  have c0 : w.cell? ⟨eb, 0, none⟩ = some (.int .i64 2) := by rw [cell_at h.get]; rfl
  have f0 : ∀ i, w.frozen? ⟨eb, i, none⟩ = false := fun i => free_at h.get i
  have S1 : Hid (Sat (w.setCell ⟨eb, 0, none⟩ (.int .i64 1)) (pts eb (ebO 1) * R)) := Lib.hid (h.set (i := 0) (.int .i64 1))
  clear h
  go_enter Tryz.func220, Tryz.ntmps220
  go_wp2_with fail
  go_end0
  exact ⟨⟨rfl, S1.out⟩, Ran.set (Below.refl 0 w) _ _⟩
set_option maxRecDepth 100000 in
theorem ends_one (bb eb bp held U opn tot frm : Nat) (data : List UInt8) (hh : held ≤ 1000000000) (hd : data.length ≤ held) (hf : frm + data.length ≤ 1000000000) (hU : U ≤ 1000000000) (htot : tot ≤ 1000000000) (hop : opn ≤ 1000000000) (w : World) (R : Hp)
    (h : Sat w (pts eb (ebO 1) * (Spill.poolX bp 40 3 4 held (U + (Spill.cl 3 4 (frm + data.length) - Spill.gn 3 4 frm)) (opn + 1) tot * (Spill.bufX bb bp 3 4 frm data * R)))) :
    Calls Tryz.prog 220 #[pp bb, pp eb] w fun e w' => (e = .returned (.tuple #[]) ∧ Sat w' (Spill.poolX bp 40 3 4 (held - data.length) U opn tot * R)) ∧ Ran w w' := by
  have c0 : w.cell? ⟨eb, 0, none⟩ = some (.int .i64 1) := by rw [cell_at h.get]; rfl
  have f0 : ∀ i, w.frozen? ⟨eb, i, none⟩ = false := fun i => free_at h.get i
  have S1 : Sat (w.setCell ⟨eb, 0, none⟩ (.int .i64 0)) (pts eb (ebO 0) * (Spill.poolX bp 40 3 4 held (U + (Spill.cl 3 4 (frm + data.length) - Spill.gn 3 4 frm)) (opn + 1) tot * (Spill.bufX bb bp 3 4 frm data * R))) := h.set (i := 0) (.int .i64 0)
  have HC := Lib.hid (Spill.close_calls bp bb 40 3 4 held U opn tot frm data _ _ (by omega) hh hd hf hU htot hop S1.right)
  have R1 := Lib.hid (Ran.set (Below.refl 0 w) ⟨eb, 0, none⟩ (.int .i64 0))
  clear h S1
  go_enter Tryz.func220, Tryz.ntmps220
  go_wp2_with fail
  refine HC.out.mono ?_
  rintro e w1 ⟨rfl, S2, R2⟩
  have S2 := Lib.hid ((S2.perm (show _ = Spill.closedB bb bp * (Spill.poolX bp 40 3 4 (held - data.length) U opn tot * R) by ac_rfl)).right)
  have R2 := Lib.hid (Below.trans R1.out R2)
  clear HC R1
  go_wp2_with fail
  go_end0
  exact ⟨⟨rfl, S2.out⟩, R2.out⟩
set_option maxRecDepth 100000 in
theorem rgone_calls (xb bb eb : Nat) (P P' : Hp) (w : World) (HE : ∀ W, Sat W (pts xb (rdO bb eb) * P) → Calls Tryz.prog 220 #[pp bb, pp eb] W fun e w' => (e = .returned (.tuple #[]) ∧ Sat w' (pts xb (rdO bb eb) * P')) ∧ Ran W w')
    (h : Sat w (pts xb (rdO bb eb) * P)) :
    Calls Tryz.prog 216 #[pp xb] w fun e w' => (e = .returned (.tuple #[]) ∧ Sat w' (pts xb (rdO bb eb) * P')) ∧ Ran w w' := by
  obtain ⟨d0, d1⟩ := rd_cells h.drew
  have HE2 := Lib.hid (HE _ h.drew)
  clear h HE
  go_enter Tryz.func216, Tryz.ntmps216
  go_wp2_with fail
  refine region_plan (S := (fun w' => w'.cell? ⟨xb, 0, none⟩ = some (pp bb) ∧ w'.cell? ⟨xb, 1, none⟩ = some (pp eb))) [(0, true), (1, true), (2, true), (3, true), (4, true), (5, true), (6, true), (7, true), (8, false)] (by kernel_rfl) (by kernel_rfl) (by kernel_rfl) ?_ ?_
  · ((try dsimp only); (first | done | (first | exact ⟨d0, d1⟩ | exact K5)))
  simp only [planOps, List.map_cons, List.map_nil, List.getElem?_toArray, List.getElem?_cons_zero, List.getElem?_cons_succ]
  repeat (first
    | ((refine plan_yes (v := ?_) (by rfl) ?_ ?_); rotate_left; (focus (intro w hSw; (try dsimp only at hSw); go_simp; try (with_reducible rfl))); (try simp only [Act.put, List.setIfInBounds_toArray, List.set_cons_zero, List.set_cons_succ]))
    | ((refine plan_no (by rfl) ?_); (try simp only [Act.put, List.setIfInBounds_toArray, List.set_cons_zero, List.set_cons_succ]))
    | ((refine plan_step (fun K hK => ?_)); (first | (go_simp; ((go_at_call 220; refine HE2.out.mono ?_; rintro e w5 ⟨⟨rfl, S5⟩, R5⟩; have K5 := rd_cells S5)); (try go_wp2_with fail)) | go_simp); (refine hK.out _ _ ?_ (fun hHeld => ?_)); (focus ((try dsimp only); (first | done | (first | exact ⟨d0, d1⟩ | exact K5)))); clear hK K; (try simp only [Act.put, List.setIfInBounds_toArray, List.set_cons_zero, List.set_cons_succ])))
  refine plan_done ?_
  have S5 := Lib.hid S5
  have R5 := Lib.hid (Below.trans (Ran.drewN (Below.refl 0 w) 1) R5)
  go_wp2_with fail
  go_end0
  exact ⟨⟨rfl, S5.out⟩, R5.out⟩
/-- The reader's last Unref while the other end is there. -/
theorem Unref_reader_two (tb fb bp hm n : Nat) (L : HL) (id : Int) (y : Hn) (bb eb : Nat) (hid : I64 id) (hy : findA L id = some y) (hyt : y.t = .reader bb eb) (hnd : NodupK L) (h1 : y.refs = 1) (w : World) (R : Hp)
    (h : Sat w (tabHp tb fb bp hm L n * (pts eb (ebO 2) * R))) :
    Calls Tryz.prog 27 #[pp tb, .int .i64 id] w fun e w' => (e = .returned (.int .i64 0) ∧ Sat w' (tabHp tb fb bp hm (delA L id) n * (pts eb (ebO 1) * R))) ∧ Ran w w' := by
  refine Unref_last_reader tb fb bp hm n L id y hid hy hnd h1 w (pts eb (ebO 2) * R) (pts eb (ebO 1) * R) (by rw [hyt]; rfl) (fun W hW => ?_) h
  rw [hyt] at hW
  refine (rgone_calls y.xb bb eb (tabHp tb fb bp hm (delA L id) n * (pts eb (ebO 2) * R)) (tabHp tb fb bp hm (delA L id) n * (pts eb (ebO 1) * R)) W (fun V hV => ?_) hW).mono ?_
  · refine (ends_two bb eb V (pts y.xb (rdO bb eb) * (tabHp tb fb bp hm (delA L id) n * R)) (hV.perm (by ac_rfl))).mono ?_
    rintro e w' ⟨⟨he, hs⟩, hr⟩
    exact ⟨⟨he, hs.perm (by ac_rfl)⟩, hr⟩
  · rintro e w' ⟨⟨he, hs⟩, hr⟩
    exact ⟨⟨he, hs.right⟩, hr⟩
/-- The reader's last Unref when it is the pipe's last end. -/
theorem Unref_reader_one (tb fb bp hm n held U opn tot frm : Nat) (L : HL) (id : Int) (y : Hn) (bb eb : Nat) (data : List UInt8) (hid : I64 id) (hy : findA L id = some y) (hyt : y.t = .reader bb eb) (hnd : NodupK L) (h1 : y.refs = 1) (hh : held ≤ 1000000000) (hd : data.length ≤ held) (hf : frm + data.length ≤ 1000000000) (hU : U ≤ 1000000000) (htot : tot ≤ 1000000000) (hop : opn ≤ 1000000000) (w : World) (R : Hp)
    (h : Sat w (tabHp tb fb bp hm L n * (pts eb (ebO 1) * (Spill.poolX bp 40 3 4 held (U + (Spill.cl 3 4 (frm + data.length) - Spill.gn 3 4 frm)) (opn + 1) tot * (Spill.bufX bb bp 3 4 frm data * R))))) :
    Calls Tryz.prog 27 #[pp tb, .int .i64 id] w fun e w' => (e = .returned (.int .i64 0) ∧ Sat w' (tabHp tb fb bp hm (delA L id) n * (Spill.poolX bp 40 3 4 (held - data.length) U opn tot * R))) ∧ Ran w w' := by
  refine Unref_last_reader tb fb bp hm n L id y hid hy hnd h1 w _ (Spill.poolX bp 40 3 4 (held - data.length) U opn tot * R) (by rw [hyt]; rfl) (fun W hW => ?_) h
  rw [hyt] at hW
  refine (rgone_calls y.xb bb eb _ (tabHp tb fb bp hm (delA L id) n * (Spill.poolX bp 40 3 4 (held - data.length) U opn tot * R)) W (fun V hV => ?_) hW).mono ?_
  · refine (ends_one bb eb bp held U opn tot frm data hh hd hf hU htot hop V (pts y.xb (rdO bb eb) * (tabHp tb fb bp hm (delA L id) n * R)) (hV.perm (by ac_rfl))).mono ?_
    rintro e w' ⟨⟨he, hs⟩, hr⟩
    exact ⟨⟨he, hs.perm (by ac_rfl)⟩, hr⟩
  · rintro e w' ⟨⟨he, hs⟩, hr⟩
    exact ⟨⟨he, hs.right⟩, hr⟩
set_option maxRecDepth 100000 in
theorem wgone_calls (xb bb eb : Nat) (P P' : Hp) (w : World) (HE : ∀ W, Sat W (pts xb (wrO bb eb) * P) → Calls Tryz.prog 220 #[pp bb, pp eb] W fun e w' => (e = .returned (.tuple #[]) ∧ Sat w' (pts xb (wrO bb eb) * P')) ∧ Ran W w')
    (h : Sat w (pts xb (wrO bb eb) * P)) :
    Calls Tryz.prog 226 #[pp xb] w fun e w' => (e = .returned (.tuple #[]) ∧ Sat w' (pts xb (wrO bb eb) * P')) ∧ Ran w w' := by
  obtain ⟨d0, d1⟩ := rd_cells h.drew
  have HE2 := Lib.hid (HE _ h.drew)
  clear h HE
  go_enter Tryz.func226, Tryz.ntmps226
  go_wp2_with fail
  refine region_plan (S := (fun w' => w'.cell? ⟨xb, 0, none⟩ = some (pp bb) ∧ w'.cell? ⟨xb, 1, none⟩ = some (pp eb))) [(0, true), (1, true), (2, true), (3, true), (4, true), (5, true), (6, true), (7, true), (8, false)] (by kernel_rfl) (by kernel_rfl) (by kernel_rfl) ?_ ?_
  · ((try dsimp only); (first | done | (first | exact ⟨d0, d1⟩ | exact K5)))
  simp only [planOps, List.map_cons, List.map_nil, List.getElem?_toArray, List.getElem?_cons_zero, List.getElem?_cons_succ]
  repeat (first
    | ((refine plan_yes (v := ?_) (by rfl) ?_ ?_); rotate_left; (focus (intro w hSw; (try dsimp only at hSw); go_simp; try (with_reducible rfl))); (try simp only [Act.put, List.setIfInBounds_toArray, List.set_cons_zero, List.set_cons_succ]))
    | ((refine plan_no (by rfl) ?_); (try simp only [Act.put, List.setIfInBounds_toArray, List.set_cons_zero, List.set_cons_succ]))
    | ((refine plan_step (fun K hK => ?_)); (first | (go_simp; ((go_at_call 220; refine HE2.out.mono ?_; rintro e w5 ⟨⟨rfl, S5⟩, R5⟩; have K5 := rd_cells S5)); (try go_wp2_with fail)) | go_simp); (refine hK.out _ _ ?_ (fun hHeld => ?_)); (focus ((try dsimp only); (first | done | (first | exact ⟨d0, d1⟩ | exact K5)))); clear hK K; (try simp only [Act.put, List.setIfInBounds_toArray, List.set_cons_zero, List.set_cons_succ])))
  refine plan_done ?_
  have S5 := Lib.hid S5
  have R5 := Lib.hid (Below.trans (Ran.drewN (Below.refl 0 w) 1) R5)
  go_wp2_with fail
  go_end0
  exact ⟨⟨rfl, S5.out⟩, R5.out⟩
/-- The writer's last Unref while the other end is there. -/
theorem Unref_writer_two (tb fb bp hm n : Nat) (L : HL) (id : Int) (y : Hn) (bb eb : Nat) (hid : I64 id) (hy : findA L id = some y) (hyt : y.t = .writer bb eb) (hnd : NodupK L) (h1 : y.refs = 1) (w : World) (R : Hp)
    (h : Sat w (tabHp tb fb bp hm L n * (pts eb (ebO 2) * R))) :
    Calls Tryz.prog 27 #[pp tb, .int .i64 id] w fun e w' => (e = .returned (.int .i64 0) ∧ Sat w' (tabHp tb fb bp hm (delA L id) n * (pts eb (ebO 1) * R))) ∧ Ran w w' := by
  refine Unref_last_writer tb fb bp hm n L id y hid hy hnd h1 w (pts eb (ebO 2) * R) (pts eb (ebO 1) * R) (by rw [hyt]; rfl) (fun W hW => ?_) h
  rw [hyt] at hW
  refine (wgone_calls y.xb bb eb (tabHp tb fb bp hm (delA L id) n * (pts eb (ebO 2) * R)) (tabHp tb fb bp hm (delA L id) n * (pts eb (ebO 1) * R)) W (fun V hV => ?_) hW).mono ?_
  · refine (ends_two bb eb V (pts y.xb (wrO bb eb) * (tabHp tb fb bp hm (delA L id) n * R)) (hV.perm (by ac_rfl))).mono ?_
    rintro e w' ⟨⟨he, hs⟩, hr⟩
    exact ⟨⟨he, hs.perm (by ac_rfl)⟩, hr⟩
  · rintro e w' ⟨⟨he, hs⟩, hr⟩
    exact ⟨⟨he, hs.right⟩, hr⟩
/-- The writer's last Unref when it is the pipe's last end. -/
theorem Unref_writer_one (tb fb bp hm n held U opn tot frm : Nat) (L : HL) (id : Int) (y : Hn) (bb eb : Nat) (data : List UInt8) (hid : I64 id) (hy : findA L id = some y) (hyt : y.t = .writer bb eb) (hnd : NodupK L) (h1 : y.refs = 1) (hh : held ≤ 1000000000) (hd : data.length ≤ held) (hf : frm + data.length ≤ 1000000000) (hU : U ≤ 1000000000) (htot : tot ≤ 1000000000) (hop : opn ≤ 1000000000) (w : World) (R : Hp)
    (h : Sat w (tabHp tb fb bp hm L n * (pts eb (ebO 1) * (Spill.poolX bp 40 3 4 held (U + (Spill.cl 3 4 (frm + data.length) - Spill.gn 3 4 frm)) (opn + 1) tot * (Spill.bufX bb bp 3 4 frm data * R))))) :
    Calls Tryz.prog 27 #[pp tb, .int .i64 id] w fun e w' => (e = .returned (.int .i64 0) ∧ Sat w' (tabHp tb fb bp hm (delA L id) n * (Spill.poolX bp 40 3 4 (held - data.length) U opn tot * R))) ∧ Ran w w' := by
  refine Unref_last_writer tb fb bp hm n L id y hid hy hnd h1 w _ (Spill.poolX bp 40 3 4 (held - data.length) U opn tot * R) (by rw [hyt]; rfl) (fun W hW => ?_) h
  rw [hyt] at hW
  refine (wgone_calls y.xb bb eb _ (tabHp tb fb bp hm (delA L id) n * (Spill.poolX bp 40 3 4 (held - data.length) U opn tot * R)) W (fun V hV => ?_) hW).mono ?_
  · refine (ends_one bb eb bp held U opn tot frm data hh hd hf hU htot hop V (pts y.xb (wrO bb eb) * (tabHp tb fb bp hm (delA L id) n * R)) (hV.perm (by ac_rfl))).mono ?_
    rintro e w' ⟨⟨he, hs⟩, hr⟩
    exact ⟨⟨he, hs.perm (by ac_rfl)⟩, hr⟩
  · rintro e w' ⟨⟨he, hs⟩, hr⟩
    exact ⟨⟨he, hs.right⟩, hr⟩
/-- A file's last Unref. -/
theorem Unref_file_one (tb fb mb pb hm n : Nat) (F : Fs) (L : HL) (id k : Int) (y : Hn) (a : Nat) (m : Md) (x : Nd) (hid : I64 id) (hy : findA L id = some y) (hyt : y.t = .file k a m) (hnd : NodupK L) (h1 : y.refs = 1) (hk : I64 k) (hs : FsOk F) (hx : find F.L k = some x) (hn : 1 ≤ x.names) (w : World) (R : Hp)
    (h : Sat w (tabHp tb fb pb hm L n * (fsHp fb mb F * R))) :
    Calls Tryz.prog 27 #[pp tb, .int .i64 id] w fun e w' => (e = .returned (.int .i64 0) ∧ Sat w' (tabHp tb fb pb hm (delA L id) n * (fsHp fb mb (dropP F k) * R))) ∧ Ran w w' := by
  refine Unref_last_file tb fb pb hm n L id y hid hy hnd h1 w _ (fsHp fb mb (dropP F k) * R) (by rw [hyt]; rfl) (fun W hW => ?_) h
  rw [hyt] at hW
  refine (fgone_calls y.xb fb mb F k a m x hk hs hx hn W (tabHp tb fb pb hm (delA L id) n * R) (hW.perm (show pts y.xb (flO fb k a m) * _ = _ by ac_rfl))).mono ?_
  rintro e w' ⟨⟨he, hs'⟩, hr⟩
  exact ⟨⟨he, (hs'.perm (show _ = pts y.xb (flO fb k a m) * (tabHp tb fb pb hm (delA L id) n * (fsHp fb mb (dropP F k) * R)) by ac_rfl)).right⟩, hr⟩
end Go.Proofs.YtljlpkeddbfpaaaGreatDoor.Hd

namespace Go.Proofs.YtljlpkeddbfpaaaGreatDoor.Hd
open Go.RowKit Go.Maps Go.Proofs.YtljlpkeddbfpaaaGreatDoor Go.Proofs.YtljlpkeddbfpaaaGreatDoor.Hp
set_option linter.unusedVariables false
attribute [local go_sem] Oper.semAt_some

abbrev txO (s : ByteArray) (a : Int) : Obj := .cells #[.string s, .int .i64 a] 107 (0, 0)
theorem tx_cells {w : World} {b : Nat} {s : ByteArray} {a : Int} {S : Hp} (h : Sat w (pts b (txO s a) * S)) : w.cell? ⟨b, 0, none⟩ = some (.string s) ∧ w.cell? ⟨b, 1, none⟩ = some (.int .i64 a) := by
  have hb := h.get
  refine ⟨?_, ?_⟩ <;> rw [cell_at hb] <;> rfl
set_option maxRecDepth 100000 in
set_option maxHeartbeats 4000000 in
theorem tinfo_calls (xb : Nat) (s : ByteArray) (a : Int) (w : World) (R : Hp) (h : Sat w (pts xb (txO s a) * R)) :
    Calls Tryz.prog 212 #[pp xb] w fun e w' => e = .returned (inV 2 0 a 0 ⟨true, false, false⟩) ∧ Below w.heap.size w w' := by
  have D3 := (h.alloc (inO 0 0 0 0 ⟨false, false, false⟩)).perm (show _ = pts xb (txO s a) * (pts w.heap.size (inO 0 0 0 0 ⟨false, false, false⟩) * R) by ac_rfl)
  obtain ⟨d0, d1⟩ := tx_cells D3
  obtain ⟨r0, r1, r2, r3, r4, r5, r6⟩ := in_cells (h.alloc (inO 2 0 a 0 ⟨true, false, false⟩))
  have HB3 := Lib.hid ((Below.refl w.heap.size w).alloc (Nat.le_refl _) (inO 2 0 a 0 ⟨true, false, false⟩))
  clear h D3
  go_enter Tryz.func212, Tryz.ntmps212
  go_wp2_with fail
  exact bodyPost_ret (v := inV 2 0 a 0 ⟨true, false, false⟩) (by simp [results, Tryz.results212, go_sem, r0, r1, r2, r3, r4, r5, r6]) rfl ⟨rfl, HB3.out⟩
set_option maxRecDepth 100000 in
set_option maxHeartbeats 4000000 in
theorem Text_calls (tb fb pb hm n : Nat) (L : HL) (s : ByteArray) (g : Nat) (hs : s.size ≤ 1048576) (hg : Free L g) (hn : n ≤ 1000000) (w : World) (R : Hp) (h : Sat w (tabHp tb fb pb hm L n * R)) :
    Calls Tryz.prog 15 #[pp tb, .string s] w fun e w' => (e = .returned (.tuple #[.int .i64 (g : Int), .int .i64 0]) ∧ ∃ hb xb, Sat w' (tabHp tb fb pb hm (((g : Int), ⟨hb, 1, xb, .text s 0⟩) :: L) (n + 1) * R)) ∧ Ran w w' := by
  have HA := Lib.hid (add_calls tb fb pb hm n L (.text s 0) w.heap.size g hg hn _ _ ((h.alloc (txO s 0)).perm (show pts w.heap.size (thO fb (.text s 0)) * _ = tabHp tb fb pb hm L n * (pts w.heap.size (thO fb (.text s 0)) * R) by ac_rfl)))
  have R1 := Lib.hid (Ran.new (Below.refl 0 w) (txO s 0))
  have hsI : (s.size : Int) ≤ 1048576 := by omega
  clear h
  go_enter Tryz.func15, Tryz.ntmps15
  go_wp2_with fail
  refine HA.out.mono ?_
  rintro e w1 ⟨⟨rfl, hb, S2⟩, R2⟩
  have S2 := Lib.hid S2
  have R2 := Lib.hid (Below.trans R1.out R2)
  clear HA R1
  go_wp2_with fail
  go_ret2
  exact ⟨⟨rfl, hb, w.heap.size, S2.out⟩, R2.out⟩
end Go.Proofs.YtljlpkeddbfpaaaGreatDoor.Hd

namespace Go.Proofs.YtljlpkeddbfpaaaGreatDoor.Hd
open Go.RowKit Go.Maps Go.Proofs.YtljlpkeddbfpaaaGreatDoor Go.Proofs.YtljlpkeddbfpaaaGreatDoor.Hp
set_option linter.unusedVariables false
attribute [local go_sem] Oper.semAt_some

abbrev bs (s : ByteArray) : List UInt8 := s.data.toList
theorem bs_length (s : ByteArray) : (bs s).length = s.size := Array.length_toList
theorem infoU8 : (Tryz.prog.info? 5).map (fun i => (i.zero, i.size, i.bytes)) = some (some (.int .u8 0), 1, 1) := by kernel_rfl
theorem cellsU8 : Tryz.prog.cellsOf 5 = 1 := by kernel_rfl
theorem infoBld : (Tryz.prog.info? 120).map (fun i => i.size) = some 2 := by kernel_rfl
theorem info_size {T : TypeId} {n : Nat} (h : (Tryz.prog.info? T).map (fun i => i.size) = some n) : ∃ i, Tryz.prog.info? T = some i ∧ i.size = n := by
  cases e : Tryz.prog.info? T with
  | none => rw [e] at h; cases h
  | some i => rw [e] at h; exact ⟨i, rfl, by simpa using h⟩
theorem byteCells_app (l : List UInt8) (s : ByteArray) : Lib.byteCells (l ++ bs s) = Lib.byteCells l ++ byteCells s := by unfold Lib.byteCells byteCells; rw [List.map_append]
/-- A builder's bytes: its first z cells may be frozen. -/
def bufHp (q : Option Addr) (cap : Nat) (l : List UInt8) : Hp := match q with
  | none => fact (cap = 0 ∧ l = [])
  | some a => ex fun cur : Array Value => ex fun z : Nat => fact (a = ⟨a.block, 0, none⟩ ∧ l ≠ [] ∧ l.length ≤ cap ∧ cap ≤ maxLen ∧ cap ≤ cur.size ∧ z ≤ l.length ∧ ∀ j, j < l.length → cur[j]? = (Lib.byteCells l)[j]?) * pts a.block (.cells cur 5 (0, z))
section
variable {w : World} {R : Hp} {cap : Nat} {l : List UInt8}
theorem buf_none (h : Sat w (bufHp none cap l * R)) : cap = 0 ∧ l = [] ∧ Sat w R := by
  obtain ⟨⟨h1, h2⟩, h3⟩ := Sat.fact_out (φ := cap = 0 ∧ l = []) h
  exact ⟨h1, h2, h3⟩
theorem buf_some {a : Addr} (h : Sat w (bufHp (some a) cap l * R)) :
    ∃ (g : Nat) (cur : Array Value) (z : Nat), a = ⟨g, 0, none⟩ ∧ l ≠ [] ∧ l.length ≤ cap ∧ cap ≤ maxLen ∧ cap ≤ cur.size ∧ z ≤ l.length ∧ (∀ j, j < l.length → cur[j]? = (Lib.byteCells l)[j]?) ∧ Sat w (pts g (.cells cur 5 (0, z)) * R) := by
  obtain ⟨cur, h⟩ := Sat.ex_out h
  obtain ⟨z, h⟩ := Sat.ex_out h
  rw [sep_assoc] at h
  obtain ⟨⟨h1, h2, h3, h4, h5, h6, h7⟩, h⟩ := h.fact_out
  exact ⟨a.block, cur, z, h1, h2, h3, h4, h5, h6, h7, h⟩
theorem buf_mk {g : Nat} {cur : Array Value} {z : Nat} (h2 : l ≠ []) (h3 : l.length ≤ cap) (h4 : cap ≤ maxLen) (h5 : cap ≤ cur.size) (h6 : z ≤ l.length) (h7 : ∀ j, j < l.length → cur[j]? = (Lib.byteCells l)[j]?) (h : Sat w (pts g (.cells cur 5 (0, z)) * R)) :
    Sat w (bufHp (some ⟨g, 0, none⟩) cap l * R) := by
  refine Sat.ex_in cur (Sat.ex_in z ?_)
  rw [sep_assoc]
  exact h.fact_in ⟨rfl, h2, h3, h4, h5, h6, h7⟩
theorem buf_start (h : Sat w R) : Sat w (bufHp none 0 [] * R) := h.fact_in ⟨rfl, rfl⟩
end
theorem free_from {w : World} {b z : Nat} {cs : Array Value} {T : TypeId} (h : w.heap[b]? = some (.cells cs T (0, z))) (i : Nat) (hi : z ≤ i) : w.frozen? ⟨b, i, none⟩ = false := by
  simp [World.frozen?, h]
  omega
/-- A text is appended to a builder's bytes. -/
theorem app_buf {w : World} {R : Hp} (ty : TypeId) (q : Option Addr) (cap : Nat) (l : List UInt8) (s : ByteArray) (h : Sat w (bufHp q cap l * R)) (hl : l.length + s.size ≤ 1000000000) :
    ∃ q' cap' w', (Builtin.append_ #[118, 9] ty #[.slice q l.length cap, .string s]).run Tryz.prog w = .ok (.slice q' (l.length + s.size) cap') w' ∧ Sat w' (bufHp q' cap' (l ++ bs s) * R) ∧ Ran w w' := by
  obtain ⟨i, hi, hz, hsz, hby⟩ := info_parts infoU8
  have hs : Src Tryz.prog i.size 9 (.string s) s.size (byteCells s) w := by rw [hsz]; exact Src.ofString (P := Tryz.prog) w Tryz.underlying9 s
  have hsl : (byteCells s).length = s.size := by have := hs.newsLen; rwa [hsz, Nat.mul_one] at this
  have hm63 : l.length + s.size ≤ maxLen := by unfold maxLen; omega
  cases q with
  | none =>
    obtain ⟨rfl, rfl, hR⟩ := buf_none h
    by_cases h0 : s.size = 0
    · have hb0 : bs s = [] := List.eq_nil_of_length_eq_zero (by rw [bs_length]; exact h0)
      have hc0 : byteCells s = [] := List.eq_nil_of_length_eq_zero (by rw [hsl]; exact h0)
      refine ⟨none, 0, w, ?_, by rw [hb0]; exact h, Below.refl _ _⟩
      rw [hc0] at hs
      have hlen := hs.len
      rw [h0] at hs hlen ⊢
      rcases hs.kind with ⟨e', hk⟩ | hk <;> simp [Builtin.append_, run_underlying Tryz.underlying118, run_underlying hk, sizeOf, typeInfo, hi, hs.len, hs.cells]
    · have hold : (Builtin.firstCells i.size 0 (.slice none 0 0)).run Tryz.prog w.drew = .ok ([] : List Value).toArray w.drew := run_firstCells_none w.drew i.size 0 0 0
      have hfit : Builtin.nextslicecap (0 + s.size) 0 * i.bytes ≤ 281474976710656 := by rw [hby]; exact growslice_fits (by omega) (by simp at hl ⊢; omega)
      have hrun := run_append_grow_src (P := Tryz.prog) w 118 9 ty 5 i _ Tryz.underlying118 hi hz none 0 0 [] hold (.string s) s.size _ hs (by omega) (by simp at hl ⊢; omega) hfit
      refine ⟨_, _, _, hrun, ?_, Ran.new (Below.drew (Below.refl _ _)) _⟩
      have hge := grownCap_ge w (0 + s.size) 0 5
      refine buf_mk (z := 0) (fun e => h0 (by have := congrArg List.length e; rw [List.nil_append, bs_length] at this; simpa using this)) (by rw [List.nil_append, bs_length]; omega) (grownCap_le_maxLen w (0 + s.size) 0 5 (by simpa using hm63)) ?_ (Nat.zero_le _) (fun j hj => ?_) (Sat.alloc (w := w.drew) hR.drew _)
      · simp only [Array.size_append, List.size_toArray, List.length_append, size_zeroCells, List.length_nil, hsl]
        show _ ≤ 0 + s.size + _ * 1
        omega
      · rw [List.nil_append, bs_length] at hj
        rw [Array.getElem?_append_left (by simp [hsl]; exact hj)]
        rw [byteCells_app [] s]; simp [Lib.byteCells]
  | some a =>
    obtain ⟨g, cur, z, rfl, hne, hlc, hcm, hcs, hzl, hcell, hg⟩ := buf_some h
    have hgg := hg.get
    by_cases hr : l.length + s.size ≤ cap
    · have hrun := run_append_room_src (P := Tryz.prog) w 118 9 ty 5 i Tryz.underlying118 hi g 0 l.length cap (.string s) s.size _ hs hr
        (fun j hj => by rw [cell_at hgg, hsz]; rw [hsl] at hj; have : 0 + l.length * 1 + j < cur.size := by omega
                        simp at this; simp [this]) (fun j hj => free_from hgg _ (by rw [hsz]; omega))
      obtain ⟨⟨cur', g1, g2, g3⟩, g4, g5⟩ := heap_setCells g (byteCells s) (0 + l.length * i.size) w cur 5 (0, z) hgg (by rw [hsz, hsl]; omega)
      refine ⟨_, _, _, hrun, buf_mk (cur := cur') (z := z) (by simp [hne]) (by rw [List.length_append, bs_length]; exact hr) hcm (by omega) (by rw [List.length_append]; omega) (fun j hj => ?_) (hg.put g1 fun k _ hk => g4 k hk), g5⟩
      rw [List.length_append, bs_length] at hj
      rw [g3, byteCells_app, hsz]
      by_cases hj' : j < l.length
      · rw [if_neg (by omega), hcell j hj', List.getElem?_append_left (by rw [Lib.byteCells_length]; exact hj')]
      · rw [if_pos (by rw [hsl]; omega), List.getElem?_append_right (by rw [Lib.byteCells_length]; omega), Lib.byteCells_length, Nat.mul_one, Nat.zero_add]
    · have hold : (Builtin.firstCells i.size l.length (.slice (some ⟨g, 0, none⟩) l.length cap)).run Tryz.prog w.drew = .ok (Lib.byteCells l).toArray w.drew := by
        refine run_firstCells_some w.drew i.size l.length ⟨g, 0, none⟩ l.length cap (Lib.byteCells l) (by rw [Lib.byteCells_length, hsz, Nat.mul_one]) fun j v hj => ?_
        have hj' : j < l.length := by have := (List.getElem?_eq_some_iff.1 hj).1; rwa [Lib.byteCells_length] at this
        rw [Addr.add_lit, Nat.zero_add]
        show w.cell? _ = _
        rw [cell_at hgg, hcell j hj']; exact hj
      have hfit : Builtin.nextslicecap (l.length + s.size) cap * i.bytes ≤ 281474976710656 := by rw [hby]; exact growslice_fits (by omega) (by omega)
      have hrun := run_append_grow_src (P := Tryz.prog) w 118 9 ty 5 i _ Tryz.underlying118 hi hz (some ⟨g, 0, none⟩) l.length cap _ hold (.string s) s.size _ hs (by omega) (by omega) hfit
      refine ⟨_, _, _, hrun, ?_, Ran.new (Below.drew (Below.refl _ _)) _⟩
      have hge := grownCap_ge w (l.length + s.size) cap 5
      refine buf_mk (z := 0) (by simp [hne]) (by rw [List.length_append, bs_length]; omega) (grownCap_le_maxLen w (l.length + s.size) cap 5 hm63) ?_ (Nat.zero_le _) (fun j hj => ?_) (Sat.alloc (w := w.drew) hg.right.drew _)
      · simp only [Array.size_append, List.size_toArray, List.length_append, size_zeroCells, Lib.byteCells_length, hsl]
        show _ ≤ l.length + s.size + _ * 1
        omega
      · rw [List.length_append, bs_length] at hj
        rw [Array.getElem?_append_left (by simp [hsl, Lib.byteCells_length]; exact hj), byteCells_app]
        simp
theorem bapp {w : World} {H : Hp} {ops : Array Oper} {rest : List Oper} {o : Oper} {a : Act} {Q : Exit → Act → World → Prop} (hgd : o.guard = none) (s x : Operand)
    (ho : o.op = .call { callee := .builtin .append, args := #[s, x], argTypes := #[118, 9] })
    (q : Option Addr) (cap : Nat) (l : List UInt8) (d : ByteArray) (n m : Nat) (hn : l.length = n) (hm : d.size = m) (hp : a.eval s = .slice q n cap) (hvx : a.eval x = .string d) (h : Sat w (bufHp q cap l * H)) (hl : l.length + d.size ≤ 1000000000)
    (hk : ∀ q' cap' w', Sat w' (bufHp q' cap' (l ++ bs d) * H) → Ran w w' → wpList Tryz.prog ops Q rest (a.put o.dst (.slice q' (n + m) cap')) w') : wpList Tryz.prog ops Q (o :: rest) a w := by
  subst hn; subst hm
  refine wpList_plain hgd fun _ hK => ?_
  obtain ⟨q', cap', w', hr, h1, h2⟩ := app_buf o.type q cap l d h hl
  unfold Oper.wp execOp
  simp only [ho, resolve, invoke, builtin, Sem.run_bind, Sem.run_pure, Result.andThen_ok, List.map_toArray, List.map_cons, List.map_nil, hp, hvx, hr]
  exact hK _ _ (hk q' cap' w' h1 h2)
theorem freeze_get {w : World} {g z n : Nat} {cur : Array Value} {T : TypeId} (h : w.heap[g]? = some (.cells cur T (0, z))) (hz : z ≤ n) (hn : n ≠ 0) : (w.freeze ⟨g, 0, none⟩ n).heap[g]? = some (.cells cur T (0, n)) := by
  unfold World.freeze
  rw [if_neg hn]
  simp only [Array.getElem?_modify, h, if_true, Option.map_some]
  by_cases e : z = 0
  · subst e; simp
  · have e1 : ((0 : Nat) == z) = false := by simp; omega
    rw [e1]
    simp
    omega
abbrev skO (sp q : Option Addr) (n cap : Nat) (most : Int) : Obj := .cells #[.pointer sp, .slice q n cap, .int .i64 most] 122 (0, 0)
theorem sk_cells {w : World} {b : Nat} {sp q : Option Addr} {n cap : Nat} {most : Int} {S : Hp} (h : Sat w (pts b (skO sp q n cap most) * S)) : w.cell? ⟨b, 0, none⟩ = some (.pointer sp) ∧ w.cell? ⟨b, 1, none⟩ = some (.slice q n cap) ∧ w.cell? ⟨b, 2, none⟩ = some (.int .i64 most) := by
  have hb := h.get
  refine ⟨?_, ?_, ?_⟩ <;> rw [cell_at hb] <;> rfl
theorem blen_calls (xb : Nat) (sp q : Option Addr) (n cap : Nat) (most : Int) (w : World) (S : Hp) (h : Sat w (pts xb (skO sp q n cap most) * S)) :
    Calls Tryz.prog 68 #[pp xb] w fun e w' => e = .returned (.int .i64 (n : Int)) ∧ w = w' := by
  obtain ⟨c0, c1, c2⟩ := sk_cells h
  clear h
  go_enter Tryz.func68, Tryz.ntmps68
  go_wp2_with fail
  go_ret
  exact ⟨rfl, rfl⟩
/-- The builder's own address, or nothing yet. -/
def SpOk (sp : Option Addr) (xb : Nat) : Prop := sp = none ∨ sp = some ⟨xb, 0, none⟩
set_option maxRecDepth 100000 in
set_option maxHeartbeats 2000000 in
theorem copycheck_calls (xb : Nat) (sp q : Option Addr) (n cap : Nat) (most : Int) (hsp : SpOk sp xb) (w : World) (S : Hp) (h : Sat w (pts xb (skO sp q n cap most) * S)) :
    Calls Tryz.prog 95 #[pp xb] w fun e w' => (e = .returned (.tuple #[]) ∧ Sat w' (pts xb (skO (some ⟨xb, 0, none⟩) q n cap most) * S)) ∧ Ran w w' := by
  obtain ⟨i0, hi, hsz⟩ := info_size infoBld
  obtain ⟨c0, c1, c2⟩ := sk_cells h
  rcases hsp with rfl | rfl
  · have cz : ∀ i, w.frozen? ⟨xb, i, none⟩ = false := fun i => free_at h.get i
    have hsh : w.shape? xb = some (122, 3) := by simp [World.shape?, h.get]
    have H := Lib.hid h
    clear h c1 c2
    go_enter Tryz.func95, Tryz.ntmps95
    go_wp2_with fail
    rw [Lib.run_to_unsafe w ⟨xb, 0, none⟩ Tryz.underlying117 Tryz.underlying213 hi (by rw [hsz]; decide) hsh (by show 0 < 3; decide)]
    simp only [Result.andThen]
    rw [Oper.upon_value]
    go_wp2_with fail
    rw [run_callFunc_extern Tryz.func113 (by kernel_rfl) (by kernel_rfl) (by kernel_rfl) (e := Extern.AbiNoEscape.same) (by kernel_rfl)]
    rw [Lib.run_noEscape]
    simp only [Result.andThen]
    rw [Oper.upon_value]
    go_wp2_with fail
    rw [Lib.run_from_unsafe w ⟨xb, 0, none⟩ Tryz.underlying213 Tryz.underlying117 hi hsh (by kernel_rfl)]
    simp only [Result.andThen]
    rw [Oper.upon_value]
    go_wp2_with fail
    go_end0
    exact ⟨⟨rfl, H.out.set (i := 0) (.pointer (some ⟨xb, 0, none⟩))⟩, Ran.set (Below.refl 0 w) _ _⟩
  · have H := Lib.hid h
    clear h c1 c2
    have hq := fun W => Lib.run_neq_ptr_same (P := Tryz.prog) W ⟨xb, 0, none⟩ Tryz.underlying117 hi
    go_enter Tryz.func95, Tryz.ntmps95
    go_wp2_with fail
    go_end0
    exact ⟨⟨rfl, H.out⟩, Below.refl 0 w⟩
set_option maxRecDepth 100000 in
set_option maxHeartbeats 2000000 in
theorem bwrite_calls (xb : Nat) (sp q : Option Addr) (cap : Nat) (l : List UInt8) (most : Int) (d : ByteArray) (hsp : SpOk sp xb) (hl : l.length + d.size ≤ 1000000000) (w : World) (S : Hp) (h : Sat w (pts xb (skO sp q l.length cap most) * (bufHp q cap l * S))) :
    Calls Tryz.prog 67 #[pp xb, .string d] w fun e w' => (e = .returned (.tuple #[.int .i64 (d.size : Int), .nilIface]) ∧ ∃ q' cap', Sat w' (pts xb (skO (some ⟨xb, 0, none⟩) q' (l ++ bs d).length cap' most) * (bufHp q' cap' (l ++ bs d) * S))) ∧ Ran w w' := by
  have hcc := Lib.hid (copycheck_calls xb sp q l.length cap most hsp w _ h)
  have Hl := Lib.hid hl
  clear h hl hsp
  go_enter Tryz.func67, Tryz.ntmps67
  go_wp2_with fail
  refine hcc.out.mono ?_
  rintro e w1 ⟨⟨rfl, H1⟩, R1⟩
  obtain ⟨c0, c1, c2⟩ := sk_cells H1
  obtain ⟨nl, hnl⟩ : ∃ n, n = l.length := ⟨_, rfl⟩
  have HSB := H1.perm (show _ = bufHp q cap l * (pts xb (skO (some ⟨xb, 0, none⟩) q nl cap most) * S) by rw [hnl]; ac_rfl)
  rw [← hnl] at c1
  have Hnl := Lib.hid hnl
  clear H1 hcc hnl
  obtain ⟨m, hm⟩ : ∃ m, m = d.size := ⟨_, rfl⟩
  have Hm := Lib.hid hm
  clear hm
  go_wp2_with (at_builtin; go_loud (refine bapp rfl _ _ rfl q cap l d nl m Hnl.out.symm Hm.out.symm rfl rfl HSB Hl.out ?_; intro q' cap' w6 T6 R6; clear HSB c0 c1 c2; have T7 := T6.perm (show _ = pts xb (skO (some ⟨xb, 0, none⟩) q nl cap most) * (bufHp q' cap' (l ++ bs d) * S) by ac_rfl); obtain ⟨c0, c1, c2⟩ := sk_cells T7; have cz : ∀ i, w6.frozen? ⟨xb, i, none⟩ = false := fun i => free_at T7.get i))
  go_ret2
  refine ⟨⟨rfl, q', cap', ?_⟩, Ran.set (Below.trans R1 R6) _ _⟩
  have e1 : (l ++ bs d).length = nl + m := by rw [List.length_append, Hnl.out, Hm.out, bs_length]
  rw [e1]
  exact T7.set (i := 1) (.slice q' (nl + m) cap')
set_option maxRecDepth 100000 in
set_option maxHeartbeats 2000000 in
theorem bstring_calls (xb : Nat) (sp q : Option Addr) (cap : Nat) (l : List UInt8) (most : Int) (hl : l.length ≤ 1000000000) (w : World) (S : Hp) (h : Sat w (pts xb (skO sp q l.length cap most) * (bufHp q cap l * S))) :
    Calls Tryz.prog 69 #[pp xb] w fun e w' => (e = .returned (.string ⟨l.toArray⟩) ∧ Sat w' (pts xb (skO sp q l.length cap most) * (bufHp q cap l * S))) ∧ Ran w w' := by
  obtain ⟨c0, c1, c2⟩ := sk_cells h.drew
  have HB := h.perm (show _ = bufHp q cap l * (pts xb (skO sp q l.length cap most) * S) by ac_rfl)
  cases q with
  | none =>
    obtain ⟨rfl, rfl, -⟩ := buf_none HB
    have hSD : ∀ W, (Builtin.unsafeSliceData_ #[118] 197 #[.slice none 0 0]).run Tryz.prog W = .ok (.pointer none) W := fun W => rfl
    have hUS : ∀ W, (Builtin.unsafeString_ #[197, 3] 9 #[.pointer none, .int .i64 0]).run Tryz.prog W = .ok (.string .empty) W := fun W => Lib.run_unsafeString_none W _ _ _ _
    have H := Lib.hid h
    clear h HB
    go_enter Tryz.func69, Tryz.ntmps69
    go_wp2_with fail
    refine region_plan (S := (fun w' => w'.cell? ⟨xb, 1, none⟩ = some (.slice none 0 0))) [(0, true), (1, true), (2, true), (3, true), (4, true), (5, true), (6, true), (7, true), (8, true), (9, true), (10, false), (11, true)] (by kernel_rfl) (by kernel_rfl) (by kernel_rfl) ?_ ?_
    · ((try dsimp only); (first | done | (exact c1)))
    simp only [planOps, List.map_cons, List.map_nil, List.getElem?_toArray, List.getElem?_cons_zero, List.getElem?_cons_succ]
    repeat (first
      | ((refine plan_yes (v := ?_) (by rfl) ?_ ?_); rotate_left; (focus (intro w hSw; (try dsimp only at hSw); go_simp; try (with_reducible rfl))); (try simp only [Act.put, List.setIfInBounds_toArray, List.set_cons_zero, List.set_cons_succ]))
      | ((refine plan_no (by rfl) ?_); (try simp only [Act.put, List.setIfInBounds_toArray, List.set_cons_zero, List.set_cons_succ]))
      | ((refine plan_step (fun K hK => ?_)); (first | (fail) | (go_simp; (fail); (try go_wp2_with fail)) | go_simp); (refine hK.out _ _ ?_ (fun hHeld => ?_)); (focus ((try dsimp only); (first | done | (exact c1)))); clear hK K; (try simp only [Act.put, List.setIfInBounds_toArray, List.set_cons_zero, List.set_cons_succ])))
    refine plan_done ?_
    go_wp2_with fail
    go_ret
    exact ⟨⟨rfl, H.out.drew⟩, Below.drew (Below.refl _ _)⟩
  | some a =>
    obtain ⟨g, cur, z, rfl, hne, hlc, hcm, hcs, hzl, hcell, hg⟩ := buf_some HB
    have hln : 0 < l.length := List.length_pos_iff.2 hne
    have hgd := hg.drew.get
    have hsh : w.drew.shape? g = some (5, cur.size) := by simp [World.shape?, hgd]
    have hSD : ∀ W, (Builtin.unsafeSliceData_ #[118] 197 #[.slice (some ⟨g, 0, none⟩) l.length cap]).run Tryz.prog W = .ok (.pointer (some ⟨g, 0, none⟩)) W := fun W => Lib.run_unsafeSliceData_row W _ _ _ _ _ (by omega)
    have hUS : (Builtin.unsafeString_ #[197, 3] 9 #[.pointer (some ⟨g, 0, none⟩), .int .i64 l.length]).run Tryz.prog w.drew = .ok (.string ⟨l.toArray⟩) (w.drew.freeze ⟨g, 0, none⟩ l.length) := by
      refine Lib.run_unsafeString_row w.drew _ _ _ 5 Tryz.underlying197 cellsU8 g cur.size hsh l hne (by omega) (by omega) (fun j x hx => ?_)
      have hj : j < l.length := (List.getElem?_eq_some_iff.1 hx).1
      rw [Addr.add_lit, Nat.zero_add, cell_at hgd, hcell j hj]
      simp [Lib.byteCells, hx]
    have hfz : (w.drew.freeze ⟨g, 0, none⟩ l.length).heap[g]? = some (.cells cur 5 (0, l.length)) := freeze_get hgd hzl (by omega)
    have hoth : ∀ k, k < w.drew.heap.size → k ≠ g → (w.drew.freeze ⟨g, 0, none⟩ l.length).heap[k]? = w.drew.heap[k]? := fun k _ hk => by
      unfold World.freeze
      split
      · rfl
      · simp only [Array.getElem?_modify]
        rw [if_neg (fun e => hk e.symm)]
    have S2 := buf_mk (cap := cap) hne hlc hcm hcs (Nat.le_refl _) hcell (hg.drew.put hfz hoth)
    have R2 := Lib.hid (Lib.below_freeze (Below.drew (Below.refl 0 w)) (p := ⟨g, 0, none⟩) (Nat.zero_le _) l.length)
    obtain ⟨w2, hw2⟩ : ∃ w2, w2 = w.drew.freeze ⟨g, 0, none⟩ l.length := ⟨_, rfl⟩
    rw [← hw2] at hUS S2 R2
    have S3 := S2.perm (show _ = pts xb (skO sp (some ⟨g, 0, none⟩) l.length cap most) * (bufHp (some ⟨g, 0, none⟩) cap l * S) by ac_rfl)
    have c1' := (sk_cells S3).2.1
    have S3 := Lib.hid S3
    clear h HB hg hgd hfz hoth S2 hw2 hsh hcell hcm hcs hne hlc hzl c0 c2
    obtain ⟨n, hn⟩ : ∃ n, n = l.length := ⟨_, rfl⟩
    rw [← hn] at c1 c1' hSD hUS
    clear hn hln hl
    go_enter Tryz.func69, Tryz.ntmps69
    go_wp2_with fail
    refine region_plan (S := (fun w' => w'.cell? ⟨xb, 1, none⟩ = some (.slice (some ⟨g, 0, none⟩) n cap))) [(0, true), (1, true), (2, true), (3, true), (4, true), (5, true), (6, true), (7, true), (8, true), (9, true), (10, false), (11, true)] (by kernel_rfl) (by kernel_rfl) (by kernel_rfl) ?_ ?_
    · ((try dsimp only); (first | done | (first | exact c1 | exact c1')))
    simp only [planOps, List.map_cons, List.map_nil, List.getElem?_toArray, List.getElem?_cons_zero, List.getElem?_cons_succ]
    repeat (first
      | ((refine plan_yes (v := ?_) (by rfl) ?_ ?_); rotate_left; (focus (intro w hSw; (try dsimp only at hSw); go_simp; try (with_reducible rfl))); (try simp only [Act.put, List.setIfInBounds_toArray, List.set_cons_zero, List.set_cons_succ]))
      | ((refine plan_no (by rfl) ?_); (try simp only [Act.put, List.setIfInBounds_toArray, List.set_cons_zero, List.set_cons_succ]))
      | ((refine plan_step (fun K hK => ?_)); (first | (fail) | (go_simp; (fail); (try go_wp2_with fail)) | go_simp); (refine hK.out _ _ ?_ (fun hHeld => ?_)); (focus ((try dsimp only); (first | done | (first | exact c1 | exact c1')))); clear hK K; (try simp only [Act.put, List.setIfInBounds_toArray, List.set_cons_zero, List.set_cons_succ])))
    refine plan_done ?_
    go_wp2_with fail
    go_ret
    exact ⟨⟨rfl, S3.out⟩, R2.out⟩
end Go.Proofs.YtljlpkeddbfpaaaGreatDoor.Hd

