/- The last Unref of a text and of a sink; Write at a pipe that is full. (printed by gen_hdus.py) -/
import Derived.Test.YtljlpkeddbfpaaaGreatDoorHdZ
import Derived.Test.YtljlpkeddbfpaaaGreatDoorHdSn
namespace Go.Proofs.YtljlpkeddbfpaaaGreatDoor.Hd
open Go.RowKit Go.Maps Go.Proofs.YtljlpkeddbfpaaaGreatDoor Go.Proofs.YtljlpkeddbfpaaaGreatDoor.Hp
set_option linter.unusedVariables false
attribute [local go_sem] Oper.semAt_some

set_option maxRecDepth 100000 in
set_option maxHeartbeats 4000000 in
theorem Unref_last_sink (tb fb pb hm n : Nat) (L : HL) (id : Int) (y : Hn) (hid : I64 id) (hy : findA L id = some y) (hnd : NodupK L) (h1 : y.refs = 1) (w : World) (R R' : Hp)
    (hT : thT y.t = 116)
    (HG : ∀ W, Sat W (pts y.xb (thO fb y.t) * (tabHp tb fb pb hm (delA L id) n * R)) → Calls Tryz.prog 232 #[pp y.xb] W fun e w' => (e = .returned (.tuple #[]) ∧ Sat w' (tabHp tb fb pb hm (delA L id) n * R')) ∧ Ran W w')
    (h : Sat w (tabHp tb fb pb hm L n * R)) :
    Calls Tryz.prog 27 #[pp tb, .int .i64 id] w fun e w' => (e = .returned (.int .i64 0) ∧ Sat w' (tabHp tb fb pb hm (delA L id) n * R')) ∧ Ran w w' := by
  have HGt := get_calls tb fb pb hm n L id hid w _ h
  unfold getE at HGt
  rw [show hblk L id = some y.b by unfold hblk; rw [hy]; rfl, hy] at HGt
  unfold pv at HGt
  have HGt := Lib.hid HGt
  obtain ⟨X, e1, -, e3⟩ := focusA (hnHp fb) L id y hy
  have hlen := delA_len L id (by rw [hy]; rfl)
  have S1 := h.perm (show _ = pts y.b (hnO y) * (pmap hm (hblk L) ((delA L id).length + 1) n * (pts y.xb (thO fb y.t) * (pts tb (tbO fb pb hm) * (X * R)))) by unfold tabHp; rw [e1, ← hlen]; unfold hnHp; ac_rfl)
  obtain ⟨d0, d1⟩ := hn_cells S1
  rw [h1] at d0
  have f0 : ∀ i, w.frozen? ⟨y.b, i, none⟩ = false := fun i => free_at S1.get i
  have S2 := S1.set (i := 0) (.int .i64 0)
  obtain ⟨q0, q1⟩ := hn_cells (x := { y with refs := 0 }) S2
  have c2 : (w.setCell ⟨y.b, 0, none⟩ (.int .i64 0)).cell? ⟨tb, 2, none⟩ = some (.map (some hm)) := by
    rw [cell_at (S2.perm (show _ = pts tb (tbO fb pb hm) * (pts y.b (hnO { y with refs := 0 }) * (pmap hm (hblk L) ((delA L id).length + 1) n * (pts y.xb (thO fb y.t) * (X * R)))) by show pts y.b (hnO { y with refs := 0 }) * _ = _; ac_rfl)).get]; rfl
  obtain ⟨w2, hrun, S3, R3⟩ := pmap_del Tryz.underlying79 (S2.perm (show _ = pmap hm (hblk L) ((delA L id).length + 1) n * (pts y.b (hnO { y with refs := 0 }) * (pts y.xb (thO fb y.t) * (pts tb (tbO fb pb hm) * (X * R)))) by show pts y.b (hnO { y with refs := 0 }) * _ = _; ac_rfl)) id hid (by unfold hblk; rw [hy]; rfl) 0
  obtain ⟨x0, x1⟩ := hn_cells (x := { y with refs := 0 }) (S3.perm (show _ = pts y.b (hnO { y with refs := 0 }) * (pmap hm (delP (hblk L) id) (delA L id).length n * (pts y.xb (thO fb y.t) * (pts tb (tbO fb pb hm) * (X * R)))) by ac_rfl))
  have S4 := S3.perm (show _ = pts y.b (hnO { y with refs := 0 }) * (pts y.xb (thO fb y.t) * (tabHp tb fb pb hm (delA L id) n * R)) by unfold tabHp; rw [hblk_del hnd, e3]; ac_rfl)
  have HGo := Lib.hid (HG w2 S4.right)
  have R4 := Lib.hid (Below.trans (Ran.set (Below.refl 0 w) ⟨y.b, 0, none⟩ (.int .i64 0)) R3)
  have hmt := meth_sink_gone y.xb
  dsimp only at q1 x1
  rw [hT] at d1 q1 x1
  clear h S1 S2 S3 S4 HG hT e1 e3 hlen R3
  go_enter Tryz.func27, Tryz.ntmps27
  go_wp2_with fail
  refine HGt.out.mono ?_
  rintro e w1 ⟨rfl, rfl⟩
  go_wp2_with fail
  refine HGo.out.mono ?_
  rintro e w3 ⟨⟨rfl, S5⟩, R5⟩
  have R5 := Lib.hid (Below.trans R4.out R5)
  have S5 := Lib.hid S5
  clear HGo R4
  go_wp2_with fail
  go_ret
  exact ⟨⟨rfl, S5.out⟩, R5.out⟩
theorem gone_text (xb : Nat) (w : World) : Calls Tryz.prog 211 #[pp xb] w fun e w' => e = .returned (.tuple #[]) ∧ w = w' := by
  go_enter Tryz.func211, Tryz.ntmps211
  go_wp2_with fail
  go_end0
  exact ⟨rfl, rfl⟩
theorem gone_sink (xb : Nat) (w : World) : Calls Tryz.prog 232 #[pp xb] w fun e w' => e = .returned (.tuple #[]) ∧ w = w' := by
  go_enter Tryz.func232, Tryz.ntmps232
  go_wp2_with fail
  go_end0
  exact ⟨rfl, rfl⟩
theorem Unref_text_one (tb fb pb hm n : Nat) (L : HL) (id : Int) (y : Hn) (s : ByteArray) (a : Nat) (hid : I64 id) (hy : findA L id = some y) (hyt : y.t = .text s a) (hnd : NodupK L) (h1 : y.refs = 1) (w : World) (R : Hp)
    (h : Sat w (tabHp tb fb pb hm L n * R)) :
    Calls Tryz.prog 27 #[pp tb, .int .i64 id] w fun e w' => (e = .returned (.int .i64 0) ∧ Sat w' (tabHp tb fb pb hm (delA L id) n * R)) ∧ Ran w w' := by
  refine Unref_last_text tb fb pb hm n L id y hid hy hnd h1 w R R (by rw [hyt]; rfl) (fun W hW => ?_) h
  refine (gone_text y.xb W).mono ?_
  rintro e w' ⟨rfl, rfl⟩
  exact ⟨⟨rfl, hW.right⟩, Below.refl 0 W⟩
theorem Unref_sink_one (tb fb pb hm n : Nat) (L : HL) (id : Int) (y : Hn) (sp q : Option Addr) (cap : Nat) (l : List UInt8) (most : Nat) (hid : I64 id) (hy : findA L id = some y) (hyt : y.t = .sink sp q cap l most) (hnd : NodupK L) (h1 : y.refs = 1) (w : World) (R : Hp)
    (h : Sat w (tabHp tb fb pb hm L n * R)) :
    Calls Tryz.prog 27 #[pp tb, .int .i64 id] w fun e w' => (e = .returned (.int .i64 0) ∧ Sat w' (tabHp tb fb pb hm (delA L id) n * R)) ∧ Ran w w' := by
  refine Unref_last_sink tb fb pb hm n L id y hid hy hnd h1 w R R (by rw [hyt]; rfl) (fun W hW => ?_) h
  refine (gone_sink y.xb W).mono ?_
  rintro e w' ⟨rfl, rfl⟩
  exact ⟨⟨rfl, hW.right⟩, Below.refl 0 W⟩
set_option maxRecDepth 100000 in
set_option maxHeartbeats 4000000 in
theorem wwrite_full (xb bb eb bp held used opn tot frm : Nat) (data : List UInt8) (d : ByteArray) (hh : 40 < held + d.size) (hh2 : held ≤ 40) (w : World) (R : Hp)
    (h : Sat w (pts xb (wrO bb eb) * (Spill.poolX bp 40 3 4 held used opn tot * (Spill.bufX bb bp 3 4 frm data * R)))) :
    Calls Tryz.prog 229 #[pp xb, .string d] w fun e w' => (e = .returned (.int .i64 41) ∧ Sat w' (pts xb (wrO bb eb) * (Spill.poolX bp 40 3 4 held used opn tot * (Spill.bufX bb bp 3 4 frm data * R)))) ∧ Ran w w' := by
  obtain ⟨d0, d1⟩ := rd_cells h
  have HA := Lib.hid (Spill.append_full bp bb 40 3 4 held used opn tot frm data d (pts xb (wrO bb eb) * R) w (by omega) hh hh2 (h.perm (show _ = Spill.poolX bp 40 3 4 held used opn tot * (Spill.bufX bb bp 3 4 frm data * (pts xb (wrO bb eb) * R)) by ac_rfl)))
  have H := Lib.hid h
  clear h
  go_enter Tryz.func229, Tryz.ntmps229
  go_wp2_with fail
  refine HA.out.mono ?_
  rintro e w1 ⟨rfl, nn, rfl⟩
  have S1 := Lib.hid (H.out.drewN nn)
  have R1 := Lib.hid (Ran.drewN (Below.refl 0 w) nn)
  clear HA
  go_wp2_with fail
  go_ret
  exact ⟨⟨rfl, S1.out⟩, R1.out⟩
set_option maxRecDepth 100000 in
set_option maxHeartbeats 4000000 in
theorem TWrite_writer_full (tb fb bp hm n held used opn tot frm : Nat) (L : HL) (id : Int) (y : Hn) (bb eb : Nat) (data : List UInt8) (d : ByteArray) (hid : I64 id) (hy : findA L id = some y) (hyt : y.t = .writer bb eb) (hh : 40 < held + d.size) (hh2 : held ≤ 40) (hf : frm + data.length + 100000 ≤ 1000000000) (w : World) (R : Hp)
    (h : Sat w (tabHp tb fb bp hm L n * (Spill.poolX bp 40 3 4 held used opn tot * (Spill.bufX bb bp 3 4 frm data * R)))) :
    Calls Tryz.prog 11 #[pp tb, .int .i64 id, .string d] w fun e w' => (e = .returned (.int .i64 41) ∧ Sat w' (tabHp tb fb bp hm L n * (Spill.poolX bp 40 3 4 held used opn tot * (Spill.bufX bb bp 3 4 frm data * R)))) ∧ Ran w w' := by
  have HGt := get_calls tb fb bp hm n L id hid w _ h
  unfold getE at HGt
  rw [show hblk L id = some y.b by unfold hblk; rw [hy]; rfl, hy] at HGt
  unfold pv at HGt
  have HGt := Lib.hid HGt
  obtain ⟨X, S1, back⟩ := tab_node h hy
  obtain ⟨d0, d1⟩ := hn_cells S1
  have hup : updA L id y = L := updA_same L id y hy
  rw [hyt] at S1 d1
  unfold thT at d1
  unfold thO at S1
  have hmi := meth_writer_info y.xb
  have hmw2 := meth_writer_write y.xb
  have S2 := S1.perm (show _ = pts y.xb (wrO bb eb) * (Spill.bufX bb bp 3 4 frm data * (Spill.poolX bp 40 3 4 held used opn tot * (X * R * pts y.b (hnO y)))) by ac_rfl)
  have HIn := Lib.hid (winfo_calls y.xb bb eb bp frm data (by omega) w _ S2)
  have S2 := Lib.hid S2
  have hf1 := field_mode 5 0 (data.length : Int) 0 false true false
  have hf2 := field_w false true false
  have Back := Lib.hid back
  have Hyt := Lib.hid hyt
  skip
  clear h S1 back hyt hy
  go_enter Tryz.func11, Tryz.ntmps11
  go_wp2_with fail
  refine HGt.out.mono ?_
  rintro e w1 ⟨rfl, rfl⟩
  go_wp2_with fail
  refine HIn.out.mono ?_
  rintro e w1 ⟨rfl, hB⟩
  have S3 := S2.out.below hB
  have R3 := Lib.hid (below_ran hB)
  obtain ⟨e0, e1⟩ := hn_cells (S3.perm (show _ = pts y.b (hnO y) * (pts y.xb (wrO bb eb) * (Spill.bufX bb bp 3 4 frm data * (Spill.poolX bp 40 3 4 held used opn tot * (X * R)))) by ac_rfl))
  rw [Hyt.out] at e1
  unfold thT at e1
  have HW := Lib.hid (wwrite_full y.xb bb eb bp held used opn tot frm data d hh hh2 w1 (X * R * pts y.b (hnO y)) (S3.perm (by ac_rfl)))
  clear hB HIn HGt d0 d1 S3 S2
  go_wp2_with fail
  refine HW.out.mono ?_
  rintro e w2 ⟨⟨rfl, S4⟩, R4⟩
  have R4 := Lib.hid (Below.trans R3.out R4)
  have S5 := Lib.hid (Back.out w2 y (Spill.poolX bp 40 3 4 held used opn tot * (Spill.bufX bb bp 3 4 frm data * R)) rfl (S4.perm (show _ = pts y.b (hnO y) * (pts y.xb (thO fb y.t) * (X * (Spill.poolX bp 40 3 4 held used opn tot * (Spill.bufX bb bp 3 4 frm data * R)))) by rw [Hyt.out]; unfold thO; ac_rfl)))
  rw [hup] at S5
  clear S4 HW
  go_wp2_with fail
  go_ret
  exact ⟨⟨rfl, S5.out⟩, R4.out⟩
end Go.Proofs.YtljlpkeddbfpaaaGreatDoor.Hd
