/- HandlesPlays, part 12 of 31: the texts HdUs HdTr HdTt HdEr NdP NdQ NdR NdS, joined by a program. -/
import Derived.Test.YteienbdbhnikbaaGreatDoorPw11
import Derived.Test.YteienbdbhnikbaaGreatDoorPw10
import Derived.Lib.CutLaws
namespace Go.Proofs.YteienbdbhnikbaaGreatDoor.Hd
open Go.RowKit Go.Maps Go.Proofs.YteienbdbhnikbaaGreatDoor Go.Proofs.YteienbdbhnikbaaGreatDoor.Hp
set_option linter.unusedVariables false
attribute [local go_sem] Oper.semAt_some

set_option maxRecDepth 100000 in
set_option maxHeartbeats 4000000 in
theorem wwrite_full (xb bb eb bp held used opn tot frm : Nat) (data : List UInt8) (d : ByteArray) (hh : 40 < held + d.size) (hh2 : held ≤ 40) (w : World) (R : Hp)
    (h : Sat w (pts xb (wrO bb eb) * (Spill.poolX bp 40 3 4 held used opn tot * (Spill.bufX bb bp 3 4 frm data * R)))) :
    Calls Tryz.prog 180 #[pp xb, .string d] w fun e w' => (e = .returned (.int .i64 41) ∧ Sat w' (pts xb (wrO bb eb) * (Spill.poolX bp 40 3 4 held used opn tot * (Spill.bufX bb bp 3 4 frm data * R)))) ∧ Ran w w' := by
  obtain ⟨d0, d1⟩ := rd_cells h
  have HA := Lib.hid (Spill.append_full bp bb 40 3 4 held used opn tot frm data d (pts xb (wrO bb eb) * R) w (by omega) hh hh2 (h.perm (show _ = Spill.poolX bp 40 3 4 held used opn tot * (Spill.bufX bb bp 3 4 frm data * (pts xb (wrO bb eb) * R)) by ac_rfl)))
  have H := Lib.hid h
  clear h
  go_enter Tryz.func180, Tryz.ntmps180
  go_wp2_with fail
  refine HA.out.mono ?_
  rintro e w1 ⟨rfl, nn, rfl⟩
  have S1 := Lib.hid (H.out.drewN nn)
  have R1 := Lib.hid (Ran.drewN (Below.refl 0 w) nn)
  clear HA
  go_wp2_with fail
  go_ret
  exact ⟨⟨rfl, S1.out⟩, R1.out⟩
set_option maxRecDepth 100000 in
set_option maxHeartbeats 4000000 in
theorem TWrite_writer_full (tb fb bp hm n held used opn tot frm : Nat) (L : HL) (id : Int) (y : Hn) (bb eb : Nat) (data : List UInt8) (d : ByteArray) (hid : I64 id) (hy : findA L id = some y) (hyt : y.t = .writer bb eb) (hh : 40 < held + d.size) (hh2 : held ≤ 40) (hf : frm + data.length + 100000 ≤ 1000000000) (w : World) (R : Hp)
    (h : Sat w (tabHp tb fb bp hm L n * (Spill.poolX bp 40 3 4 held used opn tot * (Spill.bufX bb bp 3 4 frm data * R)))) :
    Calls Tryz.prog 63 #[pp tb, .int .i64 id, .string d] w fun e w' => (e = .returned (.int .i64 41) ∧ Sat w' (tabHp tb fb bp hm L n * (Spill.poolX bp 40 3 4 held used opn tot * (Spill.bufX bb bp 3 4 frm data * R)))) ∧ Ran w w' := by
  have HGt := get_calls tb fb bp hm n L id hid w _ h
  unfold getE at HGt
  rw [show hblk L id = some y.b by unfold hblk; rw [hy]; rfl, hy] at HGt
  unfold pv at HGt
  have HGt := Lib.hid HGt
  obtain ⟨X, S1, back⟩ := tab_node h hy
  obtain ⟨d0, d1⟩ := hn_cells S1
  have hup : updA L id y = L := updA_same L id y hy
  rw [hyt] at S1 d1
  unfold thT at d1
  unfold thO at S1
  have hmi := meth_writer_info y.xb
  have hmw2 := meth_writer_write y.xb
  have S2 := S1.perm (show _ = pts y.xb (wrO bb eb) * (Spill.bufX bb bp 3 4 frm data * (Spill.poolX bp 40 3 4 held used opn tot * (X * R * pts y.b (hnO y)))) by ac_rfl)
  have HIn := Lib.hid (winfo_calls y.xb bb eb bp frm data (by omega) w _ S2)
  have S2 := Lib.hid S2
  have hf1 := field_mode 5 0 (data.length : Int) 0 false true false
  have hf2 := field_w false true false
  have Back := Lib.hid back
  have Hyt := Lib.hid hyt
  skip
  clear h S1 back hyt hy
  go_enter Tryz.func63, Tryz.ntmps63
  go_wp2_with fail
  refine HGt.out.mono ?_
  rintro e w1 ⟨rfl, rfl⟩
  go_wp2_with fail
  refine HIn.out.mono ?_
  rintro e w1 ⟨rfl, hB⟩
  have S3 := S2.out.below hB
  have R3 := Lib.hid (below_ran hB)
  obtain ⟨e0, e1⟩ := hn_cells (S3.perm (show _ = pts y.b (hnO y) * (pts y.xb (wrO bb eb) * (Spill.bufX bb bp 3 4 frm data * (Spill.poolX bp 40 3 4 held used opn tot * (X * R)))) by ac_rfl))
  rw [Hyt.out] at e1
  unfold thT at e1
  have HW := Lib.hid (wwrite_full y.xb bb eb bp held used opn tot frm data d hh hh2 w1 (X * R * pts y.b (hnO y)) (S3.perm (by ac_rfl)))
  clear hB HIn HGt d0 d1 S3 S2
  go_wp2_with fail
  refine HW.out.mono ?_
  rintro e w2 ⟨⟨rfl, S4⟩, R4⟩
  have R4 := Lib.hid (Below.trans R3.out R4)
  have S5 := Lib.hid (Back.out w2 y (Spill.poolX bp 40 3 4 held used opn tot * (Spill.bufX bb bp 3 4 frm data * R)) rfl (S4.perm (show _ = pts y.b (hnO y) * (pts y.xb (thO fb y.t) * (X * (Spill.poolX bp 40 3 4 held used opn tot * (Spill.bufX bb bp 3 4 frm data * R)))) by rw [Hyt.out]; unfold thO; ac_rfl)))
  rw [hup] at S5
  clear S4 HW
  go_wp2_with fail
  go_ret
  exact ⟨⟨rfl, S5.out⟩, R4.out⟩
end Go.Proofs.YteienbdbhnikbaaGreatDoor.Hd

namespace Go.Proofs.YteienbdbhnikbaaGreatDoor.Hd
open Go.RowKit Go.Maps Go.Proofs.YteienbdbhnikbaaGreatDoor Go.Proofs.YteienbdbhnikbaaGreatDoor.Hp
set_option linter.unusedVariables false
attribute [local go_sem] Oper.semAt_some

set_option maxRecDepth 100000 in
set_option maxHeartbeats 4000000 in
theorem tread_calls (xb : Nat) (s : ByteArray) (a q : Nat) (ha : a ≤ s.size) (hs : s.size ≤ 1048576) (hq : q ≤ 9223372036854775807) (w : World) (R : Hp) (h : Sat w (pts xb (txO s a) * R)) :
    Calls Tryz.prog 154 #[pp xb, .int .i64 q] w fun e w' => (e = .returned (.tuple #[.string (readB s a q), .int .i64 0]) ∧ Sat w' (pts xb (txO s ((a + (readB s a q).size : Nat) : Int)) * R)) ∧ Ran w w' := by
  obtain ⟨d0, d1⟩ := tx_cells h.drew
  have f0 : ∀ i, w.drew.frozen? ⟨xb, i, none⟩ = false := fun i => free_at h.drew.get i
  unfold readB
  rw [Nat.min_eq_left ha]
  obtain ⟨rs, hrs⟩ : ∃ r, r = s.extract a s.size := ⟨_, rfl⟩
  have hrsz : rs.size ≤ s.size := by rw [hrs, ByteArray.size_extract]; omega
  rw [← hrs]
  obtain ⟨pm, hpm⟩ : ∃ p, p = min q rs.size := ⟨_, rfl⟩
  rw [← hpm]
  have hmin2 : min (q : Int) (rs.size : Int) = (pm : Int) := by omega
  have hp2 : (0 : Int) ≤ (pm : Int) := by omega
  have hp3n : pm ≤ rs.size := by omega
  obtain ⟨t, ht⟩ : ∃ t, t = rs.extract 0 pm := ⟨_, rfl⟩
  have htz : t.size ≤ 1048576 := by rw [ht, ByteArray.size_extract]; omega
  rw [← ht, show ((a + t.size : Nat) : Int) = (a : Int) + (t.size : Int) by omega]
  have htI : (t.size : Int) ≤ 1048576 := by omega
  have haI : (a : Int) ≤ (s.size : Int) := by omega
  have ha0 : (0 : Int) ≤ (a : Int) := by omega
  have hsI : (s.size : Int) ≤ 1048576 := by omega
  have S3 : Hid (Sat (w.drew.setCell ⟨xb, 1, none⟩ (.int .i64 ((a : Int) + (t.size : Int)))) (pts xb (txO s ((a : Int) + (t.size : Int))) * R)) := Lib.hid (h.drew.set (i := 1) (.int .i64 ((a : Int) + (t.size : Int))))
  have Hrs := Lib.hid hrs.symm
  have Ht := Lib.hid ht.symm
  clear h hrs hpm ht
  go_enter Tryz.func154, Tryz.ntmps154
  go_wp2_with fail
  refine region_plan (S := (fun w' => w'.cell? ⟨xb, 0, none⟩ = some (.string s) ∧ w'.cell? ⟨xb, 1, none⟩ = some (.int .i64 (a : Int)))) [(0, true), (1, true), (2, true), (3, true), (4, true), (5, true), (6, true), (7, true), (8, true), (9, true)] (by kernel_rfl) (by kernel_rfl) (by kernel_rfl) ?_ ?_
  · ((try dsimp only); (first | done | (exact ⟨d0, d1⟩)))
  simp only [planOps, List.map_cons, List.map_nil, List.getElem?_toArray, List.getElem?_cons_zero, List.getElem?_cons_succ]
  repeat (first
    | ((refine plan_yes (v := ?_) (by rfl) ?_ ?_); rotate_left; (focus (intro w hSw; (try dsimp only at hSw); go_simp; try (with_reducible rfl))); (try simp only [Act.put, List.setIfInBounds_toArray, List.set_cons_zero, List.set_cons_succ]))
    | ((refine plan_no (by rfl) ?_); (try simp only [Act.put, List.setIfInBounds_toArray, List.set_cons_zero, List.set_cons_succ]))
    | ((refine plan_step (fun K hK => ?_)); (first | (fail) | (go_simp; (fail); (try go_wp2_with fail)) | go_simp); (refine hK.out _ _ ?_ (fun hHeld => ?_)); (focus ((try dsimp only); (first | done | (exact ⟨d0, d1⟩)))); clear hK K; (try simp only [Act.put, List.setIfInBounds_toArray, List.set_cons_zero, List.set_cons_succ])))
  refine plan_done ?_
  rw [Hrs.out]
  go_upto_region 3 with fail
  rw [Ht.out]
  go_wp2_with fail
  go_ret2
  exact ⟨⟨rfl, S3.out⟩, Ran.set (Ran.drewN (Below.refl 0 w) 1) _ _⟩
end Go.Proofs.YteienbdbhnikbaaGreatDoor.Hd

namespace Go.Proofs.YteienbdbhnikbaaGreatDoor.Hd
open Go.RowKit Go.Maps Go.Proofs.YteienbdbhnikbaaGreatDoor Go.Proofs.YteienbdbhnikbaaGreatDoor.Hp
set_option linter.unusedVariables false
attribute [local go_sem] Oper.semAt_some

set_option maxRecDepth 100000 in
set_option maxHeartbeats 4000000 in
theorem TRead_text (tb fb pb hm n : Nat) (L : HL) (id : Int) (y : Hn) (s : ByteArray) (a q : Nat) (hid : I64 id) (hy : findA L id = some y) (hyt : y.t = .text s a) (ha : a ≤ s.size) (hs : s.size ≤ 1048576) (hq : q ≤ 9223372036854775807) (w : World) (R : Hp)
    (h : Sat w (tabHp tb fb pb hm L n * R)) :
    Calls Tryz.prog 70 #[pp tb, .int .i64 id, .int .i64 q] w fun e w' => (e = .returned (.tuple #[.string (readB s a q), .int .i64 0]) ∧
      Sat w' (tabHp tb fb pb hm (updA L id { y with t := .text s (a + (readB s a q).size) }) n * R)) ∧ Ran w w' := by
  have HGt := get_calls tb fb pb hm n L id hid w _ h
  unfold getE at HGt
  rw [show hblk L id = some y.b by unfold hblk; rw [hy]; rfl, hy] at HGt
  unfold pv at HGt
  have HGt := Lib.hid HGt
  obtain ⟨X, S1, back⟩ := tab_node h hy
  obtain ⟨d0, d1⟩ := hn_cells S1
  rw [hyt] at S1 d1
  unfold thT at d1
  unfold thO at S1
  have hmi := meth_text_info y.xb
  have hmw2 := meth_text_read y.xb
  have S2 := S1.perm (show _ = pts y.xb (txO s a) * (X * R * pts y.b (hnO y)) by ac_rfl)
  have HIn := Lib.hid (tinfo_calls y.xb s a w _ S2)
  have S2 := Lib.hid S2
  have HFR := Lib.hid (fun W hW => tread_calls y.xb s a q ha hs hq W (X * R * pts y.b (hnO y)) hW)
  obtain ⟨r, hr⟩ : ∃ r, r = readB s a q := ⟨_, rfl⟩
  rw [← hr] at HFR ⊢
  have Back := Lib.hid back
  have Hyt := Lib.hid hyt
  have hf1 := field_mode 2 0 a 0 true false false
  have hf2 := field_r true false false
  have hq0 : (0 : Int) ≤ (q : Int) := by omega
  clear h S1 back hyt hy hr
  go_enter Tryz.func70, Tryz.ntmps70
  go_wp2_with fail
  refine HGt.out.mono ?_
  rintro e w1 ⟨rfl, rfl⟩
  go_wp2_with fail
  refine HIn.out.mono ?_
  rintro e w1 ⟨rfl, hB⟩
  have S3 := S2.out.below hB
  have R3 := Lib.hid (below_ran hB)
  obtain ⟨e0, e1⟩ := hn_cells (S3.perm (show _ = pts y.b (hnO y) * (pts y.xb (txO s a) * (X * R)) by ac_rfl))
  rw [Hyt.out] at e1
  unfold thT at e1
  have HW := Lib.hid (HFR.out _ S3)
  clear hB HIn HFR HGt d0 d1 S3 S2
  go_wp2_with fail
  refine HW.out.mono ?_
  rintro e w2 ⟨⟨rfl, S4⟩, R4⟩
  have R4 := Lib.hid (Below.trans R3.out R4)
  have S5 := Lib.hid (Back.out w2 { y with t := .text s (a + r.size) } R rfl (S4.perm (show _ = pts y.b (hnO { y with t := .text s (a + r.size) }) * (pts y.xb (txO s ((a + r.size : Nat) : Int)) * (X * R)) by
    rw [show hnO { y with t := .text s (a + r.size) } = hnO y by unfold hnO; rw [Hyt.out]; rfl]
    ac_rfl)))
  clear S4 HW
  go_wp2_with fail
  go_ret2
  exact ⟨⟨rfl, S5.out⟩, R4.out⟩
end Go.Proofs.YteienbdbhnikbaaGreatDoor.Hd

namespace Go.Proofs.YteienbdbhnikbaaGreatDoor.Hd
open Go.RowKit Go.Maps Go.Proofs.YteienbdbhnikbaaGreatDoor Go.Proofs.YteienbdbhnikbaaGreatDoor.Hp
set_option linter.unusedVariables false
attribute [local go_sem] Oper.semAt_some

set_option maxRecDepth 100000 in
set_option maxHeartbeats 4000000 in
theorem TRead_no_file (tb fb pb hm n : Nat) (L : HL) (id : Int) (y : Hn) (k : Int) (a : Nat) (m : Md) (hid : I64 id) (hy : findA L id = some y) (hyt : y.t = .file k a m) (qn : Int) (hmd : m.r = false) (w : World) (R : Hp)
    (h : Sat w (tabHp tb fb pb hm L n * R)) :
    Calls Tryz.prog 70 #[pp tb, .int .i64 id, .int .i64 qn] w fun e w' => e = .returned (.tuple #[.string ⟨#[]⟩, .int .i64 19]) ∧ Below w.heap.size w w' := by
  have HGt := get_calls tb fb pb hm n L id hid w _ h
  unfold getE at HGt
  rw [show hblk L id = some y.b by unfold hblk; rw [hy]; rfl, hy] at HGt
  unfold pv at HGt
  have HGt := Lib.hid HGt
  obtain ⟨X, S1, back⟩ := tab_node h hy
  obtain ⟨d0, d1⟩ := hn_cells S1
  rw [hyt] at S1 d1
  unfold thT at d1
  unfold thO at S1
  have hmi := meth_file_info y.xb
  have S2 := S1.perm (show _ = pts y.xb (flO fb k a m) * (X * R * pts y.b (hnO y)) by ac_rfl)
  have HIn := Lib.hid (finfo_calls y.xb fb k a m w _ S2)
  obtain ⟨mr, mw, mm⟩ := m
  dsimp only at hmd
  subst hmd
  have hf1 := field_mode 1 0 a k false mw mm
  have hf2 := field_r false mw mm
  clear h S1 S2 back hyt hy
  go_enter Tryz.func70, Tryz.ntmps70
  go_wp2_with fail
  refine HGt.out.mono ?_
  rintro e w1 ⟨rfl, rfl⟩
  go_wp2_with fail
  refine HIn.out.mono ?_
  rintro e w1 ⟨rfl, hB⟩
  have hB := Lib.hid hB
  clear HGt HIn
  go_wp2_with fail
  go_ret2
  exact ⟨rfl, hB.out⟩
set_option maxRecDepth 100000 in
set_option maxHeartbeats 4000000 in
theorem TRead_no_sink (tb fb pb hm n : Nat) (L : HL) (id : Int) (y : Hn) (sp q : Option Addr) (cap : Nat) (l : List UInt8) (most : Nat) (hid : I64 id) (hy : findA L id = some y) (hyt : y.t = .sink sp q cap l most) (qn : Int) (w : World) (R : Hp)
    (h : Sat w (tabHp tb fb pb hm L n * R)) :
    Calls Tryz.prog 70 #[pp tb, .int .i64 id, .int .i64 qn] w fun e w' => e = .returned (.tuple #[.string ⟨#[]⟩, .int .i64 19]) ∧ Below w.heap.size w w' := by
  have HGt := get_calls tb fb pb hm n L id hid w _ h
  unfold getE at HGt
  rw [show hblk L id = some y.b by unfold hblk; rw [hy]; rfl, hy] at HGt
  unfold pv at HGt
  have HGt := Lib.hid HGt
  obtain ⟨X, S1, back⟩ := tab_node h hy
  obtain ⟨d0, d1⟩ := hn_cells S1
  rw [hyt] at S1 d1
  unfold thT at d1
  unfold thO at S1
  have hmi := meth_sink_info y.xb
  have S2 := S1.perm (show _ = pts y.xb (skO sp q l.length cap most) * (X * R * pts y.b (hnO y)) by ac_rfl)
  have HIn := Lib.hid (sinfo_calls y.xb sp q l.length cap most w _ S2)
  have hf1 := field_mode 3 0 (l.length : Int) 0 false true false
  have hf2 := field_r false true false
  clear h S1 S2 back hyt hy
  go_enter Tryz.func70, Tryz.ntmps70
  go_wp2_with fail
  refine HGt.out.mono ?_
  rintro e w1 ⟨rfl, rfl⟩
  go_wp2_with fail
  refine HIn.out.mono ?_
  rintro e w1 ⟨rfl, hB⟩
  have hB := Lib.hid hB
  clear HGt HIn
  go_wp2_with fail
  go_ret2
  exact ⟨rfl, hB.out⟩
set_option maxRecDepth 100000 in
set_option maxHeartbeats 4000000 in
theorem TRead_no_writer (tb fb pb hm n : Nat) (L : HL) (id : Int) (y : Hn) (bb eb bp frm : Nat) (data : List UInt8) (hid : I64 id) (hy : findA L id = some y) (hyt : y.t = .writer bb eb) (hf : frm + data.length ≤ 1000000000) (qn : Int) (w : World) (R : Hp)
    (h : Sat w (tabHp tb fb pb hm L n * (Spill.bufX bb bp 3 4 frm data * R))) :
    Calls Tryz.prog 70 #[pp tb, .int .i64 id, .int .i64 qn] w fun e w' => e = .returned (.tuple #[.string ⟨#[]⟩, .int .i64 19]) ∧ Below w.heap.size w w' := by
  have HGt := get_calls tb fb pb hm n L id hid w _ h
  unfold getE at HGt
  rw [show hblk L id = some y.b by unfold hblk; rw [hy]; rfl, hy] at HGt
  unfold pv at HGt
  have HGt := Lib.hid HGt
  obtain ⟨X, S1, back⟩ := tab_node h hy
  obtain ⟨d0, d1⟩ := hn_cells S1
  rw [hyt] at S1 d1
  unfold thT at d1
  unfold thO at S1
  have hmi := meth_writer_info y.xb
  have S2 := S1.perm (show _ = pts y.xb (wrO bb eb) * (Spill.bufX bb bp 3 4 frm data * (X * R * pts y.b (hnO y))) by ac_rfl)
  have HIn := Lib.hid (winfo_calls y.xb bb eb bp frm data hf w _ S2)
  have hf1 := field_mode 5 0 (data.length : Int) 0 false true false
  have hf2 := field_r false true false
  clear h S1 S2 back hyt hy
  go_enter Tryz.func70, Tryz.ntmps70
  go_wp2_with fail
  refine HGt.out.mono ?_
  rintro e w1 ⟨rfl, rfl⟩
  go_wp2_with fail
  refine HIn.out.mono ?_
  rintro e w1 ⟨rfl, hB⟩
  have hB := Lib.hid hB
  clear HGt HIn
  go_wp2_with fail
  go_ret2
  exact ⟨rfl, hB.out⟩
set_option maxRecDepth 100000 in
set_option maxHeartbeats 4000000 in
theorem TRead_neg_file (tb fb pb hm n : Nat) (L : HL) (id : Int) (y : Hn) (k : Int) (a : Nat) (m : Md) (hid : I64 id) (hy : findA L id = some y) (hyt : y.t = .file k a m) (qn : Int) (hq : qn < 0) (hmd : m.r = true) (w : World) (R : Hp)
    (h : Sat w (tabHp tb fb pb hm L n * R)) :
    Calls Tryz.prog 70 #[pp tb, .int .i64 id, .int .i64 qn] w fun e w' => e = .returned (.tuple #[.string ⟨#[]⟩, .int .i64 1]) ∧ Below w.heap.size w w' := by
  have HGt := get_calls tb fb pb hm n L id hid w _ h
  unfold getE at HGt
  rw [show hblk L id = some y.b by unfold hblk; rw [hy]; rfl, hy] at HGt
  unfold pv at HGt
  have HGt := Lib.hid HGt
  obtain ⟨X, S1, back⟩ := tab_node h hy
  obtain ⟨d0, d1⟩ := hn_cells S1
  rw [hyt] at S1 d1
  unfold thT at d1
  unfold thO at S1
  have hmi := meth_file_info y.xb
  have S2 := S1.perm (show _ = pts y.xb (flO fb k a m) * (X * R * pts y.b (hnO y)) by ac_rfl)
  have HIn := Lib.hid (finfo_calls y.xb fb k a m w _ S2)
  obtain ⟨mr, mw, mm⟩ := m
  dsimp only at hmd
  subst hmd
  have hf1 := field_mode 1 0 a k true mw mm
  have hf2 := field_r true mw mm
  clear h S1 S2 back hyt hy
  go_enter Tryz.func70, Tryz.ntmps70
  go_wp2_with fail
  refine HGt.out.mono ?_
  rintro e w1 ⟨rfl, rfl⟩
  go_wp2_with fail
  refine HIn.out.mono ?_
  rintro e w1 ⟨rfl, hB⟩
  have hB := Lib.hid hB
  clear HGt HIn
  go_wp2_with fail
  go_ret2
  exact ⟨rfl, hB.out⟩
set_option maxRecDepth 100000 in
set_option maxHeartbeats 4000000 in
theorem TRead_neg_text (tb fb pb hm n : Nat) (L : HL) (id : Int) (y : Hn) (s : ByteArray) (a : Nat) (hid : I64 id) (hy : findA L id = some y) (hyt : y.t = .text s a) (qn : Int) (hq : qn < 0) (w : World) (R : Hp)
    (h : Sat w (tabHp tb fb pb hm L n * R)) :
    Calls Tryz.prog 70 #[pp tb, .int .i64 id, .int .i64 qn] w fun e w' => e = .returned (.tuple #[.string ⟨#[]⟩, .int .i64 1]) ∧ Below w.heap.size w w' := by
  have HGt := get_calls tb fb pb hm n L id hid w _ h
  unfold getE at HGt
  rw [show hblk L id = some y.b by unfold hblk; rw [hy]; rfl, hy] at HGt
  unfold pv at HGt
  have HGt := Lib.hid HGt
  obtain ⟨X, S1, back⟩ := tab_node h hy
  obtain ⟨d0, d1⟩ := hn_cells S1
  rw [hyt] at S1 d1
  unfold thT at d1
  unfold thO at S1
  have hmi := meth_text_info y.xb
  have S2 := S1.perm (show _ = pts y.xb (txO s a) * (X * R * pts y.b (hnO y)) by ac_rfl)
  have HIn := Lib.hid (tinfo_calls y.xb s a w _ S2)
  have hf1 := field_mode 2 0 a 0 true false false
  have hf2 := field_r true false false
  clear h S1 S2 back hyt hy
  go_enter Tryz.func70, Tryz.ntmps70
  go_wp2_with fail
  refine HGt.out.mono ?_
  rintro e w1 ⟨rfl, rfl⟩
  go_wp2_with fail
  refine HIn.out.mono ?_
  rintro e w1 ⟨rfl, hB⟩
  have hB := Lib.hid hB
  clear HGt HIn
  go_wp2_with fail
  go_ret2
  exact ⟨rfl, hB.out⟩
set_option maxRecDepth 100000 in
set_option maxHeartbeats 4000000 in
theorem TRead_neg_reader (tb fb pb hm n : Nat) (L : HL) (id : Int) (y : Hn) (bb eb bp frm : Nat) (data : List UInt8) (hid : I64 id) (hy : findA L id = some y) (hyt : y.t = .reader bb eb) (hf : frm + data.length ≤ 1000000000) (qn : Int) (hq : qn < 0) (w : World) (R : Hp)
    (h : Sat w (tabHp tb fb pb hm L n * (Spill.bufX bb bp 3 4 frm data * R))) :
    Calls Tryz.prog 70 #[pp tb, .int .i64 id, .int .i64 qn] w fun e w' => e = .returned (.tuple #[.string ⟨#[]⟩, .int .i64 1]) ∧ Below w.heap.size w w' := by
  have HGt := get_calls tb fb pb hm n L id hid w _ h
  unfold getE at HGt
  rw [show hblk L id = some y.b by unfold hblk; rw [hy]; rfl, hy] at HGt
  unfold pv at HGt
  have HGt := Lib.hid HGt
  obtain ⟨X, S1, back⟩ := tab_node h hy
  obtain ⟨d0, d1⟩ := hn_cells S1
  rw [hyt] at S1 d1
  unfold thT at d1
  unfold thO at S1
  have hmi := meth_reader_info y.xb
  have S2 := S1.perm (show _ = pts y.xb (rdO bb eb) * (Spill.bufX bb bp 3 4 frm data * (X * R * pts y.b (hnO y))) by ac_rfl)
  have HIn := Lib.hid (rinfo_calls y.xb bb eb bp frm data hf w _ S2)
  have hf1 := field_mode 4 0 (data.length : Int) 0 true false false
  have hf2 := field_r true false false
  clear h S1 S2 back hyt hy
  go_enter Tryz.func70, Tryz.ntmps70
  go_wp2_with fail
  refine HGt.out.mono ?_
  rintro e w1 ⟨rfl, rfl⟩
  go_wp2_with fail
  refine HIn.out.mono ?_
  rintro e w1 ⟨rfl, hB⟩
  have hB := Lib.hid hB
  clear HGt HIn
  go_wp2_with fail
  go_ret2
  exact ⟨rfl, hB.out⟩
set_option maxRecDepth 100000 in
set_option maxHeartbeats 4000000 in
theorem TWrite_no_file (tb fb pb hm n : Nat) (L : HL) (id : Int) (y : Hn) (k : Int) (a : Nat) (m : Md) (hid : I64 id) (hy : findA L id = some y) (hyt : y.t = .file k a m) (d : ByteArray) (hmd : m.w = false) (w : World) (R : Hp)
    (h : Sat w (tabHp tb fb pb hm L n * R)) :
    Calls Tryz.prog 63 #[pp tb, .int .i64 id, .string d] w fun e w' => e = .returned (.int .i64 19) ∧ Below w.heap.size w w' := by
  have HGt := get_calls tb fb pb hm n L id hid w _ h
  unfold getE at HGt
  rw [show hblk L id = some y.b by unfold hblk; rw [hy]; rfl, hy] at HGt
  unfold pv at HGt
  have HGt := Lib.hid HGt
  obtain ⟨X, S1, back⟩ := tab_node h hy
  obtain ⟨d0, d1⟩ := hn_cells S1
  rw [hyt] at S1 d1
  unfold thT at d1
  unfold thO at S1
  have hmi := meth_file_info y.xb
  have S2 := S1.perm (show _ = pts y.xb (flO fb k a m) * (X * R * pts y.b (hnO y)) by ac_rfl)
  have HIn := Lib.hid (finfo_calls y.xb fb k a m w _ S2)
  obtain ⟨mr, mw, mm⟩ := m
  dsimp only at hmd
  subst hmd
  have hf1 := field_mode 1 0 a k mr false mm
  have hf2 := field_w mr false mm
  clear h S1 S2 back hyt hy
  go_enter Tryz.func63, Tryz.ntmps63
  go_wp2_with fail
  refine HGt.out.mono ?_
  rintro e w1 ⟨rfl, rfl⟩
  go_wp2_with fail
  refine HIn.out.mono ?_
  rintro e w1 ⟨rfl, hB⟩
  have hB := Lib.hid hB
  clear HGt HIn
  go_wp2_with fail
  go_ret
  exact ⟨rfl, hB.out⟩
set_option maxRecDepth 100000 in
set_option maxHeartbeats 4000000 in
theorem TWrite_no_text (tb fb pb hm n : Nat) (L : HL) (id : Int) (y : Hn) (s : ByteArray) (a : Nat) (hid : I64 id) (hy : findA L id = some y) (hyt : y.t = .text s a) (d : ByteArray) (w : World) (R : Hp)
    (h : Sat w (tabHp tb fb pb hm L n * R)) :
    Calls Tryz.prog 63 #[pp tb, .int .i64 id, .string d] w fun e w' => e = .returned (.int .i64 19) ∧ Below w.heap.size w w' := by
  have HGt := get_calls tb fb pb hm n L id hid w _ h
  unfold getE at HGt
  rw [show hblk L id = some y.b by unfold hblk; rw [hy]; rfl, hy] at HGt
  unfold pv at HGt
  have HGt := Lib.hid HGt
  obtain ⟨X, S1, back⟩ := tab_node h hy
  obtain ⟨d0, d1⟩ := hn_cells S1
  rw [hyt] at S1 d1
  unfold thT at d1
  unfold thO at S1
  have hmi := meth_text_info y.xb
  have S2 := S1.perm (show _ = pts y.xb (txO s a) * (X * R * pts y.b (hnO y)) by ac_rfl)
  have HIn := Lib.hid (tinfo_calls y.xb s a w _ S2)
  have hf1 := field_mode 2 0 a 0 true false false
  have hf2 := field_w true false false
  clear h S1 S2 back hyt hy
  go_enter Tryz.func63, Tryz.ntmps63
  go_wp2_with fail
  refine HGt.out.mono ?_
  rintro e w1 ⟨rfl, rfl⟩
  go_wp2_with fail
  refine HIn.out.mono ?_
  rintro e w1 ⟨rfl, hB⟩
  have hB := Lib.hid hB
  clear HGt HIn
  go_wp2_with fail
  go_ret
  exact ⟨rfl, hB.out⟩
set_option maxRecDepth 100000 in
set_option maxHeartbeats 4000000 in
theorem TWrite_no_reader (tb fb pb hm n : Nat) (L : HL) (id : Int) (y : Hn) (bb eb bp frm : Nat) (data : List UInt8) (hid : I64 id) (hy : findA L id = some y) (hyt : y.t = .reader bb eb) (hf : frm + data.length ≤ 1000000000) (d : ByteArray) (w : World) (R : Hp)
    (h : Sat w (tabHp tb fb pb hm L n * (Spill.bufX bb bp 3 4 frm data * R))) :
    Calls Tryz.prog 63 #[pp tb, .int .i64 id, .string d] w fun e w' => e = .returned (.int .i64 19) ∧ Below w.heap.size w w' := by
  have HGt := get_calls tb fb pb hm n L id hid w _ h
  unfold getE at HGt
  rw [show hblk L id = some y.b by unfold hblk; rw [hy]; rfl, hy] at HGt
  unfold pv at HGt
  have HGt := Lib.hid HGt
  obtain ⟨X, S1, back⟩ := tab_node h hy
  obtain ⟨d0, d1⟩ := hn_cells S1
  rw [hyt] at S1 d1
  unfold thT at d1
  unfold thO at S1
  have hmi := meth_reader_info y.xb
  have S2 := S1.perm (show _ = pts y.xb (rdO bb eb) * (Spill.bufX bb bp 3 4 frm data * (X * R * pts y.b (hnO y))) by ac_rfl)
  have HIn := Lib.hid (rinfo_calls y.xb bb eb bp frm data hf w _ S2)
  have hf1 := field_mode 4 0 (data.length : Int) 0 true false false
  have hf2 := field_w true false false
  clear h S1 S2 back hyt hy
  go_enter Tryz.func63, Tryz.ntmps63
  go_wp2_with fail
  refine HGt.out.mono ?_
  rintro e w1 ⟨rfl, rfl⟩
  go_wp2_with fail
  refine HIn.out.mono ?_
  rintro e w1 ⟨rfl, hB⟩
  have hB := Lib.hid hB
  clear HGt HIn
  go_wp2_with fail
  go_ret
  exact ⟨rfl, hB.out⟩
set_option maxRecDepth 100000 in
set_option maxHeartbeats 4000000 in
theorem TRead_none (tb fb pb hm n : Nat) (L : HL) (id : Int) (qn : Int) (hid : I64 id) (hy : findA L id = none) (w : World) (R : Hp) (h : Sat w (tabHp tb fb pb hm L n * R)) :
    Calls Tryz.prog 70 #[pp tb, .int .i64 id, .int .i64 qn] w fun e w' => e = .returned (.tuple #[.string ⟨#[]⟩, .int .i64 18]) ∧ w = w' := by
  have HGt := get_calls tb fb pb hm n L id hid w _ h
  unfold getE at HGt
  rw [show hblk L id = none by unfold hblk; rw [hy]; rfl, hy] at HGt
  unfold pv at HGt
  have HGt := Lib.hid HGt
  clear h hy
  go_enter Tryz.func70, Tryz.ntmps70
  go_wp2_with fail
  refine HGt.out.mono ?_
  rintro e w1 ⟨rfl, rfl⟩
  clear HGt
  go_wp2_with fail
  go_ret2
  exact ⟨rfl, rfl⟩
set_option maxRecDepth 100000 in
set_option maxHeartbeats 4000000 in
theorem TWrite_none (tb fb pb hm n : Nat) (L : HL) (id : Int) (d : ByteArray) (hid : I64 id) (hy : findA L id = none) (w : World) (R : Hp) (h : Sat w (tabHp tb fb pb hm L n * R)) :
    Calls Tryz.prog 63 #[pp tb, .int .i64 id, .string d] w fun e w' => e = .returned (.int .i64 18) ∧ w = w' := by
  have HGt := get_calls tb fb pb hm n L id hid w _ h
  unfold getE at HGt
  rw [show hblk L id = none by unfold hblk; rw [hy]; rfl, hy] at HGt
  unfold pv at HGt
  have HGt := Lib.hid HGt
  clear h hy
  go_enter Tryz.func63, Tryz.ntmps63
  go_wp2_with fail
  refine HGt.out.mono ?_
  rintro e w1 ⟨rfl, rfl⟩
  clear HGt
  go_wp2_with fail
  go_ret
  exact ⟨rfl, rfl⟩
set_option maxRecDepth 100000 in
set_option maxHeartbeats 4000000 in
theorem File_dir (tb fb mb pb hm n : Nat) (F : Fs) (L : HL) (k : Int) (m : Md) (x : Nd) (hx : find F.L k = some x) (hk1 : x.kind = 1) (hk : I64 k) (hs : FsOk F) (w : World) (R : Hp) (h : Sat w (fsHp fb mb F * (tabHp tb fb pb hm L n * R))) :
    Calls Tryz.prog 62 #[pp tb, .int .i64 k, mdV m] w fun e w' => e = .returned (.tuple #[.int .i64 0, .int .i64 13]) ∧ Below w.heap.size w w' := by
  have S1 := (h.alloc (mdO m)).perm (show _ = fsHp fb mb F * (tabHp tb fb pb hm L n * (pts w.heap.size (mdO m) * R)) by ac_rfl)
  have HSt := Stat_calls fb mb F k hk (hs.small k) _ _ S1
  unfold statE statV at HSt
  rw [hx] at HSt
  dsimp only at HSt
  rw [hk1] at HSt
  have HSt := Lib.hid HSt
  obtain ⟨t0, t1, t2⟩ := tab_cells (S1.perm (show _ = tabHp tb fb pb hm L n * (fsHp fb mb F * (pts w.heap.size (mdO m) * R)) by ac_rfl))
  have S1 := Lib.hid S1
  have RA := (Below.refl w.heap.size w).alloc (Nat.le_refl _) (mdO m)
  have RA := Lib.hid RA
  obtain ⟨mr, mw, mm⟩ := m
  clear h hx hk1
  go_enter Tryz.func62, Tryz.ntmps62
  go_wp2_with fail
  refine HSt.out.mono ?_
  rintro e w1 ⟨rfl, hB⟩
  have SB := (S1.out.below hB).alloc (infoO 1 (sizeN x) x.names x.holds)
  obtain ⟨r0, r1, r2, r3⟩ := info_cells SB
  obtain ⟨m0, m1, m2⟩ := md_cells (SB.right.perm (show _ = pts w.heap.size (mdO ⟨mr, mw, mm⟩) * (fsHp fb mb F * (tabHp tb fb pb hm L n * R)) by ac_rfl))
  dsimp only at m0 m1 m2
  have RB := RA.out.trans (hB.mono RA.out.size)
  have RB := Lib.hid (RB.alloc RB.size (infoO 1 (sizeN x) x.names x.holds))
  clear HSt hB SB
  go_wp2_with fail
  go_ret2
  exact ⟨rfl, RB.out⟩
set_option maxRecDepth 100000 in
set_option maxHeartbeats 4000000 in
theorem File_link (tb fb mb pb hm n : Nat) (F : Fs) (L : HL) (k : Int) (m : Md) (x : Nd) (hx : find F.L k = some x) (hk1 : x.kind = 3) (hk : I64 k) (hs : FsOk F) (w : World) (R : Hp) (h : Sat w (fsHp fb mb F * (tabHp tb fb pb hm L n * R))) :
    Calls Tryz.prog 62 #[pp tb, .int .i64 k, mdV m] w fun e w' => e = .returned (.tuple #[.int .i64 0, .int .i64 1]) ∧ Below w.heap.size w w' := by
  have S1 := (h.alloc (mdO m)).perm (show _ = fsHp fb mb F * (tabHp tb fb pb hm L n * (pts w.heap.size (mdO m) * R)) by ac_rfl)
  have HSt := Stat_calls fb mb F k hk (hs.small k) _ _ S1
  unfold statE statV at HSt
  rw [hx] at HSt
  dsimp only at HSt
  rw [hk1] at HSt
  have HSt := Lib.hid HSt
  obtain ⟨t0, t1, t2⟩ := tab_cells (S1.perm (show _ = tabHp tb fb pb hm L n * (fsHp fb mb F * (pts w.heap.size (mdO m) * R)) by ac_rfl))
  have S1 := Lib.hid S1
  have RA := (Below.refl w.heap.size w).alloc (Nat.le_refl _) (mdO m)
  have RA := Lib.hid RA
  obtain ⟨mr, mw, mm⟩ := m
  clear h hx hk1
  go_enter Tryz.func62, Tryz.ntmps62
  go_wp2_with fail
  refine HSt.out.mono ?_
  rintro e w1 ⟨rfl, hB⟩
  have SB := (S1.out.below hB).alloc (infoO 3 (sizeN x) x.names x.holds)
  obtain ⟨r0, r1, r2, r3⟩ := info_cells SB
  obtain ⟨m0, m1, m2⟩ := md_cells (SB.right.perm (show _ = pts w.heap.size (mdO ⟨mr, mw, mm⟩) * (fsHp fb mb F * (tabHp tb fb pb hm L n * R)) by ac_rfl))
  dsimp only at m0 m1 m2
  have RB := RA.out.trans (hB.mono RA.out.size)
  have RB := Lib.hid (RB.alloc RB.size (infoO 3 (sizeN x) x.names x.holds))
  clear HSt hB SB
  go_wp2_with fail
  go_ret2
  exact ⟨rfl, RB.out⟩
set_option maxRecDepth 100000 in
set_option maxHeartbeats 4000000 in
theorem File_mode (tb fb mb pb hm n : Nat) (F : Fs) (L : HL) (k : Int) (m : Md) (x : Nd) (hx : find F.L k = some x) (hk1 : x.kind = 2) (hmd : m.r = false ∧ m.w = false) (hk : I64 k) (hs : FsOk F) (w : World) (R : Hp) (h : Sat w (fsHp fb mb F * (tabHp tb fb pb hm L n * R))) :
    Calls Tryz.prog 62 #[pp tb, .int .i64 k, mdV m] w fun e w' => e = .returned (.tuple #[.int .i64 0, .int .i64 1]) ∧ Below w.heap.size w w' := by
  have S1 := (h.alloc (mdO m)).perm (show _ = fsHp fb mb F * (tabHp tb fb pb hm L n * (pts w.heap.size (mdO m) * R)) by ac_rfl)
  have HSt := Stat_calls fb mb F k hk (hs.small k) _ _ S1
  unfold statE statV at HSt
  rw [hx] at HSt
  dsimp only at HSt
  rw [hk1] at HSt
  have HSt := Lib.hid HSt
  obtain ⟨t0, t1, t2⟩ := tab_cells (S1.perm (show _ = tabHp tb fb pb hm L n * (fsHp fb mb F * (pts w.heap.size (mdO m) * R)) by ac_rfl))
  have S1 := Lib.hid S1
  have RA := (Below.refl w.heap.size w).alloc (Nat.le_refl _) (mdO m)
  have RA := Lib.hid RA
  obtain ⟨mr, mw, mm⟩ := m
  dsimp only at hmd
  obtain ⟨hm1, hm2⟩ := hmd
  subst hm1
  subst hm2
  clear h hx hk1
  go_enter Tryz.func62, Tryz.ntmps62
  go_wp2_with fail
  refine HSt.out.mono ?_
  rintro e w1 ⟨rfl, hB⟩
  have SB := (S1.out.below hB).alloc (infoO 2 (sizeN x) x.names x.holds)
  obtain ⟨r0, r1, r2, r3⟩ := info_cells SB
  obtain ⟨m0, m1, m2⟩ := md_cells (SB.right.perm (show _ = pts w.heap.size (mdO ⟨false, false, mm⟩) * (fsHp fb mb F * (tabHp tb fb pb hm L n * R)) by ac_rfl))
  dsimp only at m0 m1 m2
  have RB := RA.out.trans (hB.mono RA.out.size)
  have RB := Lib.hid (RB.alloc RB.size (infoO 2 (sizeN x) x.names x.holds))
  clear HSt hB SB
  go_wp2_with fail
  go_ret2
  exact ⟨rfl, RB.out⟩
end Go.Proofs.YteienbdbhnikbaaGreatDoor.Hd

namespace Go.Proofs.YteienbdbhnikbaaGreatDoor.Hd
open Go.RowKit Go.Maps Go.Proofs.YteienbdbhnikbaaGreatDoor Go.Proofs.YteienbdbhnikbaaGreatDoor.Hp
set_option linter.unusedVariables false

abbrev dotB : ByteArray := ⟨#[46]⟩
abbrev dotsB : ByteArray := ⟨#[46, 46]⟩
/-- May it be a name? -/
def rightB (s : ByteArray) : Bool := !decide (s.size = 0) && !decide (s = dotB) && !decide (s = dotsB) && decide (s.size ≤ 32) && decide (Lib.indexByte s.data.toList 0 < 0)
def tellP (n : Int) : Int × Int := if n = 0 then (0, 10) else (n, 0)
/-- The number that a directory has at a name. -/
def kidP (x : Nd) (s : ByteArray) : Int := match x.kids with
  | none => 0
  | some kd => (kd.M s).getD 0
def stepP (F : Fs) (d : Int) (s : ByteArray) : Int × Int := match find F.L d with
  | none => (0, 12)
  | some x => if x.kind = 1 then (if s = dotB then tellP d else if s = dotsB then tellP x.par else if rightB s = false then (0, 16) else tellP (kidP x s)) else (0, 12)
def textOf (F : Fs) (k : Int) : ByteArray := ((find F.L k).map Nd.text).getD ⟨#[]⟩
def beginP (at_ : Int) (s : ByteArray) : Int × Int := if s.size = 0 then (0, 10) else if 256 < s.size then (0, 21) else if s.data.toList.head? = some 47 then (1, 0) else (at_, 0)
/-- Where a path comes to, by parts: a node, what is wrong, the links that were followed. -/
def loopP (F : Fs) : Nat → Int → Int → List UInt8 → Bool → (Int × Int) × Int
  | 0, links, _, _, _ => ((0, 17), links)
  | g + 1, links, at_, path, follow =>
    if (Lib.cut (Lib.trimLeftB path 47) [47]).1 = [] then ((at_, 0), links)
    else if (stepP F at_ ⟨(Lib.cut (Lib.trimLeftB path 47) [47]).1.toArray⟩).2 ≠ 0 then ((0, (stepP F at_ ⟨(Lib.cut (Lib.trimLeftB path 47) [47]).1.toArray⟩).2), links)
    else
      let c := Lib.cut (Lib.trimLeftB path 47) [47]
      let n := (stepP F at_ ⟨c.1.toArray⟩).1
      let fin : Int → Int → (Int × Int) × Int := fun n lk => if c.2.2 = false then ((n, 0), lk) else if isK F n 1 = false then ((0, 12), lk) else loopP F g lk n c.2.1 follow
      if (isK F n 3 && (c.2.2 || follow)) = true then
        if 8 < links + 1 then ((0, 17), links + 1)
        else if (beginP at_ (textOf F n)).2 ≠ 0 then ((0, (beginP at_ (textOf F n)).2), links + 1)
        else
          let r := loopP F g (links + 1) (beginP at_ (textOf F n)).1 (textOf F n).data.toList true
          if r.1.2 ≠ 0 then ((0, r.1.2), r.2) else fin r.1.1 r.2
      else fin n links
theorem loop_links (F : Fs) : ∀ (g : Nat) (links at_ : Int) (path : List UInt8) (follow : Bool), links ≤ (loopP F g links at_ path follow).2
  | 0, links, _, _, _ => Int.le_refl _
  | g + 1, links, at_, path, follow => by
    have ih := loop_links F g
    unfold loopP
    dsimp only
    split
    · exact Int.le_refl _
    split
    · exact Int.le_refl _
    split
    · split
      · show links ≤ links + 1; omega
      split
      · show links ≤ links + 1; omega
      split
      · have := ih (links + 1) (beginP at_ (textOf F (stepP F at_ ⟨(Lib.cut (Lib.trimLeftB path 47) [47]).1.toArray⟩).1)).1 (textOf F (stepP F at_ ⟨(Lib.cut (Lib.trimLeftB path 47) [47]).1.toArray⟩).1).data.toList true
        show links ≤ _
        omega
      · have h1 := ih (links + 1) (beginP at_ (textOf F (stepP F at_ ⟨(Lib.cut (Lib.trimLeftB path 47) [47]).1.toArray⟩).1)).1 (textOf F (stepP F at_ ⟨(Lib.cut (Lib.trimLeftB path 47) [47]).1.toArray⟩).1).data.toList true
        split
        · show links ≤ _; omega
        split
        · show links ≤ _; omega
        · refine Int.le_trans ?_ (ih _ _ _ _)
          omega
    · split
      · exact Int.le_refl _
      split
      · exact Int.le_refl _
      · exact ih _ _ _ _
end Go.Proofs.YteienbdbhnikbaaGreatDoor.Hd

namespace Go.Proofs.YteienbdbhnikbaaGreatDoor.Hd
open Go.RowKit Go.Maps Go.Proofs.YteienbdbhnikbaaGreatDoor Go.Proofs.YteienbdbhnikbaaGreatDoor.Hp
set_option linter.unusedVariables false
attribute [local go_sem] Oper.semAt_some

theorem ba_ne {s t : ByteArray} (h : s ≠ t) : (s.toList == t.toList) = false := by
  cases e : (s.toList == t.toList) with
  | false => rfl
  | true =>
    rw [beq_iff_eq, ByteArray.toList_eq, ByteArray.toList_eq] at e
    exact absurd (ByteArray.ext (Array.ext' e)) h
theorem ba_nil {s : ByteArray} (h : s.size = 0) : s = ⟨#[]⟩ := by
  obtain ⟨d⟩ := s
  rw [Array.eq_empty_of_size_eq_zero (show d.size = 0 from h)]
set_option maxRecDepth 100000 in
theorem rightN_calls (s : ByteArray) (w : World) (hs : s.size ≤ 1000000) :
    Calls Tryz.prog 86 #[.string s] w fun e w' => e = .returned (.bool (rightB s)) ∧ w = w' := by
  by_cases h0 : s.size = 0
  · obtain rfl := ba_nil h0
    rw [show rightB ⟨#[]⟩ = false from rfl]
    clear h0
    go_enter Tryz.func86, Tryz.ntmps86
    go_wp2_with fail
    go_ret
    exact ⟨rfl, rfl⟩
  by_cases h1 : s = dotB
  · subst h1
    rw [show rightB dotB = false by decide]
    clear h0
    go_enter Tryz.func86, Tryz.ntmps86
    go_wp2_with fail
    go_ret
    exact ⟨rfl, rfl⟩
  by_cases h2 : s = dotsB
  · subst h2
    rw [show rightB dotsB = false by decide]
    clear h0 h1
    go_enter Tryz.func86, Tryz.ntmps86
    go_wp2_with fail
    go_ret
    exact ⟨rfl, rfl⟩
  have hn0 : s ≠ ⟨#[]⟩ := fun e => h0 (by rw [e]; rfl)
  have e0 := ba_ne hn0
  have e1 := ba_ne h1
  have e2 := ba_ne h2
  rw [show (ByteArray.toList ⟨#[]⟩) = ([] : List UInt8) by rw [ByteArray.toList_eq]] at e0
  rw [show (ByteArray.toList dotB) = ([46] : List UInt8) by rw [ByteArray.toList_eq]] at e1
  rw [show (ByteArray.toList dotsB) = ([46, 46] : List UInt8) by rw [ByteArray.toList_eq]] at e2
  have hr : rightB s = (decide (s.size ≤ 32) && decide (Lib.indexByte s.data.toList 0 < 0)) := by
    unfold rightB
    rw [decide_eq_false h0, decide_eq_false h1, decide_eq_false h2]
    simp
  rw [hr]
  have hsI : (s.size : Int) ≤ 1000000 := by omega
  clear hn0 hr h0 h1 h2
  by_cases h3 : s.size ≤ 32
  · have HIx := Tryz.strings_IndexByte s 0 w
    have h3I : (s.size : Int) ≤ 32 := by omega
    rw [decide_eq_true h3, Bool.true_and]
    obtain ⟨x, hx⟩ : ∃ x, x = Lib.indexByte s.data.toList 0 := ⟨_, rfl⟩
    rw [← hx]
    have HX := Lib.hid hx
    have HIx := Lib.hid HIx
    clear hx h3
    go_enter Tryz.func86, Tryz.ntmps86
    go_wp2_with fail
    refine HIx.out.mono ?_
    rintro e w1 ⟨rfl, rfl⟩
    rw [show Lib.indexByte s.data.toList (Int.toNat 0).toUInt8 = x from HX.out.symm]
    go_wp2_with fail
    go_ret
    exact ⟨rfl, rfl⟩
  · have h3I : ¬ (s.size : Int) ≤ 32 := by omega
    rw [decide_eq_false h3, Bool.false_and]
    clear h3
    go_enter Tryz.func86, Tryz.ntmps86
    go_wp2_with fail
    go_ret
    exact ⟨rfl, rfl⟩
end Go.Proofs.YteienbdbhnikbaaGreatDoor.Hd

namespace Go.Proofs.YteienbdbhnikbaaGreatDoor.Hd
open Go.RowKit Go.Maps Go.Proofs.YteienbdbhnikbaaGreatDoor Go.Proofs.YteienbdbhnikbaaGreatDoor.Hp
set_option linter.unusedVariables false
attribute [local go_sem] Oper.semAt_some

theorem smap_none (k : ByteArray) (hk : k.size ≤ maxLen) (w : World) : (Instr.lookup 116 (.map none) (.string k) false).run Tryz.prog w = .ok (.int .i64 0) w := by
  have := Maps.look_nil (w := w) false K.strKey Tryz.underlying116 (K.zeroInt w) (K.key_of hk)
  simpa using this
set_option maxRecDepth 100000 in
set_option maxHeartbeats 4000000 in
theorem stepN_calls (fb mb : Nat) (F : Fs) (d : Int) (s : ByteArray) (hd : I64 d) (hs : s.size ≤ 1000000) (w : World) (R : Hp) (h : Sat w (fsHp fb mb F * R)) :
    Calls Tryz.prog 72 #[pp fb, .int .i64 d, .string s] w fun e w' => e = .returned (.tuple #[.int .i64 (stepP F d s).1, .int .i64 (stepP F d s).2]) ∧ w = w' := by
  have HI := is_calls fb mb F d 1 hd w R h
  unfold isK at HI
  unfold stepP
  cases hx : find F.L d with
  | none =>
    rw [hx] at HI
    have HI := Lib.hid HI
    clear h hx
    go_enter Tryz.func72, Tryz.ntmps72
    go_wp2_with fail
    refine HI.out.mono ?_
    rintro e w1 ⟨rfl, rfl⟩
    go_wp2_with fail
    go_ret2
    exact ⟨rfl, rfl⟩
  | some x =>
    rw [hx] at HI
    dsimp only at HI ⊢
    by_cases h1 : x.kind = 1
    · rw [if_pos h1]
      rw [h1, show ((1 : Int) == 1) = true by rfl] at HI
      have HI := Lib.hid HI
      obtain ⟨c0, c1, c2, c3⟩ := fs_cells h
      have hl := fs_look h d hd
      rw [show blk F.L d = some x.b by unfold blk; rw [hx]; rfl] at hl
      unfold pv at hl
      obtain ⟨X, S1, -⟩ := fs_node h hx
      obtain ⟨d0, d1, d2, d3, d4, d5⟩ := nd_cells S1
      by_cases hs1 : s = dotB
      · rw [if_pos hs1]
        subst hs1
        clear h hx S1
        unfold tellP
        by_cases hz : d = 0
        · rw [if_pos hz]
          subst hz
          go_enter Tryz.func72, Tryz.ntmps72
          go_wp2_with fail
          refine HI.out.mono ?_
          rintro e w1 ⟨rfl, rfl⟩
          go_wp2_with fail
          go_ret2
          exact ⟨rfl, rfl⟩
        · rw [if_neg hz]
          go_enter Tryz.func72, Tryz.ntmps72
          go_wp2_with fail
          refine HI.out.mono ?_
          rintro e w1 ⟨rfl, rfl⟩
          go_wp2_with fail
          go_ret2
          exact ⟨rfl, rfl⟩
      rw [if_neg hs1]
      by_cases hs2 : s = dotsB
      · rw [if_pos hs2]
        subst hs2
        clear h hx S1 hs1
        unfold tellP
        obtain ⟨y, hy⟩ : ∃ y, y = x.par := ⟨_, rfl⟩
        rw [← hy] at d3 ⊢
        clear hy
        by_cases hz : y = 0
        · rw [if_pos hz]
          subst hz
          go_enter Tryz.func72, Tryz.ntmps72
          go_wp2_with fail
          refine HI.out.mono ?_
          rintro e w1 ⟨rfl, rfl⟩
          go_wp2_with fail
          go_ret2
          exact ⟨rfl, rfl⟩
        · rw [if_neg hz]
          go_enter Tryz.func72, Tryz.ntmps72
          go_wp2_with fail
          refine HI.out.mono ?_
          rintro e w1 ⟨rfl, rfl⟩
          go_wp2_with fail
          go_ret2
          exact ⟨rfl, rfl⟩
      rw [if_neg hs2]
      have e1 := ba_ne hs1
      have e2 := ba_ne hs2
      rw [show (ByteArray.toList dotB) = ([46] : List UInt8) by rw [ByteArray.toList_eq]] at e1
      rw [show (ByteArray.toList dotsB) = ([46, 46] : List UInt8) by rw [ByteArray.toList_eq]] at e2
      have HR := rightN_calls s w hs
      by_cases hr : rightB s = false
      · rw [if_pos hr]
        rw [hr] at HR
        have HR := Lib.hid HR
        clear h hx S1 hs1 hs2 hr
        go_enter Tryz.func72, Tryz.ntmps72
        go_wp2_with fail
        refine HI.out.mono ?_
        rintro e w1 ⟨rfl, rfl⟩
        go_wp2_with fail
        refine HR.out.mono ?_
        rintro e w1 ⟨rfl, rfl⟩
        go_wp2_with fail
        go_ret2
        exact ⟨rfl, rfl⟩
      rw [if_neg hr]
      rw [show rightB s = true by simpa using hr] at HR
      have HR := Lib.hid HR
      have hlk : ∃ v, (Instr.lookup 116 (kv x.kids) (.string s) false).run Tryz.prog w = .ok (.int .i64 v) w ∧ v = kidP x s := by
        unfold kidP
        cases hk : x.kids with
        | none => exact ⟨0, smap_none s (by unfold maxLen; omega) w, rfl⟩
        | some kd =>
          rw [hk] at S1
          exact ⟨_, K.smap_look (S1.perm (show _ = K.smap kd.b kd.M kd.sz kd.n * (pts x.b (ndO x) * (pts fb (fsO F mb) * (X * R))) by unfold kidsHp; ac_rfl)) s (by unfold maxLen; omega), rfl⟩
      obtain ⟨v, hlv, hv⟩ := hlk
      rw [← hv]
      unfold tellP
      obtain ⟨kw, hkw⟩ : ∃ k, k = kv x.kids := ⟨_, rfl⟩
      rw [← hkw] at d2 hlv
      clear h hx S1 hs1 hs2 hr hv hkw
      by_cases hz : v = 0
      · rw [if_pos hz]
        subst hz
        go_enter Tryz.func72, Tryz.ntmps72
        go_wp2_with fail
        refine HI.out.mono ?_
        rintro e w1 ⟨rfl, rfl⟩
        go_wp2_with fail
        refine HR.out.mono ?_
        rintro e w1 ⟨rfl, rfl⟩
        go_wp2_with fail
        go_ret2
        exact ⟨rfl, rfl⟩
      · rw [if_neg hz]
        go_enter Tryz.func72, Tryz.ntmps72
        go_wp2_with fail
        refine HI.out.mono ?_
        rintro e w1 ⟨rfl, rfl⟩
        go_wp2_with fail
        refine HR.out.mono ?_
        rintro e w1 ⟨rfl, rfl⟩
        go_wp2_with fail
        go_ret2
        exact ⟨rfl, rfl⟩
    · rw [if_neg h1]
      rw [show (x.kind == 1) = false by simpa using h1] at HI
      have HI := Lib.hid HI
      clear h hx h1
      go_enter Tryz.func72, Tryz.ntmps72
      go_wp2_with fail
      refine HI.out.mono ?_
      rintro e w1 ⟨rfl, rfl⟩
      go_wp2_with fail
      go_ret2
      exact ⟨rfl, rfl⟩
end Go.Proofs.YteienbdbhnikbaaGreatDoor.Hd

namespace Go.Proofs.YteienbdbhnikbaaGreatDoor.Hd
open Go.RowKit Go.Maps Go.Proofs.YteienbdbhnikbaaGreatDoor Go.Proofs.YteienbdbhnikbaaGreatDoor.Hp
set_option linter.unusedVariables false
attribute [local go_sem] Oper.semAt_some

theorem head_eq {s : ByteArray} (h : 0 < s.size) : s.data.toList.head? = some s[0] := by
  obtain ⟨d⟩ := s
  have h2 : 0 < d.size := h
  show d.toList.head? = some d[0]
  rw [List.head?_eq_getElem?, Array.getElem?_toList, Array.getElem?_eq_getElem h2]
set_option maxRecDepth 100000 in
theorem beginN_calls (wb : Nat) (at_ : Int) (s : ByteArray) (hs : s.size ≤ 1000000) (w : World) :
    Calls Tryz.prog 81 #[pp wb, .int .i64 at_, .string s] w fun e w' => e = .returned (.tuple #[.int .i64 (beginP at_ s).1, .int .i64 (beginP at_ s).2]) ∧ w = w' := by
  unfold beginP
  by_cases h0 : s.size = 0
  · rw [if_pos h0]
    obtain rfl := ba_nil h0
    clear h0
    go_enter Tryz.func81, Tryz.ntmps81
    go_wp2_with fail
    go_ret2
    exact ⟨rfl, rfl⟩
  rw [if_neg h0]
  have hn0 : s ≠ ⟨#[]⟩ := fun e => h0 (by rw [e]; rfl)
  have e0 := ba_ne hn0
  rw [show (ByteArray.toList ⟨#[]⟩) = ([] : List UInt8) by rw [ByteArray.toList_eq]] at e0
  by_cases h1 : 256 < s.size
  · rw [if_pos h1]
    have h1I : (256 : Int) < (s.size : Int) := by omega
    clear h0 h1 hn0
    go_enter Tryz.func81, Tryz.ntmps81
    go_wp2_with fail
    go_ret2
    exact ⟨rfl, rfl⟩
  rw [if_neg h1]
  have h1I : ¬ (256 : Int) < (s.size : Int) := by omega
  have hp : 0 < s.size := by omega
  have hpI : (0 : Int) < (s.size : Int) := by omega
  rw [head_eq hp]
  by_cases h2 : s[0] = 47
  · rw [if_pos (by rw [h2])]
    clear h0 h1 hn0
    go_enter Tryz.func81, Tryz.ntmps81
    go_wp2_with fail
    go_ret2
    exact ⟨rfl, rfl⟩
  · rw [if_neg (fun e => h2 (Option.some.inj e))]
    have h2I : ¬ ((s[0].toNat : Nat) : Int) = 47 := fun e => h2 (UInt8.toNat_inj.1 (show s[0].toNat = 47 by omega))
    clear h0 h1 hn0
    go_enter Tryz.func81, Tryz.ntmps81
    go_wp2_with fail
    go_ret2
    exact ⟨rfl, rfl⟩
end Go.Proofs.YteienbdbhnikbaaGreatDoor.Hd

