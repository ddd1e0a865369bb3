/- What the table's methods refuse, by kind; and where no handle is. (printed by gen_hder.py) -/
import Derived.Test.YtljlpkeddbfpaaaGreatDoorHdSn
import Derived.Test.YtljlpkeddbfpaaaGreatDoorHdTt
namespace Go.Proofs.YtljlpkeddbfpaaaGreatDoor.Hd
open Go.RowKit Go.Maps Go.Proofs.YtljlpkeddbfpaaaGreatDoor Go.Proofs.YtljlpkeddbfpaaaGreatDoor.Hp
set_option linter.unusedVariables false
attribute [local go_sem] Oper.semAt_some

set_option maxRecDepth 100000 in
set_option maxHeartbeats 4000000 in
theorem TRead_no_file (tb fb pb hm n : Nat) (L : HL) (id : Int) (y : Hn) (k : Int) (a : Nat) (m : Md) (hid : I64 id) (hy : findA L id = some y) (hyt : y.t = .file k a m) (qn : Int) (hmd : m.r = false) (w : World) (R : Hp)
    (h : Sat w (tabHp tb fb pb hm L n * R)) :
    Calls Tryz.prog 19 #[pp tb, .int .i64 id, .int .i64 qn] w fun e w' => e = .returned (.tuple #[.string ⟨#[]⟩, .int .i64 19]) ∧ Below w.heap.size w w' := by
  have HGt := get_calls tb fb pb hm n L id hid w _ h
  unfold getE at HGt
  rw [show hblk L id = some y.b by unfold hblk; rw [hy]; rfl, hy] at HGt
  unfold pv at HGt
  have HGt := Lib.hid HGt
  obtain ⟨X, S1, back⟩ := tab_node h hy
  obtain ⟨d0, d1⟩ := hn_cells S1
  rw [hyt] at S1 d1
  unfold thT at d1
  unfold thO at S1
  have hmi := meth_file_info y.xb
  have S2 := S1.perm (show _ = pts y.xb (flO fb k a m) * (X * R * pts y.b (hnO y)) by ac_rfl)
  have HIn := Lib.hid (finfo_calls y.xb fb k a m w _ S2)
  obtain ⟨mr, mw, mm⟩ := m
  dsimp only at hmd
  subst hmd
  have hf1 := field_mode 1 0 a k false mw mm
  have hf2 := field_r false mw mm
  clear h S1 S2 back hyt hy
  go_enter Tryz.func19, Tryz.ntmps19
  go_wp2_with fail
  refine HGt.out.mono ?_
  rintro e w1 ⟨rfl, rfl⟩
  go_wp2_with fail
  refine HIn.out.mono ?_
  rintro e w1 ⟨rfl, hB⟩
  have hB := Lib.hid hB
  clear HGt HIn
  go_wp2_with fail
  go_ret2
  exact ⟨rfl, hB.out⟩
set_option maxRecDepth 100000 in
set_option maxHeartbeats 4000000 in
theorem TRead_no_sink (tb fb pb hm n : Nat) (L : HL) (id : Int) (y : Hn) (sp q : Option Addr) (cap : Nat) (l : List UInt8) (most : Nat) (hid : I64 id) (hy : findA L id = some y) (hyt : y.t = .sink sp q cap l most) (qn : Int) (w : World) (R : Hp)
    (h : Sat w (tabHp tb fb pb hm L n * R)) :
    Calls Tryz.prog 19 #[pp tb, .int .i64 id, .int .i64 qn] w fun e w' => e = .returned (.tuple #[.string ⟨#[]⟩, .int .i64 19]) ∧ Below w.heap.size w w' := by
  have HGt := get_calls tb fb pb hm n L id hid w _ h
  unfold getE at HGt
  rw [show hblk L id = some y.b by unfold hblk; rw [hy]; rfl, hy] at HGt
  unfold pv at HGt
  have HGt := Lib.hid HGt
  obtain ⟨X, S1, back⟩ := tab_node h hy
  obtain ⟨d0, d1⟩ := hn_cells S1
  rw [hyt] at S1 d1
  unfold thT at d1
  unfold thO at S1
  have hmi := meth_sink_info y.xb
  have S2 := S1.perm (show _ = pts y.xb (skO sp q l.length cap most) * (X * R * pts y.b (hnO y)) by ac_rfl)
  have HIn := Lib.hid (sinfo_calls y.xb sp q l.length cap most w _ S2)
  have hf1 := field_mode 3 0 (l.length : Int) 0 false true false
  have hf2 := field_r false true false
  clear h S1 S2 back hyt hy
  go_enter Tryz.func19, Tryz.ntmps19
  go_wp2_with fail
  refine HGt.out.mono ?_
  rintro e w1 ⟨rfl, rfl⟩
  go_wp2_with fail
  refine HIn.out.mono ?_
  rintro e w1 ⟨rfl, hB⟩
  have hB := Lib.hid hB
  clear HGt HIn
  go_wp2_with fail
  go_ret2
  exact ⟨rfl, hB.out⟩
set_option maxRecDepth 100000 in
set_option maxHeartbeats 4000000 in
theorem TRead_no_writer (tb fb pb hm n : Nat) (L : HL) (id : Int) (y : Hn) (bb eb bp frm : Nat) (data : List UInt8) (hid : I64 id) (hy : findA L id = some y) (hyt : y.t = .writer bb eb) (hf : frm + data.length ≤ 1000000000) (qn : Int) (w : World) (R : Hp)
    (h : Sat w (tabHp tb fb pb hm L n * (Spill.bufX bb bp 3 4 frm data * R))) :
    Calls Tryz.prog 19 #[pp tb, .int .i64 id, .int .i64 qn] w fun e w' => e = .returned (.tuple #[.string ⟨#[]⟩, .int .i64 19]) ∧ Below w.heap.size w w' := by
  have HGt := get_calls tb fb pb hm n L id hid w _ h
  unfold getE at HGt
  rw [show hblk L id = some y.b by unfold hblk; rw [hy]; rfl, hy] at HGt
  unfold pv at HGt
  have HGt := Lib.hid HGt
  obtain ⟨X, S1, back⟩ := tab_node h hy
  obtain ⟨d0, d1⟩ := hn_cells S1
  rw [hyt] at S1 d1
  unfold thT at d1
  unfold thO at S1
  have hmi := meth_writer_info y.xb
  have S2 := S1.perm (show _ = pts y.xb (wrO bb eb) * (Spill.bufX bb bp 3 4 frm data * (X * R * pts y.b (hnO y))) by ac_rfl)
  have HIn := Lib.hid (winfo_calls y.xb bb eb bp frm data hf w _ S2)
  have hf1 := field_mode 5 0 (data.length : Int) 0 false true false
  have hf2 := field_r false true false
  clear h S1 S2 back hyt hy
  go_enter Tryz.func19, Tryz.ntmps19
  go_wp2_with fail
  refine HGt.out.mono ?_
  rintro e w1 ⟨rfl, rfl⟩
  go_wp2_with fail
  refine HIn.out.mono ?_
  rintro e w1 ⟨rfl, hB⟩
  have hB := Lib.hid hB
  clear HGt HIn
  go_wp2_with fail
  go_ret2
  exact ⟨rfl, hB.out⟩
set_option maxRecDepth 100000 in
set_option maxHeartbeats 4000000 in
theorem TRead_neg_file (tb fb pb hm n : Nat) (L : HL) (id : Int) (y : Hn) (k : Int) (a : Nat) (m : Md) (hid : I64 id) (hy : findA L id = some y) (hyt : y.t = .file k a m) (qn : Int) (hq : qn < 0) (hmd : m.r = true) (w : World) (R : Hp)
    (h : Sat w (tabHp tb fb pb hm L n * R)) :
    Calls Tryz.prog 19 #[pp tb, .int .i64 id, .int .i64 qn] w fun e w' => e = .returned (.tuple #[.string ⟨#[]⟩, .int .i64 1]) ∧ Below w.heap.size w w' := by
  have HGt := get_calls tb fb pb hm n L id hid w _ h
  unfold getE at HGt
  rw [show hblk L id = some y.b by unfold hblk; rw [hy]; rfl, hy] at HGt
  unfold pv at HGt
  have HGt := Lib.hid HGt
  obtain ⟨X, S1, back⟩ := tab_node h hy
  obtain ⟨d0, d1⟩ := hn_cells S1
  rw [hyt] at S1 d1
  unfold thT at d1
  unfold thO at S1
  have hmi := meth_file_info y.xb
  have S2 := S1.perm (show _ = pts y.xb (flO fb k a m) * (X * R * pts y.b (hnO y)) by ac_rfl)
  have HIn := Lib.hid (finfo_calls y.xb fb k a m w _ S2)
  obtain ⟨mr, mw, mm⟩ := m
  dsimp only at hmd
  subst hmd
  have hf1 := field_mode 1 0 a k true mw mm
  have hf2 := field_r true mw mm
  clear h S1 S2 back hyt hy
  go_enter Tryz.func19, Tryz.ntmps19
  go_wp2_with fail
  refine HGt.out.mono ?_
  rintro e w1 ⟨rfl, rfl⟩
  go_wp2_with fail
  refine HIn.out.mono ?_
  rintro e w1 ⟨rfl, hB⟩
  have hB := Lib.hid hB
  clear HGt HIn
  go_wp2_with fail
  go_ret2
  exact ⟨rfl, hB.out⟩
set_option maxRecDepth 100000 in
set_option maxHeartbeats 4000000 in
theorem TRead_neg_text (tb fb pb hm n : Nat) (L : HL) (id : Int) (y : Hn) (s : ByteArray) (a : Nat) (hid : I64 id) (hy : findA L id = some y) (hyt : y.t = .text s a) (qn : Int) (hq : qn < 0) (w : World) (R : Hp)
    (h : Sat w (tabHp tb fb pb hm L n * R)) :
    Calls Tryz.prog 19 #[pp tb, .int .i64 id, .int .i64 qn] w fun e w' => e = .returned (.tuple #[.string ⟨#[]⟩, .int .i64 1]) ∧ Below w.heap.size w w' := by
  have HGt := get_calls tb fb pb hm n L id hid w _ h
  unfold getE at HGt
  rw [show hblk L id = some y.b by unfold hblk; rw [hy]; rfl, hy] at HGt
  unfold pv at HGt
  have HGt := Lib.hid HGt
  obtain ⟨X, S1, back⟩ := tab_node h hy
  obtain ⟨d0, d1⟩ := hn_cells S1
  rw [hyt] at S1 d1
  unfold thT at d1
  unfold thO at S1
  have hmi := meth_text_info y.xb
  have S2 := S1.perm (show _ = pts y.xb (txO s a) * (X * R * pts y.b (hnO y)) by ac_rfl)
  have HIn := Lib.hid (tinfo_calls y.xb s a w _ S2)
  have hf1 := field_mode 2 0 a 0 true false false
  have hf2 := field_r true false false
  clear h S1 S2 back hyt hy
  go_enter Tryz.func19, Tryz.ntmps19
  go_wp2_with fail
  refine HGt.out.mono ?_
  rintro e w1 ⟨rfl, rfl⟩
  go_wp2_with fail
  refine HIn.out.mono ?_
  rintro e w1 ⟨rfl, hB⟩
  have hB := Lib.hid hB
  clear HGt HIn
  go_wp2_with fail
  go_ret2
  exact ⟨rfl, hB.out⟩
set_option maxRecDepth 100000 in
set_option maxHeartbeats 4000000 in
theorem TRead_neg_reader (tb fb pb hm n : Nat) (L : HL) (id : Int) (y : Hn) (bb eb bp frm : Nat) (data : List UInt8) (hid : I64 id) (hy : findA L id = some y) (hyt : y.t = .reader bb eb) (hf : frm + data.length ≤ 1000000000) (qn : Int) (hq : qn < 0) (w : World) (R : Hp)
    (h : Sat w (tabHp tb fb pb hm L n * (Spill.bufX bb bp 3 4 frm data * R))) :
    Calls Tryz.prog 19 #[pp tb, .int .i64 id, .int .i64 qn] w fun e w' => e = .returned (.tuple #[.string ⟨#[]⟩, .int .i64 1]) ∧ Below w.heap.size w w' := by
  have HGt := get_calls tb fb pb hm n L id hid w _ h
  unfold getE at HGt
  rw [show hblk L id = some y.b by unfold hblk; rw [hy]; rfl, hy] at HGt
  unfold pv at HGt
  have HGt := Lib.hid HGt
  obtain ⟨X, S1, back⟩ := tab_node h hy
  obtain ⟨d0, d1⟩ := hn_cells S1
  rw [hyt] at S1 d1
  unfold thT at d1
  unfold thO at S1
  have hmi := meth_reader_info y.xb
  have S2 := S1.perm (show _ = pts y.xb (rdO bb eb) * (Spill.bufX bb bp 3 4 frm data * (X * R * pts y.b (hnO y))) by ac_rfl)
  have HIn := Lib.hid (rinfo_calls y.xb bb eb bp frm data hf w _ S2)
  have hf1 := field_mode 4 0 (data.length : Int) 0 true false false
  have hf2 := field_r true false false
  clear h S1 S2 back hyt hy
  go_enter Tryz.func19, Tryz.ntmps19
  go_wp2_with fail
  refine HGt.out.mono ?_
  rintro e w1 ⟨rfl, rfl⟩
  go_wp2_with fail
  refine HIn.out.mono ?_
  rintro e w1 ⟨rfl, hB⟩
  have hB := Lib.hid hB
  clear HGt HIn
  go_wp2_with fail
  go_ret2
  exact ⟨rfl, hB.out⟩
set_option maxRecDepth 100000 in
set_option maxHeartbeats 4000000 in
theorem TWrite_no_file (tb fb pb hm n : Nat) (L : HL) (id : Int) (y : Hn) (k : Int) (a : Nat) (m : Md) (hid : I64 id) (hy : findA L id = some y) (hyt : y.t = .file k a m) (d : ByteArray) (hmd : m.w = false) (w : World) (R : Hp)
    (h : Sat w (tabHp tb fb pb hm L n * R)) :
    Calls Tryz.prog 11 #[pp tb, .int .i64 id, .string d] w fun e w' => e = .returned (.int .i64 19) ∧ Below w.heap.size w w' := by
  have HGt := get_calls tb fb pb hm n L id hid w _ h
  unfold getE at HGt
  rw [show hblk L id = some y.b by unfold hblk; rw [hy]; rfl, hy] at HGt
  unfold pv at HGt
  have HGt := Lib.hid HGt
  obtain ⟨X, S1, back⟩ := tab_node h hy
  obtain ⟨d0, d1⟩ := hn_cells S1
  rw [hyt] at S1 d1
  unfold thT at d1
  unfold thO at S1
  have hmi := meth_file_info y.xb
  have S2 := S1.perm (show _ = pts y.xb (flO fb k a m) * (X * R * pts y.b (hnO y)) by ac_rfl)
  have HIn := Lib.hid (finfo_calls y.xb fb k a m w _ S2)
  obtain ⟨mr, mw, mm⟩ := m
  dsimp only at hmd
  subst hmd
  have hf1 := field_mode 1 0 a k mr false mm
  have hf2 := field_w mr false mm
  clear h S1 S2 back hyt hy
  go_enter Tryz.func11, Tryz.ntmps11
  go_wp2_with fail
  refine HGt.out.mono ?_
  rintro e w1 ⟨rfl, rfl⟩
  go_wp2_with fail
  refine HIn.out.mono ?_
  rintro e w1 ⟨rfl, hB⟩
  have hB := Lib.hid hB
  clear HGt HIn
  go_wp2_with fail
  go_ret
  exact ⟨rfl, hB.out⟩
set_option maxRecDepth 100000 in
set_option maxHeartbeats 4000000 in
theorem TWrite_no_text (tb fb pb hm n : Nat) (L : HL) (id : Int) (y : Hn) (s : ByteArray) (a : Nat) (hid : I64 id) (hy : findA L id = some y) (hyt : y.t = .text s a) (d : ByteArray) (w : World) (R : Hp)
    (h : Sat w (tabHp tb fb pb hm L n * R)) :
    Calls Tryz.prog 11 #[pp tb, .int .i64 id, .string d] w fun e w' => e = .returned (.int .i64 19) ∧ Below w.heap.size w w' := by
  have HGt := get_calls tb fb pb hm n L id hid w _ h
  unfold getE at HGt
  rw [show hblk L id = some y.b by unfold hblk; rw [hy]; rfl, hy] at HGt
  unfold pv at HGt
  have HGt := Lib.hid HGt
  obtain ⟨X, S1, back⟩ := tab_node h hy
  obtain ⟨d0, d1⟩ := hn_cells S1
  rw [hyt] at S1 d1
  unfold thT at d1
  unfold thO at S1
  have hmi := meth_text_info y.xb
  have S2 := S1.perm (show _ = pts y.xb (txO s a) * (X * R * pts y.b (hnO y)) by ac_rfl)
  have HIn := Lib.hid (tinfo_calls y.xb s a w _ S2)
  have hf1 := field_mode 2 0 a 0 true false false
  have hf2 := field_w true false false
  clear h S1 S2 back hyt hy
  go_enter Tryz.func11, Tryz.ntmps11
  go_wp2_with fail
  refine HGt.out.mono ?_
  rintro e w1 ⟨rfl, rfl⟩
  go_wp2_with fail
  refine HIn.out.mono ?_
  rintro e w1 ⟨rfl, hB⟩
  have hB := Lib.hid hB
  clear HGt HIn
  go_wp2_with fail
  go_ret
  exact ⟨rfl, hB.out⟩
set_option maxRecDepth 100000 in
set_option maxHeartbeats 4000000 in
theorem TWrite_no_reader (tb fb pb hm n : Nat) (L : HL) (id : Int) (y : Hn) (bb eb bp frm : Nat) (data : List UInt8) (hid : I64 id) (hy : findA L id = some y) (hyt : y.t = .reader bb eb) (hf : frm + data.length ≤ 1000000000) (d : ByteArray) (w : World) (R : Hp)
    (h : Sat w (tabHp tb fb pb hm L n * (Spill.bufX bb bp 3 4 frm data * R))) :
    Calls Tryz.prog 11 #[pp tb, .int .i64 id, .string d] w fun e w' => e = .returned (.int .i64 19) ∧ Below w.heap.size w w' := by
  have HGt := get_calls tb fb pb hm n L id hid w _ h
  unfold getE at HGt
  rw [show hblk L id = some y.b by unfold hblk; rw [hy]; rfl, hy] at HGt
  unfold pv at HGt
  have HGt := Lib.hid HGt
  obtain ⟨X, S1, back⟩ := tab_node h hy
  obtain ⟨d0, d1⟩ := hn_cells S1
  rw [hyt] at S1 d1
  unfold thT at d1
  unfold thO at S1
  have hmi := meth_reader_info y.xb
  have S2 := S1.perm (show _ = pts y.xb (rdO bb eb) * (Spill.bufX bb bp 3 4 frm data * (X * R * pts y.b (hnO y))) by ac_rfl)
  have HIn := Lib.hid (rinfo_calls y.xb bb eb bp frm data hf w _ S2)
  have hf1 := field_mode 4 0 (data.length : Int) 0 true false false
  have hf2 := field_w true false false
  clear h S1 S2 back hyt hy
  go_enter Tryz.func11, Tryz.ntmps11
  go_wp2_with fail
  refine HGt.out.mono ?_
  rintro e w1 ⟨rfl, rfl⟩
  go_wp2_with fail
  refine HIn.out.mono ?_
  rintro e w1 ⟨rfl, hB⟩
  have hB := Lib.hid hB
  clear HGt HIn
  go_wp2_with fail
  go_ret
  exact ⟨rfl, hB.out⟩
set_option maxRecDepth 100000 in
set_option maxHeartbeats 4000000 in
theorem Seen_no_file (tb fb pb hm n : Nat) (L : HL) (id : Int) (y : Hn) (k : Int) (a : Nat) (m : Md) (hid : I64 id) (hy : findA L id = some y) (hyt : y.t = .file k a m) (w : World) (R : Hp)
    (h : Sat w (tabHp tb fb pb hm L n * R)) :
    Calls Tryz.prog 20 #[pp tb, .int .i64 id] w fun e w' => e = .returned (.tuple #[.string ⟨#[]⟩, .int .i64 19]) ∧ Below w.heap.size w w' := by
  have HGt := get_calls tb fb pb hm n L id hid w _ h
  unfold getE at HGt
  rw [show hblk L id = some y.b by unfold hblk; rw [hy]; rfl, hy] at HGt
  unfold pv at HGt
  have HGt := Lib.hid HGt
  obtain ⟨X, S1, back⟩ := tab_node h hy
  obtain ⟨d0, d1⟩ := hn_cells S1
  rw [hyt] at S1 d1
  unfold thT at d1
  unfold thO at S1
  have hmi := meth_file_info y.xb
  have S2 := S1.perm (show _ = pts y.xb (flO fb k a m) * (X * R * pts y.b (hnO y)) by ac_rfl)
  have HIn := Lib.hid (finfo_calls y.xb fb k a m w _ S2)
  obtain ⟨mr, mw, mm⟩ := m
  have hf1 := field_kind 1 0 a k mr mw mm
  clear h S1 S2 back hyt hy
  go_enter Tryz.func20, Tryz.ntmps20
  go_wp2_with fail
  refine HGt.out.mono ?_
  rintro e w1 ⟨rfl, rfl⟩
  go_wp2_with fail
  refine HIn.out.mono ?_
  rintro e w1 ⟨rfl, hB⟩
  have hB := Lib.hid hB
  clear HGt HIn
  go_wp2_with fail
  go_ret2
  exact ⟨rfl, hB.out⟩
set_option maxRecDepth 100000 in
set_option maxHeartbeats 4000000 in
theorem Seen_no_text (tb fb pb hm n : Nat) (L : HL) (id : Int) (y : Hn) (s : ByteArray) (a : Nat) (hid : I64 id) (hy : findA L id = some y) (hyt : y.t = .text s a) (w : World) (R : Hp)
    (h : Sat w (tabHp tb fb pb hm L n * R)) :
    Calls Tryz.prog 20 #[pp tb, .int .i64 id] w fun e w' => e = .returned (.tuple #[.string ⟨#[]⟩, .int .i64 19]) ∧ Below w.heap.size w w' := by
  have HGt := get_calls tb fb pb hm n L id hid w _ h
  unfold getE at HGt
  rw [show hblk L id = some y.b by unfold hblk; rw [hy]; rfl, hy] at HGt
  unfold pv at HGt
  have HGt := Lib.hid HGt
  obtain ⟨X, S1, back⟩ := tab_node h hy
  obtain ⟨d0, d1⟩ := hn_cells S1
  rw [hyt] at S1 d1
  unfold thT at d1
  unfold thO at S1
  have hmi := meth_text_info y.xb
  have S2 := S1.perm (show _ = pts y.xb (txO s a) * (X * R * pts y.b (hnO y)) by ac_rfl)
  have HIn := Lib.hid (tinfo_calls y.xb s a w _ S2)
  have hf1 := field_kind 2 0 a 0 true false false
  clear h S1 S2 back hyt hy
  go_enter Tryz.func20, Tryz.ntmps20
  go_wp2_with fail
  refine HGt.out.mono ?_
  rintro e w1 ⟨rfl, rfl⟩
  go_wp2_with fail
  refine HIn.out.mono ?_
  rintro e w1 ⟨rfl, hB⟩
  have hB := Lib.hid hB
  clear HGt HIn
  go_wp2_with fail
  go_ret2
  exact ⟨rfl, hB.out⟩
set_option maxRecDepth 100000 in
set_option maxHeartbeats 4000000 in
theorem Seen_no_reader (tb fb pb hm n : Nat) (L : HL) (id : Int) (y : Hn) (bb eb bp frm : Nat) (data : List UInt8) (hid : I64 id) (hy : findA L id = some y) (hyt : y.t = .reader bb eb) (hf : frm + data.length ≤ 1000000000) (w : World) (R : Hp)
    (h : Sat w (tabHp tb fb pb hm L n * (Spill.bufX bb bp 3 4 frm data * R))) :
    Calls Tryz.prog 20 #[pp tb, .int .i64 id] w fun e w' => e = .returned (.tuple #[.string ⟨#[]⟩, .int .i64 19]) ∧ Below w.heap.size w w' := by
  have HGt := get_calls tb fb pb hm n L id hid w _ h
  unfold getE at HGt
  rw [show hblk L id = some y.b by unfold hblk; rw [hy]; rfl, hy] at HGt
  unfold pv at HGt
  have HGt := Lib.hid HGt
  obtain ⟨X, S1, back⟩ := tab_node h hy
  obtain ⟨d0, d1⟩ := hn_cells S1
  rw [hyt] at S1 d1
  unfold thT at d1
  unfold thO at S1
  have hmi := meth_reader_info y.xb
  have S2 := S1.perm (show _ = pts y.xb (rdO bb eb) * (Spill.bufX bb bp 3 4 frm data * (X * R * pts y.b (hnO y))) by ac_rfl)
  have HIn := Lib.hid (rinfo_calls y.xb bb eb bp frm data hf w _ S2)
  have hf1 := field_kind 4 0 (data.length : Int) 0 true false false
  clear h S1 S2 back hyt hy
  go_enter Tryz.func20, Tryz.ntmps20
  go_wp2_with fail
  refine HGt.out.mono ?_
  rintro e w1 ⟨rfl, rfl⟩
  go_wp2_with fail
  refine HIn.out.mono ?_
  rintro e w1 ⟨rfl, hB⟩
  have hB := Lib.hid hB
  clear HGt HIn
  go_wp2_with fail
  go_ret2
  exact ⟨rfl, hB.out⟩
set_option maxRecDepth 100000 in
set_option maxHeartbeats 4000000 in
theorem Seen_no_writer (tb fb pb hm n : Nat) (L : HL) (id : Int) (y : Hn) (bb eb bp frm : Nat) (data : List UInt8) (hid : I64 id) (hy : findA L id = some y) (hyt : y.t = .writer bb eb) (hf : frm + data.length ≤ 1000000000) (w : World) (R : Hp)
    (h : Sat w (tabHp tb fb pb hm L n * (Spill.bufX bb bp 3 4 frm data * R))) :
    Calls Tryz.prog 20 #[pp tb, .int .i64 id] w fun e w' => e = .returned (.tuple #[.string ⟨#[]⟩, .int .i64 19]) ∧ Below w.heap.size w w' := by
  have HGt := get_calls tb fb pb hm n L id hid w _ h
  unfold getE at HGt
  rw [show hblk L id = some y.b by unfold hblk; rw [hy]; rfl, hy] at HGt
  unfold pv at HGt
  have HGt := Lib.hid HGt
  obtain ⟨X, S1, back⟩ := tab_node h hy
  obtain ⟨d0, d1⟩ := hn_cells S1
  rw [hyt] at S1 d1
  unfold thT at d1
  unfold thO at S1
  have hmi := meth_writer_info y.xb
  have S2 := S1.perm (show _ = pts y.xb (wrO bb eb) * (Spill.bufX bb bp 3 4 frm data * (X * R * pts y.b (hnO y))) by ac_rfl)
  have HIn := Lib.hid (winfo_calls y.xb bb eb bp frm data hf w _ S2)
  have hf1 := field_kind 5 0 (data.length : Int) 0 false true false
  clear h S1 S2 back hyt hy
  go_enter Tryz.func20, Tryz.ntmps20
  go_wp2_with fail
  refine HGt.out.mono ?_
  rintro e w1 ⟨rfl, rfl⟩
  go_wp2_with fail
  refine HIn.out.mono ?_
  rintro e w1 ⟨rfl, hB⟩
  have hB := Lib.hid hB
  clear HGt HIn
  go_wp2_with fail
  go_ret2
  exact ⟨rfl, hB.out⟩
set_option maxRecDepth 100000 in
set_option maxHeartbeats 4000000 in
theorem Ref_none (tb fb pb hm n : Nat) (L : HL) (id : Int) (hid : I64 id) (hy : findA L id = none) (w : World) (R : Hp) (h : Sat w (tabHp tb fb pb hm L n * R)) :
    Calls Tryz.prog 18 #[pp tb, .int .i64 id] w fun e w' => e = .returned (.int .i64 18) ∧ w = w' := by
  have HGt := get_calls tb fb pb hm n L id hid w _ h
  unfold getE at HGt
  rw [show hblk L id = none by unfold hblk; rw [hy]; rfl, hy] at HGt
  unfold pv at HGt
  have HGt := Lib.hid HGt
  clear h hy
  go_enter Tryz.func18, Tryz.ntmps18
  go_wp2_with fail
  refine HGt.out.mono ?_
  rintro e w1 ⟨rfl, rfl⟩
  clear HGt
  go_wp2_with fail
  go_ret
  exact ⟨rfl, rfl⟩
set_option maxRecDepth 100000 in
set_option maxHeartbeats 4000000 in
theorem Unref_none (tb fb pb hm n : Nat) (L : HL) (id : Int) (hid : I64 id) (hy : findA L id = none) (w : World) (R : Hp) (h : Sat w (tabHp tb fb pb hm L n * R)) :
    Calls Tryz.prog 27 #[pp tb, .int .i64 id] w fun e w' => e = .returned (.int .i64 18) ∧ w = w' := by
  have HGt := get_calls tb fb pb hm n L id hid w _ h
  unfold getE at HGt
  rw [show hblk L id = none by unfold hblk; rw [hy]; rfl, hy] at HGt
  unfold pv at HGt
  have HGt := Lib.hid HGt
  clear h hy
  go_enter Tryz.func27, Tryz.ntmps27
  go_wp2_with fail
  refine HGt.out.mono ?_
  rintro e w1 ⟨rfl, rfl⟩
  clear HGt
  go_wp2_with fail
  go_ret
  exact ⟨rfl, rfl⟩
set_option maxRecDepth 100000 in
set_option maxHeartbeats 4000000 in
theorem TRead_none (tb fb pb hm n : Nat) (L : HL) (id : Int) (qn : Int) (hid : I64 id) (hy : findA L id = none) (w : World) (R : Hp) (h : Sat w (tabHp tb fb pb hm L n * R)) :
    Calls Tryz.prog 19 #[pp tb, .int .i64 id, .int .i64 qn] w fun e w' => e = .returned (.tuple #[.string ⟨#[]⟩, .int .i64 18]) ∧ w = w' := by
  have HGt := get_calls tb fb pb hm n L id hid w _ h
  unfold getE at HGt
  rw [show hblk L id = none by unfold hblk; rw [hy]; rfl, hy] at HGt
  unfold pv at HGt
  have HGt := Lib.hid HGt
  clear h hy
  go_enter Tryz.func19, Tryz.ntmps19
  go_wp2_with fail
  refine HGt.out.mono ?_
  rintro e w1 ⟨rfl, rfl⟩
  clear HGt
  go_wp2_with fail
  go_ret2
  exact ⟨rfl, rfl⟩
set_option maxRecDepth 100000 in
set_option maxHeartbeats 4000000 in
theorem TWrite_none (tb fb pb hm n : Nat) (L : HL) (id : Int) (d : ByteArray) (hid : I64 id) (hy : findA L id = none) (w : World) (R : Hp) (h : Sat w (tabHp tb fb pb hm L n * R)) :
    Calls Tryz.prog 11 #[pp tb, .int .i64 id, .string d] w fun e w' => e = .returned (.int .i64 18) ∧ w = w' := by
  have HGt := get_calls tb fb pb hm n L id hid w _ h
  unfold getE at HGt
  rw [show hblk L id = none by unfold hblk; rw [hy]; rfl, hy] at HGt
  unfold pv at HGt
  have HGt := Lib.hid HGt
  clear h hy
  go_enter Tryz.func11, Tryz.ntmps11
  go_wp2_with fail
  refine HGt.out.mono ?_
  rintro e w1 ⟨rfl, rfl⟩
  clear HGt
  go_wp2_with fail
  go_ret
  exact ⟨rfl, rfl⟩
set_option maxRecDepth 100000 in
set_option maxHeartbeats 4000000 in
theorem Seen_none (tb fb pb hm n : Nat) (L : HL) (id : Int) (hid : I64 id) (hy : findA L id = none) (w : World) (R : Hp) (h : Sat w (tabHp tb fb pb hm L n * R)) :
    Calls Tryz.prog 20 #[pp tb, .int .i64 id] w fun e w' => e = .returned (.tuple #[.string ⟨#[]⟩, .int .i64 18]) ∧ w = w' := by
  have HGt := get_calls tb fb pb hm n L id hid w _ h
  unfold getE at HGt
  rw [show hblk L id = none by unfold hblk; rw [hy]; rfl, hy] at HGt
  unfold pv at HGt
  have HGt := Lib.hid HGt
  clear h hy
  go_enter Tryz.func20, Tryz.ntmps20
  go_wp2_with fail
  refine HGt.out.mono ?_
  rintro e w1 ⟨rfl, rfl⟩
  clear HGt
  go_wp2_with fail
  go_ret2
  exact ⟨rfl, rfl⟩
set_option maxRecDepth 100000 in
set_option maxHeartbeats 4000000 in
theorem Sink_no (tb : Nat) (m : Int) (hm : m < 0 ∨ 1048576 < m) (w : World) :
    Calls Tryz.prog 17 #[pp tb, .int .i64 m] w fun e w' => e = .returned (.tuple #[.int .i64 0, .int .i64 1]) ∧ w = w' := by
  by_cases h0 : m < 0
  · clear hm
    go_enter Tryz.func17, Tryz.ntmps17
    go_wp2_with fail
    go_ret2
    exact ⟨rfl, rfl⟩
  · have h1 : 1048576 < m := by omega
    clear hm
    go_enter Tryz.func17, Tryz.ntmps17
    go_wp2_with fail
    go_ret2
    exact ⟨rfl, rfl⟩
/-- What File answers, where it refuses. -/
def fileE (F : Fs) (k : Int) (m : Md) : Int := match find F.L k with
  | none => statE F k
  | some x => if x.kind = 1 then 13 else if x.kind = 3 then 1 else if m.r = false ∧ m.w = false then 1 else 0
set_option maxRecDepth 100000 in
set_option maxHeartbeats 4000000 in
theorem File_none (tb fb mb pb hm n : Nat) (F : Fs) (L : HL) (k : Int) (m : Md) (hx : find F.L k = none) (hk : I64 k) (hs : FsOk F) (w : World) (R : Hp) (h : Sat w (fsHp fb mb F * (tabHp tb fb pb hm L n * R))) :
    Calls Tryz.prog 10 #[pp tb, .int .i64 k, mdV m] w fun e w' => e = .returned (.tuple #[.int .i64 0, .int .i64 (statE F k)]) ∧ Below w.heap.size w w' := by
  have S1 := (h.alloc (mdO m)).perm (show _ = fsHp fb mb F * (tabHp tb fb pb hm L n * (pts w.heap.size (mdO m) * R)) by ac_rfl)
  have HSt := Stat_calls fb mb F k hk (hs.small k) _ _ S1
  unfold statV at HSt
  rw [hx] at HSt
  dsimp only at HSt
  have hne : statE F k ≠ 0 := by unfold statE; rw [hx]; decide
  obtain ⟨q, hq⟩ : ∃ q, q = statE F k := ⟨_, rfl⟩
  rw [← hq] at HSt hne ⊢
  clear hq
  have HSt := Lib.hid HSt
  obtain ⟨t0, t1, t2⟩ := tab_cells (S1.perm (show _ = tabHp tb fb pb hm L n * (fsHp fb mb F * (pts w.heap.size (mdO m) * R)) by ac_rfl))
  have S1 := Lib.hid S1
  have RA := (Below.refl w.heap.size w).alloc (Nat.le_refl _) (mdO m)
  have RA := Lib.hid RA
  obtain ⟨mr, mw, mm⟩ := m
  clear h hx
  go_enter Tryz.func10, Tryz.ntmps10
  go_wp2_with fail
  refine HSt.out.mono ?_
  rintro e w1 ⟨rfl, hB⟩
  have SB := (S1.out.below hB).alloc (infoO 0 0 0 0)
  obtain ⟨r0, r1, r2, r3⟩ := info_cells SB
  obtain ⟨m0, m1, m2⟩ := md_cells (SB.right.perm (show _ = pts w.heap.size (mdO ⟨mr, mw, mm⟩) * (fsHp fb mb F * (tabHp tb fb pb hm L n * R)) by ac_rfl))
  dsimp only at m0 m1 m2
  have RB := RA.out.trans (hB.mono RA.out.size)
  have RB := Lib.hid (RB.alloc RB.size (infoO 0 0 0 0))
  clear HSt hB SB
  go_wp2_with fail
  go_ret2
  exact ⟨rfl, RB.out⟩
set_option maxRecDepth 100000 in
set_option maxHeartbeats 4000000 in
theorem File_dir (tb fb mb pb hm n : Nat) (F : Fs) (L : HL) (k : Int) (m : Md) (x : Nd) (hx : find F.L k = some x) (hk1 : x.kind = 1) (hk : I64 k) (hs : FsOk F) (w : World) (R : Hp) (h : Sat w (fsHp fb mb F * (tabHp tb fb pb hm L n * R))) :
    Calls Tryz.prog 10 #[pp tb, .int .i64 k, mdV m] w fun e w' => e = .returned (.tuple #[.int .i64 0, .int .i64 13]) ∧ Below w.heap.size w w' := by
  have S1 := (h.alloc (mdO m)).perm (show _ = fsHp fb mb F * (tabHp tb fb pb hm L n * (pts w.heap.size (mdO m) * R)) by ac_rfl)
  have HSt := Stat_calls fb mb F k hk (hs.small k) _ _ S1
  unfold statE statV at HSt
  rw [hx] at HSt
  dsimp only at HSt
  rw [hk1] at HSt
  have HSt := Lib.hid HSt
  obtain ⟨t0, t1, t2⟩ := tab_cells (S1.perm (show _ = tabHp tb fb pb hm L n * (fsHp fb mb F * (pts w.heap.size (mdO m) * R)) by ac_rfl))
  have S1 := Lib.hid S1
  have RA := (Below.refl w.heap.size w).alloc (Nat.le_refl _) (mdO m)
  have RA := Lib.hid RA
  obtain ⟨mr, mw, mm⟩ := m
  clear h hx hk1
  go_enter Tryz.func10, Tryz.ntmps10
  go_wp2_with fail
  refine HSt.out.mono ?_
  rintro e w1 ⟨rfl, hB⟩
  have SB := (S1.out.below hB).alloc (infoO 1 (sizeN x) x.names x.holds)
  obtain ⟨r0, r1, r2, r3⟩ := info_cells SB
  obtain ⟨m0, m1, m2⟩ := md_cells (SB.right.perm (show _ = pts w.heap.size (mdO ⟨mr, mw, mm⟩) * (fsHp fb mb F * (tabHp tb fb pb hm L n * R)) by ac_rfl))
  dsimp only at m0 m1 m2
  have RB := RA.out.trans (hB.mono RA.out.size)
  have RB := Lib.hid (RB.alloc RB.size (infoO 1 (sizeN x) x.names x.holds))
  clear HSt hB SB
  go_wp2_with fail
  go_ret2
  exact ⟨rfl, RB.out⟩
set_option maxRecDepth 100000 in
set_option maxHeartbeats 4000000 in
theorem File_link (tb fb mb pb hm n : Nat) (F : Fs) (L : HL) (k : Int) (m : Md) (x : Nd) (hx : find F.L k = some x) (hk1 : x.kind = 3) (hk : I64 k) (hs : FsOk F) (w : World) (R : Hp) (h : Sat w (fsHp fb mb F * (tabHp tb fb pb hm L n * R))) :
    Calls Tryz.prog 10 #[pp tb, .int .i64 k, mdV m] w fun e w' => e = .returned (.tuple #[.int .i64 0, .int .i64 1]) ∧ Below w.heap.size w w' := by
  have S1 := (h.alloc (mdO m)).perm (show _ = fsHp fb mb F * (tabHp tb fb pb hm L n * (pts w.heap.size (mdO m) * R)) by ac_rfl)
  have HSt := Stat_calls fb mb F k hk (hs.small k) _ _ S1
  unfold statE statV at HSt
  rw [hx] at HSt
  dsimp only at HSt
  rw [hk1] at HSt
  have HSt := Lib.hid HSt
  obtain ⟨t0, t1, t2⟩ := tab_cells (S1.perm (show _ = tabHp tb fb pb hm L n * (fsHp fb mb F * (pts w.heap.size (mdO m) * R)) by ac_rfl))
  have S1 := Lib.hid S1
  have RA := (Below.refl w.heap.size w).alloc (Nat.le_refl _) (mdO m)
  have RA := Lib.hid RA
  obtain ⟨mr, mw, mm⟩ := m
  clear h hx hk1
  go_enter Tryz.func10, Tryz.ntmps10
  go_wp2_with fail
  refine HSt.out.mono ?_
  rintro e w1 ⟨rfl, hB⟩
  have SB := (S1.out.below hB).alloc (infoO 3 (sizeN x) x.names x.holds)
  obtain ⟨r0, r1, r2, r3⟩ := info_cells SB
  obtain ⟨m0, m1, m2⟩ := md_cells (SB.right.perm (show _ = pts w.heap.size (mdO ⟨mr, mw, mm⟩) * (fsHp fb mb F * (tabHp tb fb pb hm L n * R)) by ac_rfl))
  dsimp only at m0 m1 m2
  have RB := RA.out.trans (hB.mono RA.out.size)
  have RB := Lib.hid (RB.alloc RB.size (infoO 3 (sizeN x) x.names x.holds))
  clear HSt hB SB
  go_wp2_with fail
  go_ret2
  exact ⟨rfl, RB.out⟩
set_option maxRecDepth 100000 in
set_option maxHeartbeats 4000000 in
theorem File_mode (tb fb mb pb hm n : Nat) (F : Fs) (L : HL) (k : Int) (m : Md) (x : Nd) (hx : find F.L k = some x) (hk1 : x.kind = 2) (hmd : m.r = false ∧ m.w = false) (hk : I64 k) (hs : FsOk F) (w : World) (R : Hp) (h : Sat w (fsHp fb mb F * (tabHp tb fb pb hm L n * R))) :
    Calls Tryz.prog 10 #[pp tb, .int .i64 k, mdV m] w fun e w' => e = .returned (.tuple #[.int .i64 0, .int .i64 1]) ∧ Below w.heap.size w w' := by
  have S1 := (h.alloc (mdO m)).perm (show _ = fsHp fb mb F * (tabHp tb fb pb hm L n * (pts w.heap.size (mdO m) * R)) by ac_rfl)
  have HSt := Stat_calls fb mb F k hk (hs.small k) _ _ S1
  unfold statE statV at HSt
  rw [hx] at HSt
  dsimp only at HSt
  rw [hk1] at HSt
  have HSt := Lib.hid HSt
  obtain ⟨t0, t1, t2⟩ := tab_cells (S1.perm (show _ = tabHp tb fb pb hm L n * (fsHp fb mb F * (pts w.heap.size (mdO m) * R)) by ac_rfl))
  have S1 := Lib.hid S1
  have RA := (Below.refl w.heap.size w).alloc (Nat.le_refl _) (mdO m)
  have RA := Lib.hid RA
  obtain ⟨mr, mw, mm⟩ := m
  dsimp only at hmd
  obtain ⟨hm1, hm2⟩ := hmd
  subst hm1
  subst hm2
  clear h hx hk1
  go_enter Tryz.func10, Tryz.ntmps10
  go_wp2_with fail
  refine HSt.out.mono ?_
  rintro e w1 ⟨rfl, hB⟩
  have SB := (S1.out.below hB).alloc (infoO 2 (sizeN x) x.names x.holds)
  obtain ⟨r0, r1, r2, r3⟩ := info_cells SB
  obtain ⟨m0, m1, m2⟩ := md_cells (SB.right.perm (show _ = pts w.heap.size (mdO ⟨false, false, mm⟩) * (fsHp fb mb F * (tabHp tb fb pb hm L n * R)) by ac_rfl))
  dsimp only at m0 m1 m2
  have RB := RA.out.trans (hB.mono RA.out.size)
  have RB := Lib.hid (RB.alloc RB.size (infoO 2 (sizeN x) x.names x.holds))
  clear HSt hB SB
  go_wp2_with fail
  go_ret2
  exact ⟨rfl, RB.out⟩
end Go.Proofs.YtljlpkeddbfpaaaGreatDoor.Hd
