/- HandlesPlays, part 13 of 34: the texts HdEr HdN, joined by a program. -/
import Derived.Test.YtljlpkeddbfpaaaGreatDoorHm9
import Derived.Test.YtljlpkeddbfpaaaGreatDoorHm12
import Derived.Test.YtljlpkeddbfpaaaGreatDoorHm6
namespace Go.Proofs.YtljlpkeddbfpaaaGreatDoor.Hd
open Go.RowKit Go.Maps Go.Proofs.YtljlpkeddbfpaaaGreatDoor Go.Proofs.YtljlpkeddbfpaaaGreatDoor.Hp
set_option linter.unusedVariables false
attribute [local go_sem] Oper.semAt_some

set_option maxRecDepth 100000 in
set_option maxHeartbeats 4000000 in
theorem TRead_no_file (tb fb pb hm n : Nat) (L : HL) (id : Int) (y : Hn) (k : Int) (a : Nat) (m : Md) (hid : I64 id) (hy : findA L id = some y) (hyt : y.t = .file k a m) (qn : Int) (hmd : m.r = false) (w : World) (R : Hp)
    (h : Sat w (tabHp tb fb pb hm L n * R)) :
    Calls Tryz.prog 19 #[pp tb, .int .i64 id, .int .i64 qn] w fun e w' => e = .returned (.tuple #[.string ⟨#[]⟩, .int .i64 19]) ∧ Below w.heap.size w w' := by
  have HGt := get_calls tb fb pb hm n L id hid w _ h
  unfold getE at HGt
  rw [show hblk L id = some y.b by unfold hblk; rw [hy]; rfl, hy] at HGt
  unfold pv at HGt
  have HGt := Lib.hid HGt
  obtain ⟨X, S1, back⟩ := tab_node h hy
  obtain ⟨d0, d1⟩ := hn_cells S1
  rw [hyt] at S1 d1
  unfold thT at d1
  unfold thO at S1
  have hmi := meth_file_info y.xb
  have S2 := S1.perm (show _ = pts y.xb (flO fb k a m) * (X * R * pts y.b (hnO y)) by ac_rfl)
  have HIn := Lib.hid (finfo_calls y.xb fb k a m w _ S2)
  obtain ⟨mr, mw, mm⟩ := m
  dsimp only at hmd
  subst hmd
  have hf1 := field_mode 1 0 a k false mw mm
  have hf2 := field_r false mw mm
  clear h S1 S2 back hyt hy
  go_enter Tryz.func19, Tryz.ntmps19
  go_wp2_with fail
  refine HGt.out.mono ?_
  rintro e w1 ⟨rfl, rfl⟩
  go_wp2_with fail
  refine HIn.out.mono ?_
  rintro e w1 ⟨rfl, hB⟩
  have hB := Lib.hid hB
  clear HGt HIn
  go_wp2_with fail
  go_ret2
  exact ⟨rfl, hB.out⟩
set_option maxRecDepth 100000 in
set_option maxHeartbeats 4000000 in
theorem TRead_no_sink (tb fb pb hm n : Nat) (L : HL) (id : Int) (y : Hn) (sp q : Option Addr) (cap : Nat) (l : List UInt8) (most : Nat) (hid : I64 id) (hy : findA L id = some y) (hyt : y.t = .sink sp q cap l most) (qn : Int) (w : World) (R : Hp)
    (h : Sat w (tabHp tb fb pb hm L n * R)) :
    Calls Tryz.prog 19 #[pp tb, .int .i64 id, .int .i64 qn] w fun e w' => e = .returned (.tuple #[.string ⟨#[]⟩, .int .i64 19]) ∧ Below w.heap.size w w' := by
  have HGt := get_calls tb fb pb hm n L id hid w _ h
  unfold getE at HGt
  rw [show hblk L id = some y.b by unfold hblk; rw [hy]; rfl, hy] at HGt
  unfold pv at HGt
  have HGt := Lib.hid HGt
  obtain ⟨X, S1, back⟩ := tab_node h hy
  obtain ⟨d0, d1⟩ := hn_cells S1
  rw [hyt] at S1 d1
  unfold thT at d1
  unfold thO at S1
  have hmi := meth_sink_info y.xb
  have S2 := S1.perm (show _ = pts y.xb (skO sp q l.length cap most) * (X * R * pts y.b (hnO y)) by ac_rfl)
  have HIn := Lib.hid (sinfo_calls y.xb sp q l.length cap most w _ S2)
  have hf1 := field_mode 3 0 (l.length : Int) 0 false true false
  have hf2 := field_r false true false
  clear h S1 S2 back hyt hy
  go_enter Tryz.func19, Tryz.ntmps19
  go_wp2_with fail
  refine HGt.out.mono ?_
  rintro e w1 ⟨rfl, rfl⟩
  go_wp2_with fail
  refine HIn.out.mono ?_
  rintro e w1 ⟨rfl, hB⟩
  have hB := Lib.hid hB
  clear HGt HIn
  go_wp2_with fail
  go_ret2
  exact ⟨rfl, hB.out⟩
set_option maxRecDepth 100000 in
set_option maxHeartbeats 4000000 in
theorem TRead_no_writer (tb fb pb hm n : Nat) (L : HL) (id : Int) (y : Hn) (bb eb bp frm : Nat) (data : List UInt8) (hid : I64 id) (hy : findA L id = some y) (hyt : y.t = .writer bb eb) (hf : frm + data.length ≤ 1000000000) (qn : Int) (w : World) (R : Hp)
    (h : Sat w (tabHp tb fb pb hm L n * (Spill.bufX bb bp 3 4 frm data * R))) :
    Calls Tryz.prog 19 #[pp tb, .int .i64 id, .int .i64 qn] w fun e w' => e = .returned (.tuple #[.string ⟨#[]⟩, .int .i64 19]) ∧ Below w.heap.size w w' := by
  have HGt := get_calls tb fb pb hm n L id hid w _ h
  unfold getE at HGt
  rw [show hblk L id = some y.b by unfold hblk; rw [hy]; rfl, hy] at HGt
  unfold pv at HGt
  have HGt := Lib.hid HGt
  obtain ⟨X, S1, back⟩ := tab_node h hy
  obtain ⟨d0, d1⟩ := hn_cells S1
  rw [hyt] at S1 d1
  unfold thT at d1
  unfold thO at S1
  have hmi := meth_writer_info y.xb
  have S2 := S1.perm (show _ = pts y.xb (wrO bb eb) * (Spill.bufX bb bp 3 4 frm data * (X * R * pts y.b (hnO y))) by ac_rfl)
  have HIn := Lib.hid (winfo_calls y.xb bb eb bp frm data hf w _ S2)
  have hf1 := field_mode 5 0 (data.length : Int) 0 false true false
  have hf2 := field_r false true false
  clear h S1 S2 back hyt hy
  go_enter Tryz.func19, Tryz.ntmps19
  go_wp2_with fail
  refine HGt.out.mono ?_
  rintro e w1 ⟨rfl, rfl⟩
  go_wp2_with fail
  refine HIn.out.mono ?_
  rintro e w1 ⟨rfl, hB⟩
  have hB := Lib.hid hB
  clear HGt HIn
  go_wp2_with fail
  go_ret2
  exact ⟨rfl, hB.out⟩
set_option maxRecDepth 100000 in
set_option maxHeartbeats 4000000 in
theorem TRead_neg_file (tb fb pb hm n : Nat) (L : HL) (id : Int) (y : Hn) (k : Int) (a : Nat) (m : Md) (hid : I64 id) (hy : findA L id = some y) (hyt : y.t = .file k a m) (qn : Int) (hq : qn < 0) (hmd : m.r = true) (w : World) (R : Hp)
    (h : Sat w (tabHp tb fb pb hm L n * R)) :
    Calls Tryz.prog 19 #[pp tb, .int .i64 id, .int .i64 qn] w fun e w' => e = .returned (.tuple #[.string ⟨#[]⟩, .int .i64 1]) ∧ Below w.heap.size w w' := by
  have HGt := get_calls tb fb pb hm n L id hid w _ h
  unfold getE at HGt
  rw [show hblk L id = some y.b by unfold hblk; rw [hy]; rfl, hy] at HGt
  unfold pv at HGt
  have HGt := Lib.hid HGt
  obtain ⟨X, S1, back⟩ := tab_node h hy
  obtain ⟨d0, d1⟩ := hn_cells S1
  rw [hyt] at S1 d1
  unfold thT at d1
  unfold thO at S1
  have hmi := meth_file_info y.xb
  have S2 := S1.perm (show _ = pts y.xb (flO fb k a m) * (X * R * pts y.b (hnO y)) by ac_rfl)
  have HIn := Lib.hid (finfo_calls y.xb fb k a m w _ S2)
  obtain ⟨mr, mw, mm⟩ := m
  dsimp only at hmd
  subst hmd
  have hf1 := field_mode 1 0 a k true mw mm
  have hf2 := field_r true mw mm
  clear h S1 S2 back hyt hy
  go_enter Tryz.func19, Tryz.ntmps19
  go_wp2_with fail
  refine HGt.out.mono ?_
  rintro e w1 ⟨rfl, rfl⟩
  go_wp2_with fail
  refine HIn.out.mono ?_
  rintro e w1 ⟨rfl, hB⟩
  have hB := Lib.hid hB
  clear HGt HIn
  go_wp2_with fail
  go_ret2
  exact ⟨rfl, hB.out⟩
set_option maxRecDepth 100000 in
set_option maxHeartbeats 4000000 in
theorem TRead_neg_text (tb fb pb hm n : Nat) (L : HL) (id : Int) (y : Hn) (s : ByteArray) (a : Nat) (hid : I64 id) (hy : findA L id = some y) (hyt : y.t = .text s a) (qn : Int) (hq : qn < 0) (w : World) (R : Hp)
    (h : Sat w (tabHp tb fb pb hm L n * R)) :
    Calls Tryz.prog 19 #[pp tb, .int .i64 id, .int .i64 qn] w fun e w' => e = .returned (.tuple #[.string ⟨#[]⟩, .int .i64 1]) ∧ Below w.heap.size w w' := by
  have HGt := get_calls tb fb pb hm n L id hid w _ h
  unfold getE at HGt
  rw [show hblk L id = some y.b by unfold hblk; rw [hy]; rfl, hy] at HGt
  unfold pv at HGt
  have HGt := Lib.hid HGt
  obtain ⟨X, S1, back⟩ := tab_node h hy
  obtain ⟨d0, d1⟩ := hn_cells S1
  rw [hyt] at S1 d1
  unfold thT at d1
  unfold thO at S1
  have hmi := meth_text_info y.xb
  have S2 := S1.perm (show _ = pts y.xb (txO s a) * (X * R * pts y.b (hnO y)) by ac_rfl)
  have HIn := Lib.hid (tinfo_calls y.xb s a w _ S2)
  have hf1 := field_mode 2 0 a 0 true false false
  have hf2 := field_r true false false
  clear h S1 S2 back hyt hy
  go_enter Tryz.func19, Tryz.ntmps19
  go_wp2_with fail
  refine HGt.out.mono ?_
  rintro e w1 ⟨rfl, rfl⟩
  go_wp2_with fail
  refine HIn.out.mono ?_
  rintro e w1 ⟨rfl, hB⟩
  have hB := Lib.hid hB
  clear HGt HIn
  go_wp2_with fail
  go_ret2
  exact ⟨rfl, hB.out⟩
set_option maxRecDepth 100000 in
set_option maxHeartbeats 4000000 in
theorem TRead_neg_reader (tb fb pb hm n : Nat) (L : HL) (id : Int) (y : Hn) (bb eb bp frm : Nat) (data : List UInt8) (hid : I64 id) (hy : findA L id = some y) (hyt : y.t = .reader bb eb) (hf : frm + data.length ≤ 1000000000) (qn : Int) (hq : qn < 0) (w : World) (R : Hp)
    (h : Sat w (tabHp tb fb pb hm L n * (Spill.bufX bb bp 3 4 frm data * R))) :
    Calls Tryz.prog 19 #[pp tb, .int .i64 id, .int .i64 qn] w fun e w' => e = .returned (.tuple #[.string ⟨#[]⟩, .int .i64 1]) ∧ Below w.heap.size w w' := by
  have HGt := get_calls tb fb pb hm n L id hid w _ h
  unfold getE at HGt
  rw [show hblk L id = some y.b by unfold hblk; rw [hy]; rfl, hy] at HGt
  unfold pv at HGt
  have HGt := Lib.hid HGt
  obtain ⟨X, S1, back⟩ := tab_node h hy
  obtain ⟨d0, d1⟩ := hn_cells S1
  rw [hyt] at S1 d1
  unfold thT at d1
  unfold thO at S1
  have hmi := meth_reader_info y.xb
  have S2 := S1.perm (show _ = pts y.xb (rdO bb eb) * (Spill.bufX bb bp 3 4 frm data * (X * R * pts y.b (hnO y))) by ac_rfl)
  have HIn := Lib.hid (rinfo_calls y.xb bb eb bp frm data hf w _ S2)
  have hf1 := field_mode 4 0 (data.length : Int) 0 true false false
  have hf2 := field_r true false false
  clear h S1 S2 back hyt hy
  go_enter Tryz.func19, Tryz.ntmps19
  go_wp2_with fail
  refine HGt.out.mono ?_
  rintro e w1 ⟨rfl, rfl⟩
  go_wp2_with fail
  refine HIn.out.mono ?_
  rintro e w1 ⟨rfl, hB⟩
  have hB := Lib.hid hB
  clear HGt HIn
  go_wp2_with fail
  go_ret2
  exact ⟨rfl, hB.out⟩
set_option maxRecDepth 100000 in
set_option maxHeartbeats 4000000 in
theorem TWrite_no_file (tb fb pb hm n : Nat) (L : HL) (id : Int) (y : Hn) (k : Int) (a : Nat) (m : Md) (hid : I64 id) (hy : findA L id = some y) (hyt : y.t = .file k a m) (d : ByteArray) (hmd : m.w = false) (w : World) (R : Hp)
    (h : Sat w (tabHp tb fb pb hm L n * R)) :
    Calls Tryz.prog 11 #[pp tb, .int .i64 id, .string d] w fun e w' => e = .returned (.int .i64 19) ∧ Below w.heap.size w w' := by
  have HGt := get_calls tb fb pb hm n L id hid w _ h
  unfold getE at HGt
  rw [show hblk L id = some y.b by unfold hblk; rw [hy]; rfl, hy] at HGt
  unfold pv at HGt
  have HGt := Lib.hid HGt
  obtain ⟨X, S1, back⟩ := tab_node h hy
  obtain ⟨d0, d1⟩ := hn_cells S1
  rw [hyt] at S1 d1
  unfold thT at d1
  unfold thO at S1
  have hmi := meth_file_info y.xb
  have S2 := S1.perm (show _ = pts y.xb (flO fb k a m) * (X * R * pts y.b (hnO y)) by ac_rfl)
  have HIn := Lib.hid (finfo_calls y.xb fb k a m w _ S2)
  obtain ⟨mr, mw, mm⟩ := m
  dsimp only at hmd
  subst hmd
  have hf1 := field_mode 1 0 a k mr false mm
  have hf2 := field_w mr false mm
  clear h S1 S2 back hyt hy
  go_enter Tryz.func11, Tryz.ntmps11
  go_wp2_with fail
  refine HGt.out.mono ?_
  rintro e w1 ⟨rfl, rfl⟩
  go_wp2_with fail
  refine HIn.out.mono ?_
  rintro e w1 ⟨rfl, hB⟩
  have hB := Lib.hid hB
  clear HGt HIn
  go_wp2_with fail
  go_ret
  exact ⟨rfl, hB.out⟩
set_option maxRecDepth 100000 in
set_option maxHeartbeats 4000000 in
theorem TWrite_no_text (tb fb pb hm n : Nat) (L : HL) (id : Int) (y : Hn) (s : ByteArray) (a : Nat) (hid : I64 id) (hy : findA L id = some y) (hyt : y.t = .text s a) (d : ByteArray) (w : World) (R : Hp)
    (h : Sat w (tabHp tb fb pb hm L n * R)) :
    Calls Tryz.prog 11 #[pp tb, .int .i64 id, .string d] w fun e w' => e = .returned (.int .i64 19) ∧ Below w.heap.size w w' := by
  have HGt := get_calls tb fb pb hm n L id hid w _ h
  unfold getE at HGt
  rw [show hblk L id = some y.b by unfold hblk; rw [hy]; rfl, hy] at HGt
  unfold pv at HGt
  have HGt := Lib.hid HGt
  obtain ⟨X, S1, back⟩ := tab_node h hy
  obtain ⟨d0, d1⟩ := hn_cells S1
  rw [hyt] at S1 d1
  unfold thT at d1
  unfold thO at S1
  have hmi := meth_text_info y.xb
  have S2 := S1.perm (show _ = pts y.xb (txO s a) * (X * R * pts y.b (hnO y)) by ac_rfl)
  have HIn := Lib.hid (tinfo_calls y.xb s a w _ S2)
  have hf1 := field_mode 2 0 a 0 true false false
  have hf2 := field_w true false false
  clear h S1 S2 back hyt hy
  go_enter Tryz.func11, Tryz.ntmps11
  go_wp2_with fail
  refine HGt.out.mono ?_
  rintro e w1 ⟨rfl, rfl⟩
  go_wp2_with fail
  refine HIn.out.mono ?_
  rintro e w1 ⟨rfl, hB⟩
  have hB := Lib.hid hB
  clear HGt HIn
  go_wp2_with fail
  go_ret
  exact ⟨rfl, hB.out⟩
set_option maxRecDepth 100000 in
set_option maxHeartbeats 4000000 in
theorem TWrite_no_reader (tb fb pb hm n : Nat) (L : HL) (id : Int) (y : Hn) (bb eb bp frm : Nat) (data : List UInt8) (hid : I64 id) (hy : findA L id = some y) (hyt : y.t = .reader bb eb) (hf : frm + data.length ≤ 1000000000) (d : ByteArray) (w : World) (R : Hp)
    (h : Sat w (tabHp tb fb pb hm L n * (Spill.bufX bb bp 3 4 frm data * R))) :
    Calls Tryz.prog 11 #[pp tb, .int .i64 id, .string d] w fun e w' => e = .returned (.int .i64 19) ∧ Below w.heap.size w w' := by
  have HGt := get_calls tb fb pb hm n L id hid w _ h
  unfold getE at HGt
  rw [show hblk L id = some y.b by unfold hblk; rw [hy]; rfl, hy] at HGt
  unfold pv at HGt
  have HGt := Lib.hid HGt
  obtain ⟨X, S1, back⟩ := tab_node h hy
  obtain ⟨d0, d1⟩ := hn_cells S1
  rw [hyt] at S1 d1
  unfold thT at d1
  unfold thO at S1
  have hmi := meth_reader_info y.xb
  have S2 := S1.perm (show _ = pts y.xb (rdO bb eb) * (Spill.bufX bb bp 3 4 frm data * (X * R * pts y.b (hnO y))) by ac_rfl)
  have HIn := Lib.hid (rinfo_calls y.xb bb eb bp frm data hf w _ S2)
  have hf1 := field_mode 4 0 (data.length : Int) 0 true false false
  have hf2 := field_w true false false
  clear h S1 S2 back hyt hy
  go_enter Tryz.func11, Tryz.ntmps11
  go_wp2_with fail
  refine HGt.out.mono ?_
  rintro e w1 ⟨rfl, rfl⟩
  go_wp2_with fail
  refine HIn.out.mono ?_
  rintro e w1 ⟨rfl, hB⟩
  have hB := Lib.hid hB
  clear HGt HIn
  go_wp2_with fail
  go_ret
  exact ⟨rfl, hB.out⟩
set_option maxRecDepth 100000 in
set_option maxHeartbeats 4000000 in
theorem Seen_no_file (tb fb pb hm n : Nat) (L : HL) (id : Int) (y : Hn) (k : Int) (a : Nat) (m : Md) (hid : I64 id) (hy : findA L id = some y) (hyt : y.t = .file k a m) (w : World) (R : Hp)
    (h : Sat w (tabHp tb fb pb hm L n * R)) :
    Calls Tryz.prog 20 #[pp tb, .int .i64 id] w fun e w' => e = .returned (.tuple #[.string ⟨#[]⟩, .int .i64 19]) ∧ Below w.heap.size w w' := by
  have HGt := get_calls tb fb pb hm n L id hid w _ h
  unfold getE at HGt
  rw [show hblk L id = some y.b by unfold hblk; rw [hy]; rfl, hy] at HGt
  unfold pv at HGt
  have HGt := Lib.hid HGt
  obtain ⟨X, S1, back⟩ := tab_node h hy
  obtain ⟨d0, d1⟩ := hn_cells S1
  rw [hyt] at S1 d1
  unfold thT at d1
  unfold thO at S1
  have hmi := meth_file_info y.xb
  have S2 := S1.perm (show _ = pts y.xb (flO fb k a m) * (X * R * pts y.b (hnO y)) by ac_rfl)
  have HIn := Lib.hid (finfo_calls y.xb fb k a m w _ S2)
  obtain ⟨mr, mw, mm⟩ := m
  have hf1 := field_kind 1 0 a k mr mw mm
  clear h S1 S2 back hyt hy
  go_enter Tryz.func20, Tryz.ntmps20
  go_wp2_with fail
  refine HGt.out.mono ?_
  rintro e w1 ⟨rfl, rfl⟩
  go_wp2_with fail
  refine HIn.out.mono ?_
  rintro e w1 ⟨rfl, hB⟩
  have hB := Lib.hid hB
  clear HGt HIn
  go_wp2_with fail
  go_ret2
  exact ⟨rfl, hB.out⟩
set_option maxRecDepth 100000 in
set_option maxHeartbeats 4000000 in
theorem Seen_no_text (tb fb pb hm n : Nat) (L : HL) (id : Int) (y : Hn) (s : ByteArray) (a : Nat) (hid : I64 id) (hy : findA L id = some y) (hyt : y.t = .text s a) (w : World) (R : Hp)
    (h : Sat w (tabHp tb fb pb hm L n * R)) :
    Calls Tryz.prog 20 #[pp tb, .int .i64 id] w fun e w' => e = .returned (.tuple #[.string ⟨#[]⟩, .int .i64 19]) ∧ Below w.heap.size w w' := by
  have HGt := get_calls tb fb pb hm n L id hid w _ h
  unfold getE at HGt
  rw [show hblk L id = some y.b by unfold hblk; rw [hy]; rfl, hy] at HGt
  unfold pv at HGt
  have HGt := Lib.hid HGt
  obtain ⟨X, S1, back⟩ := tab_node h hy
  obtain ⟨d0, d1⟩ := hn_cells S1
  rw [hyt] at S1 d1
  unfold thT at d1
  unfold thO at S1
  have hmi := meth_text_info y.xb
  have S2 := S1.perm (show _ = pts y.xb (txO s a) * (X * R * pts y.b (hnO y)) by ac_rfl)
  have HIn := Lib.hid (tinfo_calls y.xb s a w _ S2)
  have hf1 := field_kind 2 0 a 0 true false false
  clear h S1 S2 back hyt hy
  go_enter Tryz.func20, Tryz.ntmps20
  go_wp2_with fail
  refine HGt.out.mono ?_
  rintro e w1 ⟨rfl, rfl⟩
  go_wp2_with fail
  refine HIn.out.mono ?_
  rintro e w1 ⟨rfl, hB⟩
  have hB := Lib.hid hB
  clear HGt HIn
  go_wp2_with fail
  go_ret2
  exact ⟨rfl, hB.out⟩
set_option maxRecDepth 100000 in
set_option maxHeartbeats 4000000 in
theorem Seen_no_reader (tb fb pb hm n : Nat) (L : HL) (id : Int) (y : Hn) (bb eb bp frm : Nat) (data : List UInt8) (hid : I64 id) (hy : findA L id = some y) (hyt : y.t = .reader bb eb) (hf : frm + data.length ≤ 1000000000) (w : World) (R : Hp)
    (h : Sat w (tabHp tb fb pb hm L n * (Spill.bufX bb bp 3 4 frm data * R))) :
    Calls Tryz.prog 20 #[pp tb, .int .i64 id] w fun e w' => e = .returned (.tuple #[.string ⟨#[]⟩, .int .i64 19]) ∧ Below w.heap.size w w' := by
  have HGt := get_calls tb fb pb hm n L id hid w _ h
  unfold getE at HGt
  rw [show hblk L id = some y.b by unfold hblk; rw [hy]; rfl, hy] at HGt
  unfold pv at HGt
  have HGt := Lib.hid HGt
  obtain ⟨X, S1, back⟩ := tab_node h hy
  obtain ⟨d0, d1⟩ := hn_cells S1
  rw [hyt] at S1 d1
  unfold thT at d1
  unfold thO at S1
  have hmi := meth_reader_info y.xb
  have S2 := S1.perm (show _ = pts y.xb (rdO bb eb) * (Spill.bufX bb bp 3 4 frm data * (X * R * pts y.b (hnO y))) by ac_rfl)
  have HIn := Lib.hid (rinfo_calls y.xb bb eb bp frm data hf w _ S2)
  have hf1 := field_kind 4 0 (data.length : Int) 0 true false false
  clear h S1 S2 back hyt hy
  go_enter Tryz.func20, Tryz.ntmps20
  go_wp2_with fail
  refine HGt.out.mono ?_
  rintro e w1 ⟨rfl, rfl⟩
  go_wp2_with fail
  refine HIn.out.mono ?_
  rintro e w1 ⟨rfl, hB⟩
  have hB := Lib.hid hB
  clear HGt HIn
  go_wp2_with fail
  go_ret2
  exact ⟨rfl, hB.out⟩
set_option maxRecDepth 100000 in
set_option maxHeartbeats 4000000 in
theorem Seen_no_writer (tb fb pb hm n : Nat) (L : HL) (id : Int) (y : Hn) (bb eb bp frm : Nat) (data : List UInt8) (hid : I64 id) (hy : findA L id = some y) (hyt : y.t = .writer bb eb) (hf : frm + data.length ≤ 1000000000) (w : World) (R : Hp)
    (h : Sat w (tabHp tb fb pb hm L n * (Spill.bufX bb bp 3 4 frm data * R))) :
    Calls Tryz.prog 20 #[pp tb, .int .i64 id] w fun e w' => e = .returned (.tuple #[.string ⟨#[]⟩, .int .i64 19]) ∧ Below w.heap.size w w' := by
  have HGt := get_calls tb fb pb hm n L id hid w _ h
  unfold getE at HGt
  rw [show hblk L id = some y.b by unfold hblk; rw [hy]; rfl, hy] at HGt
  unfold pv at HGt
  have HGt := Lib.hid HGt
  obtain ⟨X, S1, back⟩ := tab_node h hy
  obtain ⟨d0, d1⟩ := hn_cells S1
  rw [hyt] at S1 d1
  unfold thT at d1
  unfold thO at S1
  have hmi := meth_writer_info y.xb
  have S2 := S1.perm (show _ = pts y.xb (wrO bb eb) * (Spill.bufX bb bp 3 4 frm data * (X * R * pts y.b (hnO y))) by ac_rfl)
  have HIn := Lib.hid (winfo_calls y.xb bb eb bp frm data hf w _ S2)
  have hf1 := field_kind 5 0 (data.length : Int) 0 false true false
  clear h S1 S2 back hyt hy
  go_enter Tryz.func20, Tryz.ntmps20
  go_wp2_with fail
  refine HGt.out.mono ?_
  rintro e w1 ⟨rfl, rfl⟩
  go_wp2_with fail
  refine HIn.out.mono ?_
  rintro e w1 ⟨rfl, hB⟩
  have hB := Lib.hid hB
  clear HGt HIn
  go_wp2_with fail
  go_ret2
  exact ⟨rfl, hB.out⟩
set_option maxRecDepth 100000 in
set_option maxHeartbeats 4000000 in
theorem Ref_none (tb fb pb hm n : Nat) (L : HL) (id : Int) (hid : I64 id) (hy : findA L id = none) (w : World) (R : Hp) (h : Sat w (tabHp tb fb pb hm L n * R)) :
    Calls Tryz.prog 18 #[pp tb, .int .i64 id] w fun e w' => e = .returned (.int .i64 18) ∧ w = w' := by
  have HGt := get_calls tb fb pb hm n L id hid w _ h
  unfold getE at HGt
  rw [show hblk L id = none by unfold hblk; rw [hy]; rfl, hy] at HGt
  unfold pv at HGt
  have HGt := Lib.hid HGt
  clear h hy
  go_enter Tryz.func18, Tryz.ntmps18
  go_wp2_with fail
  refine HGt.out.mono ?_
  rintro e w1 ⟨rfl, rfl⟩
  clear HGt
  go_wp2_with fail
  go_ret
  exact ⟨rfl, rfl⟩
set_option maxRecDepth 100000 in
set_option maxHeartbeats 4000000 in
theorem Unref_none (tb fb pb hm n : Nat) (L : HL) (id : Int) (hid : I64 id) (hy : findA L id = none) (w : World) (R : Hp) (h : Sat w (tabHp tb fb pb hm L n * R)) :
    Calls Tryz.prog 27 #[pp tb, .int .i64 id] w fun e w' => e = .returned (.int .i64 18) ∧ w = w' := by
  have HGt := get_calls tb fb pb hm n L id hid w _ h
  unfold getE at HGt
  rw [show hblk L id = none by unfold hblk; rw [hy]; rfl, hy] at HGt
  unfold pv at HGt
  have HGt := Lib.hid HGt
  clear h hy
  go_enter Tryz.func27, Tryz.ntmps27
  go_wp2_with fail
  refine HGt.out.mono ?_
  rintro e w1 ⟨rfl, rfl⟩
  clear HGt
  go_wp2_with fail
  go_ret
  exact ⟨rfl, rfl⟩
set_option maxRecDepth 100000 in
set_option maxHeartbeats 4000000 in
theorem TRead_none (tb fb pb hm n : Nat) (L : HL) (id : Int) (qn : Int) (hid : I64 id) (hy : findA L id = none) (w : World) (R : Hp) (h : Sat w (tabHp tb fb pb hm L n * R)) :
    Calls Tryz.prog 19 #[pp tb, .int .i64 id, .int .i64 qn] w fun e w' => e = .returned (.tuple #[.string ⟨#[]⟩, .int .i64 18]) ∧ w = w' := by
  have HGt := get_calls tb fb pb hm n L id hid w _ h
  unfold getE at HGt
  rw [show hblk L id = none by unfold hblk; rw [hy]; rfl, hy] at HGt
  unfold pv at HGt
  have HGt := Lib.hid HGt
  clear h hy
  go_enter Tryz.func19, Tryz.ntmps19
  go_wp2_with fail
  refine HGt.out.mono ?_
  rintro e w1 ⟨rfl, rfl⟩
  clear HGt
  go_wp2_with fail
  go_ret2
  exact ⟨rfl, rfl⟩
set_option maxRecDepth 100000 in
set_option maxHeartbeats 4000000 in
theorem TWrite_none (tb fb pb hm n : Nat) (L : HL) (id : Int) (d : ByteArray) (hid : I64 id) (hy : findA L id = none) (w : World) (R : Hp) (h : Sat w (tabHp tb fb pb hm L n * R)) :
    Calls Tryz.prog 11 #[pp tb, .int .i64 id, .string d] w fun e w' => e = .returned (.int .i64 18) ∧ w = w' := by
  have HGt := get_calls tb fb pb hm n L id hid w _ h
  unfold getE at HGt
  rw [show hblk L id = none by unfold hblk; rw [hy]; rfl, hy] at HGt
  unfold pv at HGt
  have HGt := Lib.hid HGt
  clear h hy
  go_enter Tryz.func11, Tryz.ntmps11
  go_wp2_with fail
  refine HGt.out.mono ?_
  rintro e w1 ⟨rfl, rfl⟩
  clear HGt
  go_wp2_with fail
  go_ret
  exact ⟨rfl, rfl⟩
set_option maxRecDepth 100000 in
set_option maxHeartbeats 4000000 in
theorem Seen_none (tb fb pb hm n : Nat) (L : HL) (id : Int) (hid : I64 id) (hy : findA L id = none) (w : World) (R : Hp) (h : Sat w (tabHp tb fb pb hm L n * R)) :
    Calls Tryz.prog 20 #[pp tb, .int .i64 id] w fun e w' => e = .returned (.tuple #[.string ⟨#[]⟩, .int .i64 18]) ∧ w = w' := by
  have HGt := get_calls tb fb pb hm n L id hid w _ h
  unfold getE at HGt
  rw [show hblk L id = none by unfold hblk; rw [hy]; rfl, hy] at HGt
  unfold pv at HGt
  have HGt := Lib.hid HGt
  clear h hy
  go_enter Tryz.func20, Tryz.ntmps20
  go_wp2_with fail
  refine HGt.out.mono ?_
  rintro e w1 ⟨rfl, rfl⟩
  clear HGt
  go_wp2_with fail
  go_ret2
  exact ⟨rfl, rfl⟩
set_option maxRecDepth 100000 in
set_option maxHeartbeats 4000000 in
theorem Sink_no (tb : Nat) (m : Int) (hm : m < 0 ∨ 1048576 < m) (w : World) :
    Calls Tryz.prog 17 #[pp tb, .int .i64 m] w fun e w' => e = .returned (.tuple #[.int .i64 0, .int .i64 1]) ∧ w = w' := by
  by_cases h0 : m < 0
  · clear hm
    go_enter Tryz.func17, Tryz.ntmps17
    go_wp2_with fail
    go_ret2
    exact ⟨rfl, rfl⟩
  · have h1 : 1048576 < m := by omega
    clear hm
    go_enter Tryz.func17, Tryz.ntmps17
    go_wp2_with fail
    go_ret2
    exact ⟨rfl, rfl⟩
/-- What File answers, where it refuses. -/
def fileE (F : Fs) (k : Int) (m : Md) : Int := match find F.L k with
  | none => statE F k
  | some x => if x.kind = 1 then 13 else if x.kind = 3 then 1 else if m.r = false ∧ m.w = false then 1 else 0
set_option maxRecDepth 100000 in
set_option maxHeartbeats 4000000 in
theorem File_none (tb fb mb pb hm n : Nat) (F : Fs) (L : HL) (k : Int) (m : Md) (hx : find F.L k = none) (hk : I64 k) (hs : FsOk F) (w : World) (R : Hp) (h : Sat w (fsHp fb mb F * (tabHp tb fb pb hm L n * R))) :
    Calls Tryz.prog 10 #[pp tb, .int .i64 k, mdV m] w fun e w' => e = .returned (.tuple #[.int .i64 0, .int .i64 (statE F k)]) ∧ Below w.heap.size w w' := by
  have S1 := (h.alloc (mdO m)).perm (show _ = fsHp fb mb F * (tabHp tb fb pb hm L n * (pts w.heap.size (mdO m) * R)) by ac_rfl)
  have HSt := Stat_calls fb mb F k hk (hs.small k) _ _ S1
  unfold statV at HSt
  rw [hx] at HSt
  dsimp only at HSt
  have hne : statE F k ≠ 0 := by unfold statE; rw [hx]; decide
  obtain ⟨q, hq⟩ : ∃ q, q = statE F k := ⟨_, rfl⟩
  rw [← hq] at HSt hne ⊢
  clear hq
  have HSt := Lib.hid HSt
  obtain ⟨t0, t1, t2⟩ := tab_cells (S1.perm (show _ = tabHp tb fb pb hm L n * (fsHp fb mb F * (pts w.heap.size (mdO m) * R)) by ac_rfl))
  have S1 := Lib.hid S1
  have RA := (Below.refl w.heap.size w).alloc (Nat.le_refl _) (mdO m)
  have RA := Lib.hid RA
  obtain ⟨mr, mw, mm⟩ := m
  clear h hx
  go_enter Tryz.func10, Tryz.ntmps10
  go_wp2_with fail
  refine HSt.out.mono ?_
  rintro e w1 ⟨rfl, hB⟩
  have SB := (S1.out.below hB).alloc (infoO 0 0 0 0)
  obtain ⟨r0, r1, r2, r3⟩ := info_cells SB
  obtain ⟨m0, m1, m2⟩ := md_cells (SB.right.perm (show _ = pts w.heap.size (mdO ⟨mr, mw, mm⟩) * (fsHp fb mb F * (tabHp tb fb pb hm L n * R)) by ac_rfl))
  dsimp only at m0 m1 m2
  have RB := RA.out.trans (hB.mono RA.out.size)
  have RB := Lib.hid (RB.alloc RB.size (infoO 0 0 0 0))
  clear HSt hB SB
  go_wp2_with fail
  go_ret2
  exact ⟨rfl, RB.out⟩
set_option maxRecDepth 100000 in
set_option maxHeartbeats 4000000 in
theorem File_dir (tb fb mb pb hm n : Nat) (F : Fs) (L : HL) (k : Int) (m : Md) (x : Nd) (hx : find F.L k = some x) (hk1 : x.kind = 1) (hk : I64 k) (hs : FsOk F) (w : World) (R : Hp) (h : Sat w (fsHp fb mb F * (tabHp tb fb pb hm L n * R))) :
    Calls Tryz.prog 10 #[pp tb, .int .i64 k, mdV m] w fun e w' => e = .returned (.tuple #[.int .i64 0, .int .i64 13]) ∧ Below w.heap.size w w' := by
  have S1 := (h.alloc (mdO m)).perm (show _ = fsHp fb mb F * (tabHp tb fb pb hm L n * (pts w.heap.size (mdO m) * R)) by ac_rfl)
  have HSt := Stat_calls fb mb F k hk (hs.small k) _ _ S1
  unfold statE statV at HSt
  rw [hx] at HSt
  dsimp only at HSt
  rw [hk1] at HSt
  have HSt := Lib.hid HSt
  obtain ⟨t0, t1, t2⟩ := tab_cells (S1.perm (show _ = tabHp tb fb pb hm L n * (fsHp fb mb F * (pts w.heap.size (mdO m) * R)) by ac_rfl))
  have S1 := Lib.hid S1
  have RA := (Below.refl w.heap.size w).alloc (Nat.le_refl _) (mdO m)
  have RA := Lib.hid RA
  obtain ⟨mr, mw, mm⟩ := m
  clear h hx hk1
  go_enter Tryz.func10, Tryz.ntmps10
  go_wp2_with fail
  refine HSt.out.mono ?_
  rintro e w1 ⟨rfl, hB⟩
  have SB := (S1.out.below hB).alloc (infoO 1 (sizeN x) x.names x.holds)
  obtain ⟨r0, r1, r2, r3⟩ := info_cells SB
  obtain ⟨m0, m1, m2⟩ := md_cells (SB.right.perm (show _ = pts w.heap.size (mdO ⟨mr, mw, mm⟩) * (fsHp fb mb F * (tabHp tb fb pb hm L n * R)) by ac_rfl))
  dsimp only at m0 m1 m2
  have RB := RA.out.trans (hB.mono RA.out.size)
  have RB := Lib.hid (RB.alloc RB.size (infoO 1 (sizeN x) x.names x.holds))
  clear HSt hB SB
  go_wp2_with fail
  go_ret2
  exact ⟨rfl, RB.out⟩
set_option maxRecDepth 100000 in
set_option maxHeartbeats 4000000 in
theorem File_link (tb fb mb pb hm n : Nat) (F : Fs) (L : HL) (k : Int) (m : Md) (x : Nd) (hx : find F.L k = some x) (hk1 : x.kind = 3) (hk : I64 k) (hs : FsOk F) (w : World) (R : Hp) (h : Sat w (fsHp fb mb F * (tabHp tb fb pb hm L n * R))) :
    Calls Tryz.prog 10 #[pp tb, .int .i64 k, mdV m] w fun e w' => e = .returned (.tuple #[.int .i64 0, .int .i64 1]) ∧ Below w.heap.size w w' := by
  have S1 := (h.alloc (mdO m)).perm (show _ = fsHp fb mb F * (tabHp tb fb pb hm L n * (pts w.heap.size (mdO m) * R)) by ac_rfl)
  have HSt := Stat_calls fb mb F k hk (hs.small k) _ _ S1
  unfold statE statV at HSt
  rw [hx] at HSt
  dsimp only at HSt
  rw [hk1] at HSt
  have HSt := Lib.hid HSt
  obtain ⟨t0, t1, t2⟩ := tab_cells (S1.perm (show _ = tabHp tb fb pb hm L n * (fsHp fb mb F * (pts w.heap.size (mdO m) * R)) by ac_rfl))
  have S1 := Lib.hid S1
  have RA := (Below.refl w.heap.size w).alloc (Nat.le_refl _) (mdO m)
  have RA := Lib.hid RA
  obtain ⟨mr, mw, mm⟩ := m
  clear h hx hk1
  go_enter Tryz.func10, Tryz.ntmps10
  go_wp2_with fail
  refine HSt.out.mono ?_
  rintro e w1 ⟨rfl, hB⟩
  have SB := (S1.out.below hB).alloc (infoO 3 (sizeN x) x.names x.holds)
  obtain ⟨r0, r1, r2, r3⟩ := info_cells SB
  obtain ⟨m0, m1, m2⟩ := md_cells (SB.right.perm (show _ = pts w.heap.size (mdO ⟨mr, mw, mm⟩) * (fsHp fb mb F * (tabHp tb fb pb hm L n * R)) by ac_rfl))
  dsimp only at m0 m1 m2
  have RB := RA.out.trans (hB.mono RA.out.size)
  have RB := Lib.hid (RB.alloc RB.size (infoO 3 (sizeN x) x.names x.holds))
  clear HSt hB SB
  go_wp2_with fail
  go_ret2
  exact ⟨rfl, RB.out⟩
set_option maxRecDepth 100000 in
set_option maxHeartbeats 4000000 in
theorem File_mode (tb fb mb pb hm n : Nat) (F : Fs) (L : HL) (k : Int) (m : Md) (x : Nd) (hx : find F.L k = some x) (hk1 : x.kind = 2) (hmd : m.r = false ∧ m.w = false) (hk : I64 k) (hs : FsOk F) (w : World) (R : Hp) (h : Sat w (fsHp fb mb F * (tabHp tb fb pb hm L n * R))) :
    Calls Tryz.prog 10 #[pp tb, .int .i64 k, mdV m] w fun e w' => e = .returned (.tuple #[.int .i64 0, .int .i64 1]) ∧ Below w.heap.size w w' := by
  have S1 := (h.alloc (mdO m)).perm (show _ = fsHp fb mb F * (tabHp tb fb pb hm L n * (pts w.heap.size (mdO m) * R)) by ac_rfl)
  have HSt := Stat_calls fb mb F k hk (hs.small k) _ _ S1
  unfold statE statV at HSt
  rw [hx] at HSt
  dsimp only at HSt
  rw [hk1] at HSt
  have HSt := Lib.hid HSt
  obtain ⟨t0, t1, t2⟩ := tab_cells (S1.perm (show _ = tabHp tb fb pb hm L n * (fsHp fb mb F * (pts w.heap.size (mdO m) * R)) by ac_rfl))
  have S1 := Lib.hid S1
  have RA := (Below.refl w.heap.size w).alloc (Nat.le_refl _) (mdO m)
  have RA := Lib.hid RA
  obtain ⟨mr, mw, mm⟩ := m
  dsimp only at hmd
  obtain ⟨hm1, hm2⟩ := hmd
  subst hm1
  subst hm2
  clear h hx hk1
  go_enter Tryz.func10, Tryz.ntmps10
  go_wp2_with fail
  refine HSt.out.mono ?_
  rintro e w1 ⟨rfl, hB⟩
  have SB := (S1.out.below hB).alloc (infoO 2 (sizeN x) x.names x.holds)
  obtain ⟨r0, r1, r2, r3⟩ := info_cells SB
  obtain ⟨m0, m1, m2⟩ := md_cells (SB.right.perm (show _ = pts w.heap.size (mdO ⟨false, false, mm⟩) * (fsHp fb mb F * (tabHp tb fb pb hm L n * R)) by ac_rfl))
  dsimp only at m0 m1 m2
  have RB := RA.out.trans (hB.mono RA.out.size)
  have RB := Lib.hid (RB.alloc RB.size (infoO 2 (sizeN x) x.names x.holds))
  clear HSt hB SB
  go_wp2_with fail
  go_ret2
  exact ⟨rfl, RB.out⟩
end Go.Proofs.YtljlpkeddbfpaaaGreatDoor.Hd

namespace Go.Proofs.YtljlpkeddbfpaaaGreatDoor.Hd
open Go.RowKit Go.Maps Go.Proofs.YtljlpkeddbfpaaaGreatDoor Go.Proofs.YtljlpkeddbfpaaaGreatDoor.Hp
set_option linter.unusedVariables false
attribute [local go_sem] Oper.semAt_some

abbrev nm (c : UInt8) : ByteArray := ⟨#[c]⟩
theorem nm_whole (c : UInt8) : (nm c).extract 0 1 = nm c := by
  apply ByteArray.ext
  rw [ByteArray.data_extract]
  rfl
def Simple (c : UInt8) : Prop := c = 97 ∨ c = 98 ∨ c = 108 ∨ c = 100
set_option maxRecDepth 100000 in
theorem begin_calls (wb : Nat) (c : UInt8) (hc : Simple c) (w : World) :
    Calls Tryz.prog 108 #[pp wb, .int .i64 1, .string (nm c)] w fun e w' => e = .returned (.tuple #[.int .i64 1, .int .i64 0]) ∧ w = w' := by
  rcases hc with rfl | rfl | rfl | rfl
  all_goals
    go_enter Tryz.func108, Tryz.ntmps108
    go_wp2_with fail
    go_ret2
    exact ⟨rfl, rfl⟩
set_option maxRecDepth 100000 in
theorem right_calls (c : UInt8) (hc : Simple c) (w : World) :
    Calls Tryz.prog 112 #[.string (nm c)] w fun e w' => e = .returned (.bool true) ∧ w = w' := by
  have HIx := Tryz.strings_IndexByte (nm c) 0 w
  rcases hc with rfl | rfl | rfl | rfl
  all_goals
    have HIx := Lib.hid HIx
    go_enter Tryz.func112, Tryz.ntmps112
    go_wp2_with fail
    refine HIx.out.mono ?_
    rintro e w1 ⟨rfl, rfl⟩
    rw [show Lib.indexByte _ _ = -1 by rfl]
    go_wp2_with fail
    go_ret
    exact ⟨rfl, rfl⟩
set_option maxRecDepth 100000 in
set_option maxHeartbeats 2000000 in
theorem last_calls (fb mb : Nat) (F : Fs) (x : Nd) (c : UInt8) (hc : Simple c) (hx : find F.L 1 = some x) (h1 : x.kind = 1) (w : World) (R : Hp) (h : Sat w (fsHp fb mb F * R)) :
    Calls Tryz.prog 90 #[pp fb, .int .i64 1, .string (nm c)] w fun e w' => e = .returned (.tuple #[.int .i64 1, .string (nm c), .bool false, .int .i64 0]) ∧ Below w.heap.size w w' := by
  have HI := is_calls fb mb F 1 1 (by unfold I64; omega) w R h
  unfold isK at HI
  rw [hx] at HI
  dsimp only at HI
  rw [h1] at HI
  rw [show ((1 : Int) == 1) = true by rfl] at HI
  have HI := Lib.hid HI
  have HB := Lib.hid (fun wb w => begin_calls wb c hc w)
  have HT := fun w => Tryz.strings_TrimRight_one (nm c) 47 (by decide) w (by show 1 ≤ _; omega)
  have HLi := fun w => Tryz.strings_LastIndexByte (nm c) 47 (by show 1 < _; omega) w
  clear h hx h1
  rcases hc with rfl | rfl | rfl | rfl
  · skip
    have HT := Lib.hid HT
    have HLi := Lib.hid HLi
    go_enter Tryz.func90, Tryz.ntmps90
    go_wp2_with fail
    refine HI.out.mono ?_
    rintro e w1 ⟨rfl, rfl⟩
    go_wp2_with fail
    refine (HB.out _ _).mono ?_
    rintro e w1 ⟨rfl, rfl⟩
    go_wp2_with fail
    refine (HT.out _).mono ?_
    rintro e w1 ⟨rfl, rfl⟩
    rw [show ∀ b : UInt8, b ≠ 47 → (⟨(Lib.trimRightB (nm b).data.toList 47).toArray⟩ : ByteArray) = nm b from fun b hb => by simp [Lib.trimRightB, hb]]
    rotate_left
    · decide
    go_wp2_with fail
    refine (HLi.out _).mono ?_
    rintro e w1 ⟨rfl, rfl⟩
    rw [show Lib.lastIndexByte _ _ = -1 by rfl]
    go_wp2_with fail
    refine region_plan (S := (fun _ => True)) [(0, true), (1, true), (2, true), (3, true), (4, true), (5, true), (6, true), (7, true), (8, true), (9, true), (10, true), (11, true), (12, true)] (by kernel_rfl) (by kernel_rfl) (by kernel_rfl) ?_ ?_
    · ((try dsimp only); (first | done | (trivial)))
    simp only [planOps, List.map_cons, List.map_nil, List.getElem?_toArray, List.getElem?_cons_zero, List.getElem?_cons_succ]
    repeat (first
      | ((refine plan_yes (v := ?_) (by rfl) ?_ ?_); rotate_left; (focus (intro w hSw; (try dsimp only at hSw); go_simp; try (with_reducible rfl))); (try simp only [Act.put, List.setIfInBounds_toArray, List.set_cons_zero, List.set_cons_succ]))
      | ((refine plan_no (by rfl) ?_); (try simp only [Act.put, List.setIfInBounds_toArray, List.set_cons_zero, List.set_cons_succ]))
      | ((refine plan_step (fun K hK => ?_)); (first | (fail) | (go_simp; (fail); (try go_wp2_with fail)) | go_simp); (refine hK.out _ _ ?_ (fun hHeld => ?_)); (focus ((try dsimp only); (first | done | (trivial)))); clear hK K; (try simp only [Act.put, List.setIfInBounds_toArray, List.set_cons_zero, List.set_cons_succ])))
    refine plan_done ?_
    go_wp2_with fail
    refine bodyPost_ret (v := .tuple #[.int .i64 1, .string (nm 97), .bool false, .int .i64 0]) (by simp [results, Tryz.results90, go_sem, nm_whole]) rfl ?_
    exact ⟨rfl, ((Below.refl _ w).alloc (Nat.le_refl _) _).trans ⟨rfl, rfl, rfl, Nat.le_refl _, fun _ _ => rfl⟩⟩
  · skip
    have HT := Lib.hid HT
    have HLi := Lib.hid HLi
    go_enter Tryz.func90, Tryz.ntmps90
    go_wp2_with fail
    refine HI.out.mono ?_
    rintro e w1 ⟨rfl, rfl⟩
    go_wp2_with fail
    refine (HB.out _ _).mono ?_
    rintro e w1 ⟨rfl, rfl⟩
    go_wp2_with fail
    refine (HT.out _).mono ?_
    rintro e w1 ⟨rfl, rfl⟩
    rw [show ∀ b : UInt8, b ≠ 47 → (⟨(Lib.trimRightB (nm b).data.toList 47).toArray⟩ : ByteArray) = nm b from fun b hb => by simp [Lib.trimRightB, hb]]
    rotate_left
    · decide
    go_wp2_with fail
    refine (HLi.out _).mono ?_
    rintro e w1 ⟨rfl, rfl⟩
    rw [show Lib.lastIndexByte _ _ = -1 by rfl]
    go_wp2_with fail
    refine region_plan (S := (fun _ => True)) [(0, true), (1, true), (2, true), (3, true), (4, true), (5, true), (6, true), (7, true), (8, true), (9, true), (10, true), (11, true), (12, true)] (by kernel_rfl) (by kernel_rfl) (by kernel_rfl) ?_ ?_
    · ((try dsimp only); (first | done | (trivial)))
    simp only [planOps, List.map_cons, List.map_nil, List.getElem?_toArray, List.getElem?_cons_zero, List.getElem?_cons_succ]
    repeat (first
      | ((refine plan_yes (v := ?_) (by rfl) ?_ ?_); rotate_left; (focus (intro w hSw; (try dsimp only at hSw); go_simp; try (with_reducible rfl))); (try simp only [Act.put, List.setIfInBounds_toArray, List.set_cons_zero, List.set_cons_succ]))
      | ((refine plan_no (by rfl) ?_); (try simp only [Act.put, List.setIfInBounds_toArray, List.set_cons_zero, List.set_cons_succ]))
      | ((refine plan_step (fun K hK => ?_)); (first | (fail) | (go_simp; (fail); (try go_wp2_with fail)) | go_simp); (refine hK.out _ _ ?_ (fun hHeld => ?_)); (focus ((try dsimp only); (first | done | (trivial)))); clear hK K; (try simp only [Act.put, List.setIfInBounds_toArray, List.set_cons_zero, List.set_cons_succ])))
    refine plan_done ?_
    go_wp2_with fail
    refine bodyPost_ret (v := .tuple #[.int .i64 1, .string (nm 98), .bool false, .int .i64 0]) (by simp [results, Tryz.results90, go_sem, nm_whole]) rfl ?_
    exact ⟨rfl, ((Below.refl _ w).alloc (Nat.le_refl _) _).trans ⟨rfl, rfl, rfl, Nat.le_refl _, fun _ _ => rfl⟩⟩
  · skip
    have HT := Lib.hid HT
    have HLi := Lib.hid HLi
    go_enter Tryz.func90, Tryz.ntmps90
    go_wp2_with fail
    refine HI.out.mono ?_
    rintro e w1 ⟨rfl, rfl⟩
    go_wp2_with fail
    refine (HB.out _ _).mono ?_
    rintro e w1 ⟨rfl, rfl⟩
    go_wp2_with fail
    refine (HT.out _).mono ?_
    rintro e w1 ⟨rfl, rfl⟩
    rw [show ∀ b : UInt8, b ≠ 47 → (⟨(Lib.trimRightB (nm b).data.toList 47).toArray⟩ : ByteArray) = nm b from fun b hb => by simp [Lib.trimRightB, hb]]
    rotate_left
    · decide
    go_wp2_with fail
    refine (HLi.out _).mono ?_
    rintro e w1 ⟨rfl, rfl⟩
    rw [show Lib.lastIndexByte _ _ = -1 by rfl]
    go_wp2_with fail
    refine region_plan (S := (fun _ => True)) [(0, true), (1, true), (2, true), (3, true), (4, true), (5, true), (6, true), (7, true), (8, true), (9, true), (10, true), (11, true), (12, true)] (by kernel_rfl) (by kernel_rfl) (by kernel_rfl) ?_ ?_
    · ((try dsimp only); (first | done | (trivial)))
    simp only [planOps, List.map_cons, List.map_nil, List.getElem?_toArray, List.getElem?_cons_zero, List.getElem?_cons_succ]
    repeat (first
      | ((refine plan_yes (v := ?_) (by rfl) ?_ ?_); rotate_left; (focus (intro w hSw; (try dsimp only at hSw); go_simp; try (with_reducible rfl))); (try simp only [Act.put, List.setIfInBounds_toArray, List.set_cons_zero, List.set_cons_succ]))
      | ((refine plan_no (by rfl) ?_); (try simp only [Act.put, List.setIfInBounds_toArray, List.set_cons_zero, List.set_cons_succ]))
      | ((refine plan_step (fun K hK => ?_)); (first | (fail) | (go_simp; (fail); (try go_wp2_with fail)) | go_simp); (refine hK.out _ _ ?_ (fun hHeld => ?_)); (focus ((try dsimp only); (first | done | (trivial)))); clear hK K; (try simp only [Act.put, List.setIfInBounds_toArray, List.set_cons_zero, List.set_cons_succ])))
    refine plan_done ?_
    go_wp2_with fail
    refine bodyPost_ret (v := .tuple #[.int .i64 1, .string (nm 108), .bool false, .int .i64 0]) (by simp [results, Tryz.results90, go_sem, nm_whole]) rfl ?_
    exact ⟨rfl, ((Below.refl _ w).alloc (Nat.le_refl _) _).trans ⟨rfl, rfl, rfl, Nat.le_refl _, fun _ _ => rfl⟩⟩
  · skip
    have HT := Lib.hid HT
    have HLi := Lib.hid HLi
    go_enter Tryz.func90, Tryz.ntmps90
    go_wp2_with fail
    refine HI.out.mono ?_
    rintro e w1 ⟨rfl, rfl⟩
    go_wp2_with fail
    refine (HB.out _ _).mono ?_
    rintro e w1 ⟨rfl, rfl⟩
    go_wp2_with fail
    refine (HT.out _).mono ?_
    rintro e w1 ⟨rfl, rfl⟩
    rw [show ∀ b : UInt8, b ≠ 47 → (⟨(Lib.trimRightB (nm b).data.toList 47).toArray⟩ : ByteArray) = nm b from fun b hb => by simp [Lib.trimRightB, hb]]
    rotate_left
    · decide
    go_wp2_with fail
    refine (HLi.out _).mono ?_
    rintro e w1 ⟨rfl, rfl⟩
    rw [show Lib.lastIndexByte _ _ = -1 by rfl]
    go_wp2_with fail
    refine region_plan (S := (fun _ => True)) [(0, true), (1, true), (2, true), (3, true), (4, true), (5, true), (6, true), (7, true), (8, true), (9, true), (10, true), (11, true), (12, true)] (by kernel_rfl) (by kernel_rfl) (by kernel_rfl) ?_ ?_
    · ((try dsimp only); (first | done | (trivial)))
    simp only [planOps, List.map_cons, List.map_nil, List.getElem?_toArray, List.getElem?_cons_zero, List.getElem?_cons_succ]
    repeat (first
      | ((refine plan_yes (v := ?_) (by rfl) ?_ ?_); rotate_left; (focus (intro w hSw; (try dsimp only at hSw); go_simp; try (with_reducible rfl))); (try simp only [Act.put, List.setIfInBounds_toArray, List.set_cons_zero, List.set_cons_succ]))
      | ((refine plan_no (by rfl) ?_); (try simp only [Act.put, List.setIfInBounds_toArray, List.set_cons_zero, List.set_cons_succ]))
      | ((refine plan_step (fun K hK => ?_)); (first | (fail) | (go_simp; (fail); (try go_wp2_with fail)) | go_simp); (refine hK.out _ _ ?_ (fun hHeld => ?_)); (focus ((try dsimp only); (first | done | (trivial)))); clear hK K; (try simp only [Act.put, List.setIfInBounds_toArray, List.set_cons_zero, List.set_cons_succ])))
    refine plan_done ?_
    go_wp2_with fail
    refine bodyPost_ret (v := .tuple #[.int .i64 1, .string (nm 100), .bool false, .int .i64 0]) (by simp [results, Tryz.results90, go_sem, nm_whole]) rfl ?_
    exact ⟨rfl, ((Below.refl _ w).alloc (Nat.le_refl _) _).trans ⟨rfl, rfl, rfl, Nat.le_refl _, fun _ _ => rfl⟩⟩
set_option maxRecDepth 100000 in
set_option maxHeartbeats 2000000 in
theorem step_calls (fb mb : Nat) (F : Fs) (x : Nd) (kd : Kd) (c : UInt8) (hc : Simple c) (hx : find F.L 1 = some x) (h1 : x.kind = 1) (hk : x.kids = some kd) (hM : kd.M (nm c) = none) (w : World) (R : Hp) (h : Sat w (fsHp fb mb F * R)) :
    Calls Tryz.prog 91 #[pp fb, .int .i64 1, .string (nm c)] w fun e w' => e = .returned (.tuple #[.int .i64 0, .int .i64 10]) ∧ w = w' := by
  have HI := is_calls fb mb F 1 1 (by unfold I64; omega) w R h
  unfold isK at HI
  rw [hx] at HI
  dsimp only at HI
  rw [h1] at HI
  rw [show ((1 : Int) == 1) = true by rfl] at HI
  have HI := Lib.hid HI
  have HR := Lib.hid (right_calls c hc w)
  obtain ⟨c0, c1, c2, c3⟩ := fs_cells h
  have hl := fs_look h 1 (by unfold I64; omega)
  rw [show blk F.L 1 = some x.b by unfold blk; rw [hx]; rfl] at hl
  unfold pv at hl
  obtain ⟨X, S1, -⟩ := fs_node h hx
  obtain ⟨d0, d1, d2, d3, d4, d5⟩ := nd_cells S1
  rw [hk] at d2 S1
  unfold kv at d2
  dsimp only at d2
  have hl2 := K.smap_look (S1.perm (show _ = K.smap kd.b kd.M kd.sz kd.n * (pts x.b (ndO x) * (pts fb (fsO F mb) * (X * R))) by unfold kidsHp; ac_rfl)) (nm c) (by show 1 ≤ 9223372036854775807; omega)
  rw [hM] at hl2
  rw [show (none : Option Int).getD 0 = 0 by rfl] at hl2
  clear h hx h1 hk hM S1
  rcases hc with rfl | rfl | rfl | rfl
  all_goals
    go_enter Tryz.func91, Tryz.ntmps91
    go_wp2_with fail
    refine HI.out.mono ?_
    rintro e w1 ⟨rfl, rfl⟩
    go_wp2_with fail
    refine HR.out.mono ?_
    rintro e w1 ⟨rfl, rfl⟩
    go_wp2_with fail
    go_ret2
    exact ⟨rfl, rfl⟩
set_option maxRecDepth 100000 in
set_option maxHeartbeats 2000000 in
theorem place_calls (fb mb : Nat) (F : Fs) (x : Nd) (kd : Kd) (c : UInt8) (k : Int) (hc : Simple c) (hx : find F.L 1 = some x) (h1 : x.kind = 1) (hk : x.kids = some kd) (hM : kd.M (nm c) = none) (w : World) (R : Hp) (h : Sat w (fsHp fb mb F * R)) :
    Calls Tryz.prog 62 #[pp fb, .int .i64 1, .string (nm c), .int .i64 k] w fun e w' => e = .returned (.tuple #[.int .i64 1, .string (nm c), .int .i64 0]) ∧ Below w.heap.size w w' := by
  have HL := Lib.hid (last_calls fb mb F x c hc hx h1 w R h)
  have HS := Lib.hid (fun w h => step_calls fb mb F x kd c hc hx h1 hk hM w R h)
  have H0 := Lib.hid h
  clear h hx h1 hk hM
  rcases hc with rfl | rfl | rfl | rfl
  · skip
    go_enter Tryz.func62, Tryz.ntmps62
    go_wp2_with fail
    refine HL.out.mono ?_
    rintro e w1 ⟨rfl, hB⟩
    have HS2 := Lib.hid (HS.out w1 (H0.out.below hB))
    have HB := Lib.hid hB
    clear hB HS HL
    go_wp2_with fail
    refine HS2.out.mono ?_
    rintro e w2 ⟨rfl, rfl⟩
    go_wp2_with fail
    refine bodyPost_ret (v := .tuple #[.int .i64 1, .string (nm 97), .int .i64 0]) (by simp [results, Tryz.results62, go_sem]) rfl ?_
    exact ⟨rfl, HB.out⟩
  · skip
    go_enter Tryz.func62, Tryz.ntmps62
    go_wp2_with fail
    refine HL.out.mono ?_
    rintro e w1 ⟨rfl, hB⟩
    have HS2 := Lib.hid (HS.out w1 (H0.out.below hB))
    have HB := Lib.hid hB
    clear hB HS HL
    go_wp2_with fail
    refine HS2.out.mono ?_
    rintro e w2 ⟨rfl, rfl⟩
    go_wp2_with fail
    refine bodyPost_ret (v := .tuple #[.int .i64 1, .string (nm 98), .int .i64 0]) (by simp [results, Tryz.results62, go_sem]) rfl ?_
    exact ⟨rfl, HB.out⟩
  · skip
    go_enter Tryz.func62, Tryz.ntmps62
    go_wp2_with fail
    refine HL.out.mono ?_
    rintro e w1 ⟨rfl, hB⟩
    have HS2 := Lib.hid (HS.out w1 (H0.out.below hB))
    have HB := Lib.hid hB
    clear hB HS HL
    go_wp2_with fail
    refine HS2.out.mono ?_
    rintro e w2 ⟨rfl, rfl⟩
    go_wp2_with fail
    refine bodyPost_ret (v := .tuple #[.int .i64 1, .string (nm 108), .int .i64 0]) (by simp [results, Tryz.results62, go_sem]) rfl ?_
    exact ⟨rfl, HB.out⟩
  · skip
    go_enter Tryz.func62, Tryz.ntmps62
    go_wp2_with fail
    refine HL.out.mono ?_
    rintro e w1 ⟨rfl, hB⟩
    have HS2 := Lib.hid (HS.out w1 (H0.out.below hB))
    have HB := Lib.hid hB
    clear hB HS HL
    go_wp2_with fail
    refine HS2.out.mono ?_
    rintro e w2 ⟨rfl, rfl⟩
    go_wp2_with fail
    refine bodyPost_ret (v := .tuple #[.int .i64 1, .string (nm 100), .int .i64 0]) (by simp [results, Tryz.results62, go_sem]) rfl ?_
    exact ⟨rfl, HB.out⟩
end Go.Proofs.YtljlpkeddbfpaaaGreatDoor.Hd

