/- The ends of a pipe: info; read and write; Read and Write of a table at them walked. (printed by gen_hdy.py) -/
import Derived.Test.YtljlpkeddbfpaaaGreatDoorHdX
namespace Go.Proofs.YtljlpkeddbfpaaaGreatDoor.Hd
open Go.RowKit Go.Maps Go.Proofs.YtljlpkeddbfpaaaGreatDoor Go.Proofs.YtljlpkeddbfpaaaGreatDoor.Hp
set_option linter.unusedVariables false
attribute [local go_sem] Oper.semAt_some

set_option maxRecDepth 100000 in
set_option maxHeartbeats 4000000 in
theorem rinfo_calls (xb bb eb bp frm : Nat) (data : List UInt8) (hf : frm + data.length ≤ 1000000000) (w : World) (R : Hp) (h : Sat w (pts xb (rdO bb eb) * (Spill.bufX bb bp 3 4 frm data * R))) :
    Calls Tryz.prog 217 #[pp xb] w fun e w' => e = .returned (inV 4 0 (data.length : Int) 0 ⟨true, false, false⟩) ∧ Below w.heap.size w w' := by
  have S1 := h.alloc (inO 0 0 0 0 ⟨false, false, false⟩)
  obtain ⟨d0, d1⟩ := rd_cells (S1.perm (show _ = pts xb (rdO bb eb) * (pts w.heap.size (inO 0 0 0 0 ⟨false, false, false⟩) * (Spill.bufX bb bp 3 4 frm data * R)) by ac_rfl))
  have HL := Lib.hid (Spill.xlen bb bp 3 4 frm data _ _ hf (S1.perm (show _ = Spill.bufX bb bp 3 4 frm data * (pts xb (rdO bb eb) * (pts w.heap.size (inO 0 0 0 0 ⟨false, false, false⟩) * R)) by ac_rfl)))
  have S1 := Lib.hid S1
  clear h
  go_enter Tryz.func217, Tryz.ntmps217
  go_wp2_with fail
  refine HL.out.mono ?_
  rintro e w1 ⟨rfl, nn, hw1⟩
  have S2 : Sat w1 (pts w.heap.size (inO 0 0 0 0 ⟨false, false, false⟩) * (pts xb (rdO bb eb) * (Spill.bufX bb bp 3 4 frm data * R))) := by rw [hw1]; exact S1.out.drewN nn
  have hfalse : Below w.heap.size w w1 := by rw [hw1]; exact ((Below.refl w.heap.size w).alloc (Nat.le_refl _) _).trans ⟨rfl, rfl, rfl, Nat.le_refl _, fun _ _ => rfl⟩
  obtain ⟨z0, z1, z2, z3, z4, z5, z6⟩ := in_cells S2
  have f0 : ∀ i, w1.frozen? ⟨w.heap.size, i, none⟩ = false := fun i => free_at S2.get i
  have S3 := ((((((S2.set (i := 0) (.int .i64 4)).set (i := 1) (.int .i64 0)).set (i := 2) (.int .i64 (data.length : Int))).set (i := 3) (.int .i64 0)).set (i := 4) (.bool true)).set (i := 5) (.bool false)).set (i := 6) (.bool false)
  obtain ⟨r0, r1, r2, r3, r4, r5, r6⟩ := in_cells (k := 4) (rf := 0) (a := (data.length : Int)) (n := 0) (m := ⟨true, false, false⟩) S3
  have HB := Lib.hid (((((((hfalse.setCell (Nat.le_refl _) (p := ⟨w.heap.size, 0, none⟩) (.int .i64 4)).setCell (Nat.le_refl _) (p := ⟨w.heap.size, 1, none⟩) (.int .i64 0)).setCell (Nat.le_refl _) (p := ⟨w.heap.size, 2, none⟩) (.int .i64 (data.length : Int))).setCell (Nat.le_refl _) (p := ⟨w.heap.size, 3, none⟩) (.int .i64 0)).setCell (Nat.le_refl _) (p := ⟨w.heap.size, 4, none⟩) (.bool true)).setCell (Nat.le_refl _) (p := ⟨w.heap.size, 5, none⟩) (.bool false)).setCell (Nat.le_refl _) (p := ⟨w.heap.size, 6, none⟩) (.bool false))
  dsimp only at z4 z5 z6 r4 r5 r6
  clear hw1 S1 S2 S3 hfalse HL d0 d1
  go_wp2_with fail
  exact bodyPost_ret (v := inV 4 0 (data.length : Int) 0 ⟨true, false, false⟩) (by simp [results, Tryz.results217, go_sem, r0, r1, r2, r3, r4, r5, r6]) rfl ⟨rfl, HB.out⟩
set_option maxRecDepth 100000 in
set_option maxHeartbeats 4000000 in
theorem winfo_calls (xb bb eb bp frm : Nat) (data : List UInt8) (hf : frm + data.length ≤ 1000000000) (w : World) (R : Hp) (h : Sat w (pts xb (wrO bb eb) * (Spill.bufX bb bp 3 4 frm data * R))) :
    Calls Tryz.prog 227 #[pp xb] w fun e w' => e = .returned (inV 5 0 (data.length : Int) 0 ⟨false, true, false⟩) ∧ Below w.heap.size w w' := by
  have S1 := h.alloc (inO 0 0 0 0 ⟨false, false, false⟩)
  obtain ⟨d0, d1⟩ := rd_cells (S1.perm (show _ = pts xb (wrO bb eb) * (pts w.heap.size (inO 0 0 0 0 ⟨false, false, false⟩) * (Spill.bufX bb bp 3 4 frm data * R)) by ac_rfl))
  have HL := Lib.hid (Spill.xlen bb bp 3 4 frm data _ _ hf (S1.perm (show _ = Spill.bufX bb bp 3 4 frm data * (pts xb (wrO bb eb) * (pts w.heap.size (inO 0 0 0 0 ⟨false, false, false⟩) * R)) by ac_rfl)))
  have S1 := Lib.hid S1
  clear h
  go_enter Tryz.func227, Tryz.ntmps227
  go_wp2_with fail
  refine HL.out.mono ?_
  rintro e w1 ⟨rfl, nn, hw1⟩
  have S2 : Sat w1 (pts w.heap.size (inO 0 0 0 0 ⟨false, false, false⟩) * (pts xb (wrO bb eb) * (Spill.bufX bb bp 3 4 frm data * R))) := by rw [hw1]; exact S1.out.drewN nn
  have htrue : Below w.heap.size w w1 := by rw [hw1]; exact ((Below.refl w.heap.size w).alloc (Nat.le_refl _) _).trans ⟨rfl, rfl, rfl, Nat.le_refl _, fun _ _ => rfl⟩
  obtain ⟨z0, z1, z2, z3, z4, z5, z6⟩ := in_cells S2
  have f0 : ∀ i, w1.frozen? ⟨w.heap.size, i, none⟩ = false := fun i => free_at S2.get i
  have S3 := ((((((S2.set (i := 0) (.int .i64 5)).set (i := 1) (.int .i64 0)).set (i := 2) (.int .i64 (data.length : Int))).set (i := 3) (.int .i64 0)).set (i := 4) (.bool false)).set (i := 5) (.bool true)).set (i := 6) (.bool false)
  obtain ⟨r0, r1, r2, r3, r4, r5, r6⟩ := in_cells (k := 5) (rf := 0) (a := (data.length : Int)) (n := 0) (m := ⟨false, true, false⟩) S3
  have HB := Lib.hid (((((((htrue.setCell (Nat.le_refl _) (p := ⟨w.heap.size, 0, none⟩) (.int .i64 5)).setCell (Nat.le_refl _) (p := ⟨w.heap.size, 1, none⟩) (.int .i64 0)).setCell (Nat.le_refl _) (p := ⟨w.heap.size, 2, none⟩) (.int .i64 (data.length : Int))).setCell (Nat.le_refl _) (p := ⟨w.heap.size, 3, none⟩) (.int .i64 0)).setCell (Nat.le_refl _) (p := ⟨w.heap.size, 4, none⟩) (.bool false)).setCell (Nat.le_refl _) (p := ⟨w.heap.size, 5, none⟩) (.bool true)).setCell (Nat.le_refl _) (p := ⟨w.heap.size, 6, none⟩) (.bool false))
  dsimp only at z4 z5 z6 r4 r5 r6
  clear hw1 S1 S2 S3 htrue HL d0 d1
  go_wp2_with fail
  exact bodyPost_ret (v := inV 5 0 (data.length : Int) 0 ⟨false, true, false⟩) (by simp [results, Tryz.results227, go_sem, r0, r1, r2, r3, r4, r5, r6]) rfl ⟨rfl, HB.out⟩
theorem updA_same {α : Type} : ∀ (L : List (Int × α)) (k : Int) (x : α), findA L k = some x → updA L k x = L
  | [], _, _, h => by cases h
  | p :: L, k, x, h => by
    unfold findA at h
    unfold updA
    by_cases e : p.1 = k
    · rw [if_pos e] at h ⊢
      injection h with h
      rw [← h, ← e]
    · rw [if_neg e] at h ⊢
      rw [updA_same L k x h]
set_option maxRecDepth 100000 in
set_option maxHeartbeats 4000000 in
theorem wwrite_calls (xb bb eb bp held U opn tot frm : Nat) (data dl : List UInt8) (hh : held + dl.length ≤ 40) (hf : frm + data.length + dl.length ≤ 1000000000) (hU : U ≤ 1000000000) (htot : tot ≤ 1000000000) (w : World) (R : Hp)
    (h : Sat w (pts xb (wrO bb eb) * (Spill.poolX bp 40 3 4 held (U + (Spill.cl 3 4 (frm + data.length) - Spill.gn 3 4 frm)) opn tot * (Spill.bufX bb bp 3 4 frm data * R)))) :
    Calls Tryz.prog 229 #[pp xb, .string ⟨dl.toArray⟩] w fun e w' => (e = .returned (.int .i64 0) ∧ Sat w' (pts xb (wrO bb eb) * (Spill.poolX bp 40 3 4 (held + dl.length) (U + (Spill.cl 3 4 (frm + (data ++ dl).length) - Spill.gn 3 4 frm)) opn (tot + dl.length) * (Spill.bufX bb bp 3 4 frm (data ++ dl) * R)))) ∧ Ran w w' := by
  obtain ⟨d0, d1⟩ := rd_cells h
  have HA := Lib.hid (Spill.append_loop bp bb 40 3 4 held U opn tot frm data dl _ w (by omega) (by omega) (by omega) (by omega) (by omega) (by omega) hU htot (h.perm (show _ = Spill.poolX bp 40 3 4 held (U + (Spill.cl 3 4 (frm + data.length) - Spill.gn 3 4 frm)) opn tot * (Spill.bufX bb bp 3 4 frm data * (pts xb (wrO bb eb) * R)) by ac_rfl)))
  clear h
  go_enter Tryz.func229, Tryz.ntmps229
  go_wp2_with fail
  refine HA.out.mono ?_
  rintro e w1 ⟨rfl, S1, R1⟩
  have S1 := Lib.hid S1
  have R1 := Lib.hid R1
  clear HA
  go_wp2_with fail
  go_ret
  exact ⟨⟨rfl, S1.out.perm (by ac_rfl)⟩, R1.out⟩
set_option maxRecDepth 100000 in
set_option maxHeartbeats 4000000 in
theorem rread_calls (xb bb eb bp held U opn tot frm q : Nat) (data : List UInt8) (hh : held ≤ 1000000000) (hd : data.length ≤ held) (hf : frm + data.length ≤ 1000000000) (hU : U ≤ 1000000000) (htot : tot ≤ 1000000000) (hq : q ≤ 9223372036854775807) (w : World) (R : Hp)
    (h : Sat w (pts xb (rdO bb eb) * (Spill.poolX bp 40 3 4 held (U + (Spill.cl 3 4 (frm + data.length) - Spill.gn 3 4 frm)) opn tot * (Spill.bufX bb bp 3 4 frm data * R)))) :
    Calls Tryz.prog 218 #[pp xb, .int .i64 q] w fun e w' => (e = .returned (.tuple #[.string ⟨(data.take (min q data.length)).toArray⟩, .int .i64 0]) ∧ Sat w' (pts xb (rdO bb eb) * (Spill.poolX bp 40 3 4 (held - min q data.length) (U + (Spill.cl 3 4 (frm + data.length) - Spill.gn 3 4 (frm + min q data.length))) opn tot * (Spill.bufX bb bp 3 4 (frm + min q data.length) (data.drop (min q data.length)) * R)))) ∧ Ran w w' := by
  obtain ⟨d0, d1⟩ := rd_cells h
  have HA := Lib.hid (Spill.drain_calls bp bb 40 3 4 held U opn tot frm (frm + data.length) q (min q data.length) data _ w (by omega) (by omega) (by omega) hh hd hf hU htot (by omega) rfl rfl (h.perm (show _ = Spill.poolX bp 40 3 4 held (U + (Spill.cl 3 4 (frm + data.length) - Spill.gn 3 4 frm)) opn tot * (Spill.bufX bb bp 3 4 frm data * (pts xb (rdO bb eb) * R)) by ac_rfl)))
  clear h
  go_enter Tryz.func218, Tryz.ntmps218
  go_wp2_with fail
  refine HA.out.mono ?_
  rintro e w1 ⟨rfl, S1, R1⟩
  have S1 := Lib.hid S1
  have R1 := Lib.hid R1
  clear HA
  go_wp2_with fail
  go_ret2
  exact ⟨⟨rfl, S1.out.perm (by ac_rfl)⟩, R1.out⟩
set_option maxRecDepth 100000 in
set_option maxHeartbeats 4000000 in
theorem TWrite_writer (tb fb bp hm n held U opn tot frm : Nat) (L : HL) (id : Int) (y : Hn) (bb eb : Nat) (data : List UInt8) (dl : List UInt8) (hid : I64 id) (hy : findA L id = some y) (hyt : y.t = .writer bb eb) (hh : held + dl.length ≤ 40) (hf : frm + data.length + 100000 ≤ 1000000000) (hU : U ≤ 1000000000) (htot : tot ≤ 1000000000) (w : World) (R : Hp)
    (h : Sat w (tabHp tb fb bp hm L n * (Spill.poolX bp 40 3 4 held (U + (Spill.cl 3 4 (frm + data.length) - Spill.gn 3 4 frm)) opn tot * (Spill.bufX bb bp 3 4 frm data * R)))) :
    Calls Tryz.prog 11 #[pp tb, .int .i64 id, .string ⟨dl.toArray⟩] w fun e w' => (e = .returned (.int .i64 0) ∧ Sat w' (tabHp tb fb bp hm L n * (Spill.poolX bp 40 3 4 (held + dl.length) (U + (Spill.cl 3 4 (frm + (data ++ dl).length) - Spill.gn 3 4 frm)) opn (tot + dl.length) * (Spill.bufX bb bp 3 4 frm (data ++ dl) * R)))) ∧ Ran w w' := by
  have HGt := get_calls tb fb bp hm n L id hid w _ h
  unfold getE at HGt
  rw [show hblk L id = some y.b by unfold hblk; rw [hy]; rfl, hy] at HGt
  unfold pv at HGt
  have HGt := Lib.hid HGt
  obtain ⟨X, S1, back⟩ := tab_node h hy
  obtain ⟨d0, d1⟩ := hn_cells S1
  have hup : updA L id y = L := updA_same L id y hy
  rw [hyt] at S1 d1
  unfold thT at d1
  unfold thO at S1
  have hmi := meth_writer_info y.xb
  have hmw2 := meth_writer_write y.xb
  have S2 := S1.perm (show _ = pts y.xb (wrO bb eb) * (Spill.bufX bb bp 3 4 frm data * (Spill.poolX bp 40 3 4 held (U + (Spill.cl 3 4 (frm + data.length) - Spill.gn 3 4 frm)) opn tot * (X * R * pts y.b (hnO y)))) by ac_rfl)
  have HIn := Lib.hid (winfo_calls y.xb bb eb bp frm data (by omega) w _ S2)
  have S2 := Lib.hid S2
  have hf1 := field_mode 5 0 (data.length : Int) 0 false true false
  have hf2 := field_w false true false
  have Back := Lib.hid back
  have Hyt := Lib.hid hyt
  skip
  clear h S1 back hyt hy
  go_enter Tryz.func11, Tryz.ntmps11
  go_wp2_with fail
  refine HGt.out.mono ?_
  rintro e w1 ⟨rfl, rfl⟩
  go_wp2_with fail
  refine HIn.out.mono ?_
  rintro e w1 ⟨rfl, hB⟩
  have S3 := S2.out.below hB
  have R3 := Lib.hid (below_ran hB)
  obtain ⟨e0, e1⟩ := hn_cells (S3.perm (show _ = pts y.b (hnO y) * (pts y.xb (wrO bb eb) * (Spill.bufX bb bp 3 4 frm data * (Spill.poolX bp 40 3 4 held (U + (Spill.cl 3 4 (frm + data.length) - Spill.gn 3 4 frm)) opn tot * (X * R)))) by ac_rfl))
  rw [Hyt.out] at e1
  unfold thT at e1
  have HW := Lib.hid (wwrite_calls y.xb bb eb bp held U opn tot frm data dl hh (by omega) hU htot w1 (X * R * pts y.b (hnO y)) (S3.perm (by ac_rfl)))
  clear hB HIn HGt d0 d1 S3 S2
  go_wp2_with fail
  refine HW.out.mono ?_
  rintro e w2 ⟨⟨rfl, S4⟩, R4⟩
  have R4 := Lib.hid (Below.trans R3.out R4)
  have S5 := Lib.hid (Back.out w2 y (Spill.poolX bp 40 3 4 (held + dl.length) (U + (Spill.cl 3 4 (frm + (data ++ dl).length) - Spill.gn 3 4 frm)) opn (tot + dl.length) * (Spill.bufX bb bp 3 4 frm (data ++ dl) * R)) rfl (S4.perm (show _ = pts y.b (hnO y) * (pts y.xb (thO fb y.t) * (X * (Spill.poolX bp 40 3 4 (held + dl.length) (U + (Spill.cl 3 4 (frm + (data ++ dl).length) - Spill.gn 3 4 frm)) opn (tot + dl.length) * (Spill.bufX bb bp 3 4 frm (data ++ dl) * R)))) by rw [Hyt.out]; unfold thO; ac_rfl)))
  rw [hup] at S5
  clear S4 HW
  go_wp2_with fail
  go_ret
  exact ⟨⟨rfl, S5.out⟩, R4.out⟩
set_option maxRecDepth 100000 in
set_option maxHeartbeats 4000000 in
theorem TRead_reader (tb fb bp hm n held U opn tot frm : Nat) (L : HL) (id : Int) (y : Hn) (bb eb : Nat) (data : List UInt8) (q : Nat) (hid : I64 id) (hy : findA L id = some y) (hyt : y.t = .reader bb eb) (hh : held ≤ 1000000000) (hdl : data.length ≤ held) (hq : q ≤ 9223372036854775807) (hf : frm + data.length + 100000 ≤ 1000000000) (hU : U ≤ 1000000000) (htot : tot ≤ 1000000000) (w : World) (R : Hp)
    (h : Sat w (tabHp tb fb bp hm L n * (Spill.poolX bp 40 3 4 held (U + (Spill.cl 3 4 (frm + data.length) - Spill.gn 3 4 frm)) opn tot * (Spill.bufX bb bp 3 4 frm data * R)))) :
    Calls Tryz.prog 19 #[pp tb, .int .i64 id, .int .i64 q] w fun e w' => (e = .returned (.tuple #[.string ⟨(data.take (min q data.length)).toArray⟩, .int .i64 0]) ∧ Sat w' (tabHp tb fb bp hm L n * (Spill.poolX bp 40 3 4 (held - min q data.length) (U + (Spill.cl 3 4 (frm + data.length) - Spill.gn 3 4 (frm + min q data.length))) opn tot * (Spill.bufX bb bp 3 4 (frm + min q data.length) (data.drop (min q data.length)) * R)))) ∧ Ran w w' := by
  have HGt := get_calls tb fb bp hm n L id hid w _ h
  unfold getE at HGt
  rw [show hblk L id = some y.b by unfold hblk; rw [hy]; rfl, hy] at HGt
  unfold pv at HGt
  have HGt := Lib.hid HGt
  obtain ⟨X, S1, back⟩ := tab_node h hy
  obtain ⟨d0, d1⟩ := hn_cells S1
  have hup : updA L id y = L := updA_same L id y hy
  rw [hyt] at S1 d1
  unfold thT at d1
  unfold thO at S1
  have hmi := meth_reader_info y.xb
  have hmw2 := meth_reader_read y.xb
  have S2 := S1.perm (show _ = pts y.xb (rdO bb eb) * (Spill.bufX bb bp 3 4 frm data * (Spill.poolX bp 40 3 4 held (U + (Spill.cl 3 4 (frm + data.length) - Spill.gn 3 4 frm)) opn tot * (X * R * pts y.b (hnO y)))) by ac_rfl)
  have HIn := Lib.hid (rinfo_calls y.xb bb eb bp frm data (by omega) w _ S2)
  have S2 := Lib.hid S2
  have hf1 := field_mode 4 0 (data.length : Int) 0 true false false
  have hf2 := field_r true false false
  have Back := Lib.hid back
  have Hyt := Lib.hid hyt
  have hq0 : (0 : Int) ≤ (q : Int) := by omega
  clear h S1 back hyt hy
  go_enter Tryz.func19, Tryz.ntmps19
  go_wp2_with fail
  refine HGt.out.mono ?_
  rintro e w1 ⟨rfl, rfl⟩
  go_wp2_with fail
  refine HIn.out.mono ?_
  rintro e w1 ⟨rfl, hB⟩
  have S3 := S2.out.below hB
  have R3 := Lib.hid (below_ran hB)
  obtain ⟨e0, e1⟩ := hn_cells (S3.perm (show _ = pts y.b (hnO y) * (pts y.xb (rdO bb eb) * (Spill.bufX bb bp 3 4 frm data * (Spill.poolX bp 40 3 4 held (U + (Spill.cl 3 4 (frm + data.length) - Spill.gn 3 4 frm)) opn tot * (X * R)))) by ac_rfl))
  rw [Hyt.out] at e1
  unfold thT at e1
  have HW := Lib.hid (rread_calls y.xb bb eb bp held U opn tot frm q data hh hdl (by omega) hU htot hq w1 (X * R * pts y.b (hnO y)) (S3.perm (by ac_rfl)))
  clear hB HIn HGt d0 d1 S3 S2
  go_wp2_with fail
  refine HW.out.mono ?_
  rintro e w2 ⟨⟨rfl, S4⟩, R4⟩
  have R4 := Lib.hid (Below.trans R3.out R4)
  have S5 := Lib.hid (Back.out w2 y (Spill.poolX bp 40 3 4 (held - min q data.length) (U + (Spill.cl 3 4 (frm + data.length) - Spill.gn 3 4 (frm + min q data.length))) opn tot * (Spill.bufX bb bp 3 4 (frm + min q data.length) (data.drop (min q data.length)) * R)) rfl (S4.perm (show _ = pts y.b (hnO y) * (pts y.xb (thO fb y.t) * (X * (Spill.poolX bp 40 3 4 (held - min q data.length) (U + (Spill.cl 3 4 (frm + data.length) - Spill.gn 3 4 (frm + min q data.length))) opn tot * (Spill.bufX bb bp 3 4 (frm + min q data.length) (data.drop (min q data.length)) * R)))) by rw [Hyt.out]; unfold thO; ac_rfl)))
  rw [hup] at S5
  clear S4 HW
  go_wp2_with fail
  go_ret2
  exact ⟨⟨rfl, S5.out⟩, R4.out⟩
end Go.Proofs.YtljlpkeddbfpaaaGreatDoor.Hd
