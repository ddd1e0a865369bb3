/- HandlesPlays, part 11 of 31: the texts HdY HdZ HdTx HdSk HdSn, joined by a program. -/
import Derived.Test.YteienbdbhnikbaaGreatDoorPw10
import Derived.Test.YteienbdbhnikbaaGreatDoorPw9
import Derived.Lib.Builder
import Derived.Lib.UnsafeStr
import Derived.Laws.Externs
namespace Go.Proofs.YteienbdbhnikbaaGreatDoor.Hd
open Go.RowKit Go.Maps Go.Proofs.YteienbdbhnikbaaGreatDoor Go.Proofs.YteienbdbhnikbaaGreatDoor.Hp
set_option linter.unusedVariables false
attribute [local go_sem] Oper.semAt_some

set_option maxRecDepth 100000 in
set_option maxHeartbeats 4000000 in
theorem rinfo_calls (xb bb eb bp frm : Nat) (data : List UInt8) (hf : frm + data.length ≤ 1000000000) (w : World) (R : Hp) (h : Sat w (pts xb (rdO bb eb) * (Spill.bufX bb bp 3 4 frm data * R))) :
    Calls Tryz.prog 168 #[pp xb] w fun e w' => e = .returned (inV 4 0 (data.length : Int) 0 ⟨true, false, false⟩) ∧ Below w.heap.size w w' := by
  have S1 := h.alloc (inO 0 0 0 0 ⟨false, false, false⟩)
  obtain ⟨d0, d1⟩ := rd_cells (S1.perm (show _ = pts xb (rdO bb eb) * (pts w.heap.size (inO 0 0 0 0 ⟨false, false, false⟩) * (Spill.bufX bb bp 3 4 frm data * R)) by ac_rfl))
  have HL := Lib.hid (Spill.xlen bb bp 3 4 frm data _ _ hf (S1.perm (show _ = Spill.bufX bb bp 3 4 frm data * (pts xb (rdO bb eb) * (pts w.heap.size (inO 0 0 0 0 ⟨false, false, false⟩) * R)) by ac_rfl)))
  have S1 := Lib.hid S1
  clear h
  go_enter Tryz.func168, Tryz.ntmps168
  go_wp2_with fail
  refine HL.out.mono ?_
  rintro e w1 ⟨rfl, nn, hw1⟩
  have S2 : Sat w1 (pts w.heap.size (inO 0 0 0 0 ⟨false, false, false⟩) * (pts xb (rdO bb eb) * (Spill.bufX bb bp 3 4 frm data * R))) := by rw [hw1]; exact S1.out.drewN nn
  have hfalse : Below w.heap.size w w1 := by rw [hw1]; exact ((Below.refl w.heap.size w).alloc (Nat.le_refl _) _).trans ⟨rfl, rfl, rfl, Nat.le_refl _, fun _ _ => rfl⟩
  obtain ⟨z0, z1, z2, z3, z4, z5, z6⟩ := in_cells S2
  have f0 : ∀ i, w1.frozen? ⟨w.heap.size, i, none⟩ = false := fun i => free_at S2.get i
  have S3 := ((((((S2.set (i := 0) (.int .i64 4)).set (i := 1) (.int .i64 0)).set (i := 2) (.int .i64 (data.length : Int))).set (i := 3) (.int .i64 0)).set (i := 4) (.bool true)).set (i := 5) (.bool false)).set (i := 6) (.bool false)
  obtain ⟨r0, r1, r2, r3, r4, r5, r6⟩ := in_cells (k := 4) (rf := 0) (a := (data.length : Int)) (n := 0) (m := ⟨true, false, false⟩) S3
  have HB := Lib.hid (((((((hfalse.setCell (Nat.le_refl _) (p := ⟨w.heap.size, 0, none⟩) (.int .i64 4)).setCell (Nat.le_refl _) (p := ⟨w.heap.size, 1, none⟩) (.int .i64 0)).setCell (Nat.le_refl _) (p := ⟨w.heap.size, 2, none⟩) (.int .i64 (data.length : Int))).setCell (Nat.le_refl _) (p := ⟨w.heap.size, 3, none⟩) (.int .i64 0)).setCell (Nat.le_refl _) (p := ⟨w.heap.size, 4, none⟩) (.bool true)).setCell (Nat.le_refl _) (p := ⟨w.heap.size, 5, none⟩) (.bool false)).setCell (Nat.le_refl _) (p := ⟨w.heap.size, 6, none⟩) (.bool false))
  dsimp only at z4 z5 z6 r4 r5 r6
  clear hw1 S1 S2 S3 hfalse HL d0 d1
  go_wp2_with fail
  exact bodyPost_ret (v := inV 4 0 (data.length : Int) 0 ⟨true, false, false⟩) (by simp [results, Tryz.results168, go_sem, r0, r1, r2, r3, r4, r5, r6]) rfl ⟨rfl, HB.out⟩
set_option maxRecDepth 100000 in
set_option maxHeartbeats 4000000 in
theorem winfo_calls (xb bb eb bp frm : Nat) (data : List UInt8) (hf : frm + data.length ≤ 1000000000) (w : World) (R : Hp) (h : Sat w (pts xb (wrO bb eb) * (Spill.bufX bb bp 3 4 frm data * R))) :
    Calls Tryz.prog 178 #[pp xb] w fun e w' => e = .returned (inV 5 0 (data.length : Int) 0 ⟨false, true, false⟩) ∧ Below w.heap.size w w' := by
  have S1 := h.alloc (inO 0 0 0 0 ⟨false, false, false⟩)
  obtain ⟨d0, d1⟩ := rd_cells (S1.perm (show _ = pts xb (wrO bb eb) * (pts w.heap.size (inO 0 0 0 0 ⟨false, false, false⟩) * (Spill.bufX bb bp 3 4 frm data * R)) by ac_rfl))
  have HL := Lib.hid (Spill.xlen bb bp 3 4 frm data _ _ hf (S1.perm (show _ = Spill.bufX bb bp 3 4 frm data * (pts xb (wrO bb eb) * (pts w.heap.size (inO 0 0 0 0 ⟨false, false, false⟩) * R)) by ac_rfl)))
  have S1 := Lib.hid S1
  clear h
  go_enter Tryz.func178, Tryz.ntmps178
  go_wp2_with fail
  refine HL.out.mono ?_
  rintro e w1 ⟨rfl, nn, hw1⟩
  have S2 : Sat w1 (pts w.heap.size (inO 0 0 0 0 ⟨false, false, false⟩) * (pts xb (wrO bb eb) * (Spill.bufX bb bp 3 4 frm data * R))) := by rw [hw1]; exact S1.out.drewN nn
  have htrue : Below w.heap.size w w1 := by rw [hw1]; exact ((Below.refl w.heap.size w).alloc (Nat.le_refl _) _).trans ⟨rfl, rfl, rfl, Nat.le_refl _, fun _ _ => rfl⟩
  obtain ⟨z0, z1, z2, z3, z4, z5, z6⟩ := in_cells S2
  have f0 : ∀ i, w1.frozen? ⟨w.heap.size, i, none⟩ = false := fun i => free_at S2.get i
  have S3 := ((((((S2.set (i := 0) (.int .i64 5)).set (i := 1) (.int .i64 0)).set (i := 2) (.int .i64 (data.length : Int))).set (i := 3) (.int .i64 0)).set (i := 4) (.bool false)).set (i := 5) (.bool true)).set (i := 6) (.bool false)
  obtain ⟨r0, r1, r2, r3, r4, r5, r6⟩ := in_cells (k := 5) (rf := 0) (a := (data.length : Int)) (n := 0) (m := ⟨false, true, false⟩) S3
  have HB := Lib.hid (((((((htrue.setCell (Nat.le_refl _) (p := ⟨w.heap.size, 0, none⟩) (.int .i64 5)).setCell (Nat.le_refl _) (p := ⟨w.heap.size, 1, none⟩) (.int .i64 0)).setCell (Nat.le_refl _) (p := ⟨w.heap.size, 2, none⟩) (.int .i64 (data.length : Int))).setCell (Nat.le_refl _) (p := ⟨w.heap.size, 3, none⟩) (.int .i64 0)).setCell (Nat.le_refl _) (p := ⟨w.heap.size, 4, none⟩) (.bool false)).setCell (Nat.le_refl _) (p := ⟨w.heap.size, 5, none⟩) (.bool true)).setCell (Nat.le_refl _) (p := ⟨w.heap.size, 6, none⟩) (.bool false))
  dsimp only at z4 z5 z6 r4 r5 r6
  clear hw1 S1 S2 S3 htrue HL d0 d1
  go_wp2_with fail
  exact bodyPost_ret (v := inV 5 0 (data.length : Int) 0 ⟨false, true, false⟩) (by simp [results, Tryz.results178, go_sem, r0, r1, r2, r3, r4, r5, r6]) rfl ⟨rfl, HB.out⟩
theorem updA_same {α : Type} : ∀ (L : List (Int × α)) (k : Int) (x : α), findA L k = some x → updA L k x = L
  | [], _, _, h => by cases h
  | p :: L, k, x, h => by
    unfold findA at h
    unfold updA
    by_cases e : p.1 = k
    · rw [if_pos e] at h ⊢
      injection h with h
      rw [← h, ← e]
    · rw [if_neg e] at h ⊢
      rw [updA_same L k x h]
set_option maxRecDepth 100000 in
set_option maxHeartbeats 4000000 in
theorem wwrite_calls (xb bb eb bp held U opn tot frm : Nat) (data dl : List UInt8) (hh : held + dl.length ≤ 40) (hf : frm + data.length + dl.length ≤ 1000000000) (hU : U ≤ 1000000000) (htot : tot ≤ 1000000000) (w : World) (R : Hp)
    (h : Sat w (pts xb (wrO bb eb) * (Spill.poolX bp 40 3 4 held (U + (Spill.cl 3 4 (frm + data.length) - Spill.gn 3 4 frm)) opn tot * (Spill.bufX bb bp 3 4 frm data * R)))) :
    Calls Tryz.prog 180 #[pp xb, .string ⟨dl.toArray⟩] w fun e w' => (e = .returned (.int .i64 0) ∧ Sat w' (pts xb (wrO bb eb) * (Spill.poolX bp 40 3 4 (held + dl.length) (U + (Spill.cl 3 4 (frm + (data ++ dl).length) - Spill.gn 3 4 frm)) opn (tot + dl.length) * (Spill.bufX bb bp 3 4 frm (data ++ dl) * R)))) ∧ Ran w w' := by
  obtain ⟨d0, d1⟩ := rd_cells h
  have HA := Lib.hid (Spill.append_loop bp bb 40 3 4 held U opn tot frm data dl _ w (by omega) (by omega) (by omega) (by omega) (by omega) (by omega) hU htot (h.perm (show _ = Spill.poolX bp 40 3 4 held (U + (Spill.cl 3 4 (frm + data.length) - Spill.gn 3 4 frm)) opn tot * (Spill.bufX bb bp 3 4 frm data * (pts xb (wrO bb eb) * R)) by ac_rfl)))
  clear h
  go_enter Tryz.func180, Tryz.ntmps180
  go_wp2_with fail
  refine HA.out.mono ?_
  rintro e w1 ⟨rfl, S1, R1⟩
  have S1 := Lib.hid S1
  have R1 := Lib.hid R1
  clear HA
  go_wp2_with fail
  go_ret
  exact ⟨⟨rfl, S1.out.perm (by ac_rfl)⟩, R1.out⟩
set_option maxRecDepth 100000 in
set_option maxHeartbeats 4000000 in
theorem rread_calls (xb bb eb bp held U opn tot frm q : Nat) (data : List UInt8) (hh : held ≤ 1000000000) (hd : data.length ≤ held) (hf : frm + data.length ≤ 1000000000) (hU : U ≤ 1000000000) (htot : tot ≤ 1000000000) (hq : q ≤ 9223372036854775807) (w : World) (R : Hp)
    (h : Sat w (pts xb (rdO bb eb) * (Spill.poolX bp 40 3 4 held (U + (Spill.cl 3 4 (frm + data.length) - Spill.gn 3 4 frm)) opn tot * (Spill.bufX bb bp 3 4 frm data * R)))) :
    Calls Tryz.prog 169 #[pp xb, .int .i64 q] w fun e w' => (e = .returned (.tuple #[.string ⟨(data.take (min q data.length)).toArray⟩, .int .i64 0]) ∧ Sat w' (pts xb (rdO bb eb) * (Spill.poolX bp 40 3 4 (held - min q data.length) (U + (Spill.cl 3 4 (frm + data.length) - Spill.gn 3 4 (frm + min q data.length))) opn tot * (Spill.bufX bb bp 3 4 (frm + min q data.length) (data.drop (min q data.length)) * R)))) ∧ Ran w w' := by
  obtain ⟨d0, d1⟩ := rd_cells h
  have HA := Lib.hid (Spill.drain_calls bp bb 40 3 4 held U opn tot frm (frm + data.length) q (min q data.length) data _ w (by omega) (by omega) (by omega) hh hd hf hU htot (by omega) rfl rfl (h.perm (show _ = Spill.poolX bp 40 3 4 held (U + (Spill.cl 3 4 (frm + data.length) - Spill.gn 3 4 frm)) opn tot * (Spill.bufX bb bp 3 4 frm data * (pts xb (rdO bb eb) * R)) by ac_rfl)))
  clear h
  go_enter Tryz.func169, Tryz.ntmps169
  go_wp2_with fail
  refine HA.out.mono ?_
  rintro e w1 ⟨rfl, S1, R1⟩
  have S1 := Lib.hid S1
  have R1 := Lib.hid R1
  clear HA
  go_wp2_with fail
  go_ret2
  exact ⟨⟨rfl, S1.out.perm (by ac_rfl)⟩, R1.out⟩
set_option maxRecDepth 100000 in
set_option maxHeartbeats 4000000 in
theorem TWrite_writer (tb fb bp hm n held U opn tot frm : Nat) (L : HL) (id : Int) (y : Hn) (bb eb : Nat) (data : List UInt8) (dl : List UInt8) (hid : I64 id) (hy : findA L id = some y) (hyt : y.t = .writer bb eb) (hh : held + dl.length ≤ 40) (hf : frm + data.length + 100000 ≤ 1000000000) (hU : U ≤ 1000000000) (htot : tot ≤ 1000000000) (w : World) (R : Hp)
    (h : Sat w (tabHp tb fb bp hm L n * (Spill.poolX bp 40 3 4 held (U + (Spill.cl 3 4 (frm + data.length) - Spill.gn 3 4 frm)) opn tot * (Spill.bufX bb bp 3 4 frm data * R)))) :
    Calls Tryz.prog 63 #[pp tb, .int .i64 id, .string ⟨dl.toArray⟩] w fun e w' => (e = .returned (.int .i64 0) ∧ Sat w' (tabHp tb fb bp hm L n * (Spill.poolX bp 40 3 4 (held + dl.length) (U + (Spill.cl 3 4 (frm + (data ++ dl).length) - Spill.gn 3 4 frm)) opn (tot + dl.length) * (Spill.bufX bb bp 3 4 frm (data ++ dl) * R)))) ∧ Ran w w' := by
  have HGt := get_calls tb fb bp hm n L id hid w _ h
  unfold getE at HGt
  rw [show hblk L id = some y.b by unfold hblk; rw [hy]; rfl, hy] at HGt
  unfold pv at HGt
  have HGt := Lib.hid HGt
  obtain ⟨X, S1, back⟩ := tab_node h hy
  obtain ⟨d0, d1⟩ := hn_cells S1
  have hup : updA L id y = L := updA_same L id y hy
  rw [hyt] at S1 d1
  unfold thT at d1
  unfold thO at S1
  have hmi := meth_writer_info y.xb
  have hmw2 := meth_writer_write y.xb
  have S2 := S1.perm (show _ = pts y.xb (wrO bb eb) * (Spill.bufX bb bp 3 4 frm data * (Spill.poolX bp 40 3 4 held (U + (Spill.cl 3 4 (frm + data.length) - Spill.gn 3 4 frm)) opn tot * (X * R * pts y.b (hnO y)))) by ac_rfl)
  have HIn := Lib.hid (winfo_calls y.xb bb eb bp frm data (by omega) w _ S2)
  have S2 := Lib.hid S2
  have hf1 := field_mode 5 0 (data.length : Int) 0 false true false
  have hf2 := field_w false true false
  have Back := Lib.hid back
  have Hyt := Lib.hid hyt
  skip
  clear h S1 back hyt hy
  go_enter Tryz.func63, Tryz.ntmps63
  go_wp2_with fail
  refine HGt.out.mono ?_
  rintro e w1 ⟨rfl, rfl⟩
  go_wp2_with fail
  refine HIn.out.mono ?_
  rintro e w1 ⟨rfl, hB⟩
  have S3 := S2.out.below hB
  have R3 := Lib.hid (below_ran hB)
  obtain ⟨e0, e1⟩ := hn_cells (S3.perm (show _ = pts y.b (hnO y) * (pts y.xb (wrO bb eb) * (Spill.bufX bb bp 3 4 frm data * (Spill.poolX bp 40 3 4 held (U + (Spill.cl 3 4 (frm + data.length) - Spill.gn 3 4 frm)) opn tot * (X * R)))) by ac_rfl))
  rw [Hyt.out] at e1
  unfold thT at e1
  have HW := Lib.hid (wwrite_calls y.xb bb eb bp held U opn tot frm data dl hh (by omega) hU htot w1 (X * R * pts y.b (hnO y)) (S3.perm (by ac_rfl)))
  clear hB HIn HGt d0 d1 S3 S2
  go_wp2_with fail
  refine HW.out.mono ?_
  rintro e w2 ⟨⟨rfl, S4⟩, R4⟩
  have R4 := Lib.hid (Below.trans R3.out R4)
  have S5 := Lib.hid (Back.out w2 y (Spill.poolX bp 40 3 4 (held + dl.length) (U + (Spill.cl 3 4 (frm + (data ++ dl).length) - Spill.gn 3 4 frm)) opn (tot + dl.length) * (Spill.bufX bb bp 3 4 frm (data ++ dl) * R)) rfl (S4.perm (show _ = pts y.b (hnO y) * (pts y.xb (thO fb y.t) * (X * (Spill.poolX bp 40 3 4 (held + dl.length) (U + (Spill.cl 3 4 (frm + (data ++ dl).length) - Spill.gn 3 4 frm)) opn (tot + dl.length) * (Spill.bufX bb bp 3 4 frm (data ++ dl) * R)))) by rw [Hyt.out]; unfold thO; ac_rfl)))
  rw [hup] at S5
  clear S4 HW
  go_wp2_with fail
  go_ret
  exact ⟨⟨rfl, S5.out⟩, R4.out⟩
set_option maxRecDepth 100000 in
set_option maxHeartbeats 4000000 in
theorem TRead_reader (tb fb bp hm n held U opn tot frm : Nat) (L : HL) (id : Int) (y : Hn) (bb eb : Nat) (data : List UInt8) (q : Nat) (hid : I64 id) (hy : findA L id = some y) (hyt : y.t = .reader bb eb) (hh : held ≤ 1000000000) (hdl : data.length ≤ held) (hq : q ≤ 9223372036854775807) (hf : frm + data.length + 100000 ≤ 1000000000) (hU : U ≤ 1000000000) (htot : tot ≤ 1000000000) (w : World) (R : Hp)
    (h : Sat w (tabHp tb fb bp hm L n * (Spill.poolX bp 40 3 4 held (U + (Spill.cl 3 4 (frm + data.length) - Spill.gn 3 4 frm)) opn tot * (Spill.bufX bb bp 3 4 frm data * R)))) :
    Calls Tryz.prog 70 #[pp tb, .int .i64 id, .int .i64 q] w fun e w' => (e = .returned (.tuple #[.string ⟨(data.take (min q data.length)).toArray⟩, .int .i64 0]) ∧ Sat w' (tabHp tb fb bp hm L n * (Spill.poolX bp 40 3 4 (held - min q data.length) (U + (Spill.cl 3 4 (frm + data.length) - Spill.gn 3 4 (frm + min q data.length))) opn tot * (Spill.bufX bb bp 3 4 (frm + min q data.length) (data.drop (min q data.length)) * R)))) ∧ Ran w w' := by
  have HGt := get_calls tb fb bp hm n L id hid w _ h
  unfold getE at HGt
  rw [show hblk L id = some y.b by unfold hblk; rw [hy]; rfl, hy] at HGt
  unfold pv at HGt
  have HGt := Lib.hid HGt
  obtain ⟨X, S1, back⟩ := tab_node h hy
  obtain ⟨d0, d1⟩ := hn_cells S1
  have hup : updA L id y = L := updA_same L id y hy
  rw [hyt] at S1 d1
  unfold thT at d1
  unfold thO at S1
  have hmi := meth_reader_info y.xb
  have hmw2 := meth_reader_read y.xb
  have S2 := S1.perm (show _ = pts y.xb (rdO bb eb) * (Spill.bufX bb bp 3 4 frm data * (Spill.poolX bp 40 3 4 held (U + (Spill.cl 3 4 (frm + data.length) - Spill.gn 3 4 frm)) opn tot * (X * R * pts y.b (hnO y)))) by ac_rfl)
  have HIn := Lib.hid (rinfo_calls y.xb bb eb bp frm data (by omega) w _ S2)
  have S2 := Lib.hid S2
  have hf1 := field_mode 4 0 (data.length : Int) 0 true false false
  have hf2 := field_r true false false
  have Back := Lib.hid back
  have Hyt := Lib.hid hyt
  have hq0 : (0 : Int) ≤ (q : Int) := by omega
  clear h S1 back hyt hy
  go_enter Tryz.func70, Tryz.ntmps70
  go_wp2_with fail
  refine HGt.out.mono ?_
  rintro e w1 ⟨rfl, rfl⟩
  go_wp2_with fail
  refine HIn.out.mono ?_
  rintro e w1 ⟨rfl, hB⟩
  have S3 := S2.out.below hB
  have R3 := Lib.hid (below_ran hB)
  obtain ⟨e0, e1⟩ := hn_cells (S3.perm (show _ = pts y.b (hnO y) * (pts y.xb (rdO bb eb) * (Spill.bufX bb bp 3 4 frm data * (Spill.poolX bp 40 3 4 held (U + (Spill.cl 3 4 (frm + data.length) - Spill.gn 3 4 frm)) opn tot * (X * R)))) by ac_rfl))
  rw [Hyt.out] at e1
  unfold thT at e1
  have HW := Lib.hid (rread_calls y.xb bb eb bp held U opn tot frm q data hh hdl (by omega) hU htot hq w1 (X * R * pts y.b (hnO y)) (S3.perm (by ac_rfl)))
  clear hB HIn HGt d0 d1 S3 S2
  go_wp2_with fail
  refine HW.out.mono ?_
  rintro e w2 ⟨⟨rfl, S4⟩, R4⟩
  have R4 := Lib.hid (Below.trans R3.out R4)
  have S5 := Lib.hid (Back.out w2 y (Spill.poolX bp 40 3 4 (held - min q data.length) (U + (Spill.cl 3 4 (frm + data.length) - Spill.gn 3 4 (frm + min q data.length))) opn tot * (Spill.bufX bb bp 3 4 (frm + min q data.length) (data.drop (min q data.length)) * R)) rfl (S4.perm (show _ = pts y.b (hnO y) * (pts y.xb (thO fb y.t) * (X * (Spill.poolX bp 40 3 4 (held - min q data.length) (U + (Spill.cl 3 4 (frm + data.length) - Spill.gn 3 4 (frm + min q data.length))) opn tot * (Spill.bufX bb bp 3 4 (frm + min q data.length) (data.drop (min q data.length)) * R)))) by rw [Hyt.out]; unfold thO; ac_rfl)))
  rw [hup] at S5
  clear S4 HW
  go_wp2_with fail
  go_ret2
  exact ⟨⟨rfl, S5.out⟩, R4.out⟩
end Go.Proofs.YteienbdbhnikbaaGreatDoor.Hd

namespace Go.Proofs.YteienbdbhnikbaaGreatDoor.Hd
open Go.RowKit Go.Maps Go.Proofs.YteienbdbhnikbaaGreatDoor Go.Proofs.YteienbdbhnikbaaGreatDoor.Hp
set_option linter.unusedVariables false
attribute [local go_sem] Oper.semAt_some

end Go.Proofs.YteienbdbhnikbaaGreatDoor.Hd

namespace Go.Proofs.YteienbdbhnikbaaGreatDoor.Hd
open Go.RowKit Go.Maps Go.Proofs.YteienbdbhnikbaaGreatDoor Go.Proofs.YteienbdbhnikbaaGreatDoor.Hp
set_option linter.unusedVariables false
attribute [local go_sem] Oper.semAt_some

abbrev txO (s : ByteArray) (a : Int) : Obj := .cells #[.string s, .int .i64 a] 134 (0, 0)
theorem tx_cells {w : World} {b : Nat} {s : ByteArray} {a : Int} {S : Hp} (h : Sat w (pts b (txO s a) * S)) : w.cell? ⟨b, 0, none⟩ = some (.string s) ∧ w.cell? ⟨b, 1, none⟩ = some (.int .i64 a) := by
  have hb := h.get
  refine ⟨?_, ?_⟩ <;> rw [cell_at hb] <;> rfl
set_option maxRecDepth 100000 in
set_option maxHeartbeats 4000000 in
theorem tinfo_calls (xb : Nat) (s : ByteArray) (a : Int) (w : World) (R : Hp) (h : Sat w (pts xb (txO s a) * R)) :
    Calls Tryz.prog 153 #[pp xb] w fun e w' => e = .returned (inV 2 0 a 0 ⟨true, false, false⟩) ∧ Below w.heap.size w w' := by
  have D3 := (h.alloc (inO 0 0 0 0 ⟨false, false, false⟩)).perm (show _ = pts xb (txO s a) * (pts w.heap.size (inO 0 0 0 0 ⟨false, false, false⟩) * R) by ac_rfl)
  obtain ⟨d0, d1⟩ := tx_cells D3
  obtain ⟨r0, r1, r2, r3, r4, r5, r6⟩ := in_cells (h.alloc (inO 2 0 a 0 ⟨true, false, false⟩))
  have HB3 := Lib.hid ((Below.refl w.heap.size w).alloc (Nat.le_refl _) (inO 2 0 a 0 ⟨true, false, false⟩))
  clear h D3
  go_enter Tryz.func153, Tryz.ntmps153
  go_wp2_with fail
  exact bodyPost_ret (v := inV 2 0 a 0 ⟨true, false, false⟩) (by simp [results, Tryz.results153, go_sem, r0, r1, r2, r3, r4, r5, r6]) rfl ⟨rfl, HB3.out⟩
set_option maxRecDepth 100000 in
set_option maxHeartbeats 4000000 in
theorem Text_calls (tb fb pb hm n : Nat) (L : HL) (s : ByteArray) (g : Nat) (hs : s.size ≤ 1048576) (hg : Free L g) (hn : n ≤ 1000000) (w : World) (R : Hp) (h : Sat w (tabHp tb fb pb hm L n * R)) :
    Calls Tryz.prog 35 #[pp tb, .string s] w fun e w' => (e = .returned (.tuple #[.int .i64 (g : Int), .int .i64 0]) ∧ ∃ hb xb, Sat w' (tabHp tb fb pb hm (((g : Int), ⟨hb, 1, xb, .text s 0⟩) :: L) (n + 1) * R)) ∧ Ran w w' := by
  have HA := Lib.hid (add_calls tb fb pb hm n L (.text s 0) w.heap.size g hg hn _ _ ((h.alloc (txO s 0)).perm (show pts w.heap.size (thO fb (.text s 0)) * _ = tabHp tb fb pb hm L n * (pts w.heap.size (thO fb (.text s 0)) * R) by ac_rfl)))
  have R1 := Lib.hid (Ran.new (Below.refl 0 w) (txO s 0))
  have hsI : (s.size : Int) ≤ 1048576 := by omega
  clear h
  go_enter Tryz.func35, Tryz.ntmps35
  go_wp2_with fail
  refine HA.out.mono ?_
  rintro e w1 ⟨⟨rfl, hb, S2⟩, R2⟩
  have S2 := Lib.hid S2
  have R2 := Lib.hid (Below.trans R1.out R2)
  clear HA R1
  go_wp2_with fail
  go_ret2
  exact ⟨⟨rfl, hb, w.heap.size, S2.out⟩, R2.out⟩
end Go.Proofs.YteienbdbhnikbaaGreatDoor.Hd

namespace Go.Proofs.YteienbdbhnikbaaGreatDoor.Hd
open Go.RowKit Go.Maps Go.Proofs.YteienbdbhnikbaaGreatDoor Go.Proofs.YteienbdbhnikbaaGreatDoor.Hp
set_option linter.unusedVariables false
attribute [local go_sem] Oper.semAt_some

abbrev bs (s : ByteArray) : List UInt8 := s.data.toList
theorem bs_length (s : ByteArray) : (bs s).length = s.size := Array.length_toList
theorem infoU8 : (Tryz.prog.info? 5).map (fun i => (i.zero, i.size, i.bytes)) = some (some (.int .u8 0), 1, 1) := by kernel_rfl
theorem infoBld : (Tryz.prog.info? 139).map (fun i => i.size) = some 2 := by kernel_rfl
theorem info_size {T : TypeId} {n : Nat} (h : (Tryz.prog.info? T).map (fun i => i.size) = some n) : ∃ i, Tryz.prog.info? T = some i ∧ i.size = n := by
  cases e : Tryz.prog.info? T with
  | none => rw [e] at h; cases h
  | some i => rw [e] at h; exact ⟨i, rfl, by simpa using h⟩
theorem byteCells_app (l : List UInt8) (s : ByteArray) : Lib.byteCells (l ++ bs s) = Lib.byteCells l ++ byteCells s := by unfold Lib.byteCells byteCells; rw [List.map_append]
/-- A builder's bytes: its first z cells may be frozen. -/
def bufHp (q : Option Addr) (cap : Nat) (l : List UInt8) : Hp := match q with
  | none => fact (cap = 0 ∧ l = [])
  | some a => ex fun cur : Array Value => ex fun z : Nat => fact (a = ⟨a.block, 0, none⟩ ∧ l ≠ [] ∧ l.length ≤ cap ∧ cap ≤ maxLen ∧ cap ≤ cur.size ∧ z ≤ l.length ∧ ∀ j, j < l.length → cur[j]? = (Lib.byteCells l)[j]?) * pts a.block (.cells cur 5 (0, z))
section
variable {w : World} {R : Hp} {cap : Nat} {l : List UInt8}
theorem buf_none (h : Sat w (bufHp none cap l * R)) : cap = 0 ∧ l = [] ∧ Sat w R := by
  obtain ⟨⟨h1, h2⟩, h3⟩ := Sat.fact_out (φ := cap = 0 ∧ l = []) h
  exact ⟨h1, h2, h3⟩
theorem buf_some {a : Addr} (h : Sat w (bufHp (some a) cap l * R)) :
    ∃ (g : Nat) (cur : Array Value) (z : Nat), a = ⟨g, 0, none⟩ ∧ l ≠ [] ∧ l.length ≤ cap ∧ cap ≤ maxLen ∧ cap ≤ cur.size ∧ z ≤ l.length ∧ (∀ j, j < l.length → cur[j]? = (Lib.byteCells l)[j]?) ∧ Sat w (pts g (.cells cur 5 (0, z)) * R) := by
  obtain ⟨cur, h⟩ := Sat.ex_out h
  obtain ⟨z, h⟩ := Sat.ex_out h
  rw [sep_assoc] at h
  obtain ⟨⟨h1, h2, h3, h4, h5, h6, h7⟩, h⟩ := h.fact_out
  exact ⟨a.block, cur, z, h1, h2, h3, h4, h5, h6, h7, h⟩
theorem buf_mk {g : Nat} {cur : Array Value} {z : Nat} (h2 : l ≠ []) (h3 : l.length ≤ cap) (h4 : cap ≤ maxLen) (h5 : cap ≤ cur.size) (h6 : z ≤ l.length) (h7 : ∀ j, j < l.length → cur[j]? = (Lib.byteCells l)[j]?) (h : Sat w (pts g (.cells cur 5 (0, z)) * R)) :
    Sat w (bufHp (some ⟨g, 0, none⟩) cap l * R) := by
  refine Sat.ex_in cur (Sat.ex_in z ?_)
  rw [sep_assoc]
  exact h.fact_in ⟨rfl, h2, h3, h4, h5, h6, h7⟩
theorem buf_start (h : Sat w R) : Sat w (bufHp none 0 [] * R) := h.fact_in ⟨rfl, rfl⟩
end
theorem free_from {w : World} {b z : Nat} {cs : Array Value} {T : TypeId} (h : w.heap[b]? = some (.cells cs T (0, z))) (i : Nat) (hi : z ≤ i) : w.frozen? ⟨b, i, none⟩ = false := by
  simp [World.frozen?, h]
  omega
/-- A text is appended to a builder's bytes. -/
theorem app_buf {w : World} {R : Hp} (ty : TypeId) (q : Option Addr) (cap : Nat) (l : List UInt8) (s : ByteArray) (h : Sat w (bufHp q cap l * R)) (hl : l.length + s.size ≤ 1000000000) :
    ∃ q' cap' w', (Builtin.append_ #[137, 9] ty #[.slice q l.length cap, .string s]).run Tryz.prog w = .ok (.slice q' (l.length + s.size) cap') w' ∧ Sat w' (bufHp q' cap' (l ++ bs s) * R) ∧ Ran w w' := by
  obtain ⟨i, hi, hz, hsz, hby⟩ := info_parts infoU8
  have hs : Src Tryz.prog i.size 9 (.string s) s.size (byteCells s) w := by rw [hsz]; exact Src.ofString (P := Tryz.prog) w Tryz.underlying9 s
  have hsl : (byteCells s).length = s.size := by have := hs.newsLen; rwa [hsz, Nat.mul_one] at this
  have hm63 : l.length + s.size ≤ maxLen := by unfold maxLen; omega
  cases q with
  | none =>
    obtain ⟨rfl, rfl, hR⟩ := buf_none h
    by_cases h0 : s.size = 0
    · have hb0 : bs s = [] := List.eq_nil_of_length_eq_zero (by rw [bs_length]; exact h0)
      have hc0 : byteCells s = [] := List.eq_nil_of_length_eq_zero (by rw [hsl]; exact h0)
      refine ⟨none, 0, w, ?_, by rw [hb0]; exact h, Below.refl _ _⟩
      rw [hc0] at hs
      have hlen := hs.len
      rw [h0] at hs hlen ⊢
      rcases hs.kind with ⟨e', hk⟩ | hk <;> simp [Builtin.append_, run_underlying Tryz.underlying137, run_underlying hk, sizeOf, typeInfo, hi, hs.len, hs.cells]
    · have hold : (Builtin.firstCells i.size 0 (.slice none 0 0)).run Tryz.prog w.drew = .ok ([] : List Value).toArray w.drew := run_firstCells_none w.drew i.size 0 0 0
      have hfit : Builtin.nextslicecap (0 + s.size) 0 * i.bytes ≤ 281474976710656 := by rw [hby]; exact growslice_fits (by omega) (by simp at hl ⊢; omega)
      have hrun := run_append_grow_src (P := Tryz.prog) w 137 9 ty 5 i _ Tryz.underlying137 hi hz none 0 0 [] hold (.string s) s.size _ hs (by omega) (by simp at hl ⊢; omega) hfit
      refine ⟨_, _, _, hrun, ?_, Ran.new (Below.drew (Below.refl _ _)) _⟩
      have hge := grownCap_ge w (0 + s.size) 0 5
      refine buf_mk (z := 0) (fun e => h0 (by have := congrArg List.length e; rw [List.nil_append, bs_length] at this; simpa using this)) (by rw [List.nil_append, bs_length]; omega) (grownCap_le_maxLen w (0 + s.size) 0 5 (by simpa using hm63)) ?_ (Nat.zero_le _) (fun j hj => ?_) (Sat.alloc (w := w.drew) hR.drew _)
      · simp only [Array.size_append, List.size_toArray, List.length_append, size_zeroCells, List.length_nil, hsl]
        show _ ≤ 0 + s.size + _ * 1
        omega
      · rw [List.nil_append, bs_length] at hj
        rw [Array.getElem?_append_left (by simp [hsl]; exact hj)]
        rw [byteCells_app [] s]; simp [Lib.byteCells]
  | some a =>
    obtain ⟨g, cur, z, rfl, hne, hlc, hcm, hcs, hzl, hcell, hg⟩ := buf_some h
    have hgg := hg.get
    by_cases hr : l.length + s.size ≤ cap
    · have hrun := run_append_room_src (P := Tryz.prog) w 137 9 ty 5 i Tryz.underlying137 hi g 0 l.length cap (.string s) s.size _ hs hr
        (fun j hj => by rw [cell_at hgg, hsz]; rw [hsl] at hj; have : 0 + l.length * 1 + j < cur.size := by omega
                        simp at this; simp [this]) (fun j hj => free_from hgg _ (by rw [hsz]; omega))
      obtain ⟨⟨cur', g1, g2, g3⟩, g4, g5⟩ := heap_setCells g (byteCells s) (0 + l.length * i.size) w cur 5 (0, z) hgg (by rw [hsz, hsl]; omega)
      refine ⟨_, _, _, hrun, buf_mk (cur := cur') (z := z) (by simp [hne]) (by rw [List.length_append, bs_length]; exact hr) hcm (by omega) (by rw [List.length_append]; omega) (fun j hj => ?_) (hg.put g1 fun k _ hk => g4 k hk), g5⟩
      rw [List.length_append, bs_length] at hj
      rw [g3, byteCells_app, hsz]
      by_cases hj' : j < l.length
      · rw [if_neg (by omega), hcell j hj', List.getElem?_append_left (by rw [Lib.byteCells_length]; exact hj')]
      · rw [if_pos (by rw [hsl]; omega), List.getElem?_append_right (by rw [Lib.byteCells_length]; omega), Lib.byteCells_length, Nat.mul_one, Nat.zero_add]
    · have hold : (Builtin.firstCells i.size l.length (.slice (some ⟨g, 0, none⟩) l.length cap)).run Tryz.prog w.drew = .ok (Lib.byteCells l).toArray w.drew := by
        refine run_firstCells_some w.drew i.size l.length ⟨g, 0, none⟩ l.length cap (Lib.byteCells l) (by rw [Lib.byteCells_length, hsz, Nat.mul_one]) fun j v hj => ?_
        have hj' : j < l.length := by have := (List.getElem?_eq_some_iff.1 hj).1; rwa [Lib.byteCells_length] at this
        rw [Addr.add_lit, Nat.zero_add]
        show w.cell? _ = _
        rw [cell_at hgg, hcell j hj']; exact hj
      have hfit : Builtin.nextslicecap (l.length + s.size) cap * i.bytes ≤ 281474976710656 := by rw [hby]; exact growslice_fits (by omega) (by omega)
      have hrun := run_append_grow_src (P := Tryz.prog) w 137 9 ty 5 i _ Tryz.underlying137 hi hz (some ⟨g, 0, none⟩) l.length cap _ hold (.string s) s.size _ hs (by omega) (by omega) hfit
      refine ⟨_, _, _, hrun, ?_, Ran.new (Below.drew (Below.refl _ _)) _⟩
      have hge := grownCap_ge w (l.length + s.size) cap 5
      refine buf_mk (z := 0) (by simp [hne]) (by rw [List.length_append, bs_length]; omega) (grownCap_le_maxLen w (l.length + s.size) cap 5 hm63) ?_ (Nat.zero_le _) (fun j hj => ?_) (Sat.alloc (w := w.drew) hg.right.drew _)
      · simp only [Array.size_append, List.size_toArray, List.length_append, size_zeroCells, Lib.byteCells_length, hsl]
        show _ ≤ l.length + s.size + _ * 1
        omega
      · rw [List.length_append, bs_length] at hj
        rw [Array.getElem?_append_left (by simp [hsl, Lib.byteCells_length]; exact hj), byteCells_app]
        simp
theorem bapp {w : World} {H : Hp} {ops : Array Oper} {rest : List Oper} {o : Oper} {a : Act} {Q : Exit → Act → World → Prop} (hgd : o.guard = none) (s x : Operand)
    (ho : o.op = .call { callee := .builtin .append, args := #[s, x], argTypes := #[137, 9] })
    (q : Option Addr) (cap : Nat) (l : List UInt8) (d : ByteArray) (n m : Nat) (hn : l.length = n) (hm : d.size = m) (hp : a.eval s = .slice q n cap) (hvx : a.eval x = .string d) (h : Sat w (bufHp q cap l * H)) (hl : l.length + d.size ≤ 1000000000)
    (hk : ∀ q' cap' w', Sat w' (bufHp q' cap' (l ++ bs d) * H) → Ran w w' → wpList Tryz.prog ops Q rest (a.put o.dst (.slice q' (n + m) cap')) w') : wpList Tryz.prog ops Q (o :: rest) a w := by
  subst hn; subst hm
  refine wpList_plain hgd fun _ hK => ?_
  obtain ⟨q', cap', w', hr, h1, h2⟩ := app_buf o.type q cap l d h hl
  unfold Oper.wp execOp
  simp only [ho, resolve, invoke, builtin, Sem.run_bind, Sem.run_pure, Result.andThen_ok, List.map_toArray, List.map_cons, List.map_nil, hp, hvx, hr]
  exact hK _ _ (hk q' cap' w' h1 h2)
abbrev skO (sp q : Option Addr) (n cap : Nat) (most : Int) : Obj := .cells #[.pointer sp, .slice q n cap, .int .i64 most] 141 (0, 0)
theorem sk_cells {w : World} {b : Nat} {sp q : Option Addr} {n cap : Nat} {most : Int} {S : Hp} (h : Sat w (pts b (skO sp q n cap most) * S)) : w.cell? ⟨b, 0, none⟩ = some (.pointer sp) ∧ w.cell? ⟨b, 1, none⟩ = some (.slice q n cap) ∧ w.cell? ⟨b, 2, none⟩ = some (.int .i64 most) := by
  have hb := h.get
  refine ⟨?_, ?_, ?_⟩ <;> rw [cell_at hb] <;> rfl
theorem blen_calls (xb : Nat) (sp q : Option Addr) (n cap : Nat) (most : Int) (w : World) (S : Hp) (h : Sat w (pts xb (skO sp q n cap most) * S)) :
    Calls Tryz.prog 160 #[pp xb] w fun e w' => e = .returned (.int .i64 (n : Int)) ∧ w = w' := by
  obtain ⟨c0, c1, c2⟩ := sk_cells h
  clear h
  go_enter Tryz.func160, Tryz.ntmps160
  go_wp2_with fail
  go_ret
  exact ⟨rfl, rfl⟩
/-- The builder's own address, or nothing yet. -/
def SpOk (sp : Option Addr) (xb : Nat) : Prop := sp = none ∨ sp = some ⟨xb, 0, none⟩
set_option maxRecDepth 100000 in
set_option maxHeartbeats 2000000 in
theorem copycheck_calls (xb : Nat) (sp q : Option Addr) (n cap : Nat) (most : Int) (hsp : SpOk sp xb) (w : World) (S : Hp) (h : Sat w (pts xb (skO sp q n cap most) * S)) :
    Calls Tryz.prog 163 #[pp xb] w fun e w' => (e = .returned (.tuple #[]) ∧ Sat w' (pts xb (skO (some ⟨xb, 0, none⟩) q n cap most) * S)) ∧ Ran w w' := by
  obtain ⟨i0, hi, hsz⟩ := info_size infoBld
  obtain ⟨c0, c1, c2⟩ := sk_cells h
  rcases hsp with rfl | rfl
  · have cz : ∀ i, w.frozen? ⟨xb, i, none⟩ = false := fun i => free_at h.get i
    have hsh : w.shape? xb = some (141, 3) := by simp [World.shape?, h.get]
    have H := Lib.hid h
    clear h c1 c2
    go_enter Tryz.func163, Tryz.ntmps163
    go_wp2_with fail
    rw [Lib.run_to_unsafe w ⟨xb, 0, none⟩ Tryz.underlying136 Tryz.underlying233 hi (by rw [hsz]; decide) hsh (by show 0 < 3; decide)]
    simp only [Result.andThen]
    rw [Oper.upon_value]
    go_wp2_with fail
    rw [run_callFunc_extern Tryz.func164 (by kernel_rfl) (by kernel_rfl) (by kernel_rfl) (e := Extern.AbiNoEscape.same) (by kernel_rfl)]
    rw [Lib.run_noEscape]
    simp only [Result.andThen]
    rw [Oper.upon_value]
    go_wp2_with fail
    rw [Lib.run_from_unsafe w ⟨xb, 0, none⟩ Tryz.underlying233 Tryz.underlying136 hi hsh (by kernel_rfl)]
    simp only [Result.andThen]
    rw [Oper.upon_value]
    go_wp2_with fail
    go_end0
    exact ⟨⟨rfl, H.out.set (i := 0) (.pointer (some ⟨xb, 0, none⟩))⟩, Ran.set (Below.refl 0 w) _ _⟩
  · have H := Lib.hid h
    clear h c1 c2
    have hq := fun W => Lib.run_neq_ptr_same (P := Tryz.prog) W ⟨xb, 0, none⟩ Tryz.underlying136 hi
    go_enter Tryz.func163, Tryz.ntmps163
    go_wp2_with fail
    go_end0
    exact ⟨⟨rfl, H.out⟩, Below.refl 0 w⟩
set_option maxRecDepth 100000 in
set_option maxHeartbeats 2000000 in
theorem bwrite_calls (xb : Nat) (sp q : Option Addr) (cap : Nat) (l : List UInt8) (most : Int) (d : ByteArray) (hsp : SpOk sp xb) (hl : l.length + d.size ≤ 1000000000) (w : World) (S : Hp) (h : Sat w (pts xb (skO sp q l.length cap most) * (bufHp q cap l * S))) :
    Calls Tryz.prog 162 #[pp xb, .string d] w fun e w' => (e = .returned (.tuple #[.int .i64 (d.size : Int), .nilIface]) ∧ ∃ q' cap', Sat w' (pts xb (skO (some ⟨xb, 0, none⟩) q' (l ++ bs d).length cap' most) * (bufHp q' cap' (l ++ bs d) * S))) ∧ Ran w w' := by
  have hcc := Lib.hid (copycheck_calls xb sp q l.length cap most hsp w _ h)
  have Hl := Lib.hid hl
  clear h hl hsp
  go_enter Tryz.func162, Tryz.ntmps162
  go_wp2_with fail
  refine hcc.out.mono ?_
  rintro e w1 ⟨⟨rfl, H1⟩, R1⟩
  obtain ⟨c0, c1, c2⟩ := sk_cells H1
  obtain ⟨nl, hnl⟩ : ∃ n, n = l.length := ⟨_, rfl⟩
  have HSB := H1.perm (show _ = bufHp q cap l * (pts xb (skO (some ⟨xb, 0, none⟩) q nl cap most) * S) by rw [hnl]; ac_rfl)
  rw [← hnl] at c1
  have Hnl := Lib.hid hnl
  clear H1 hcc hnl
  obtain ⟨m, hm⟩ : ∃ m, m = d.size := ⟨_, rfl⟩
  have Hm := Lib.hid hm
  clear hm
  go_wp2_with (at_builtin; go_loud (refine bapp rfl _ _ rfl q cap l d nl m Hnl.out.symm Hm.out.symm rfl rfl HSB Hl.out ?_; intro q' cap' w6 T6 R6; clear HSB c0 c1 c2; have T7 := T6.perm (show _ = pts xb (skO (some ⟨xb, 0, none⟩) q nl cap most) * (bufHp q' cap' (l ++ bs d) * S) by ac_rfl); obtain ⟨c0, c1, c2⟩ := sk_cells T7; have cz : ∀ i, w6.frozen? ⟨xb, i, none⟩ = false := fun i => free_at T7.get i))
  go_ret2
  refine ⟨⟨rfl, q', cap', ?_⟩, Ran.set (Below.trans R1 R6) _ _⟩
  have e1 : (l ++ bs d).length = nl + m := by rw [List.length_append, Hnl.out, Hm.out, bs_length]
  rw [e1]
  exact T7.set (i := 1) (.slice q' (nl + m) cap')
end Go.Proofs.YteienbdbhnikbaaGreatDoor.Hd

namespace Go.Proofs.YteienbdbhnikbaaGreatDoor.Hd
open Go.RowKit Go.Maps Go.Proofs.YteienbdbhnikbaaGreatDoor Go.Proofs.YteienbdbhnikbaaGreatDoor.Hp
set_option linter.unusedVariables false
attribute [local go_sem] Oper.semAt_some

set_option maxRecDepth 100000 in
set_option maxHeartbeats 4000000 in
theorem sinfo_calls (xb : Nat) (sp q : Option Addr) (n cap : Nat) (most : Int) (w : World) (R : Hp) (h : Sat w (pts xb (skO sp q n cap most) * R)) :
    Calls Tryz.prog 157 #[pp xb] w fun e w' => e = .returned (inV 3 0 (n : Int) 0 ⟨false, true, false⟩) ∧ Below w.heap.size w w' := by
  have S1 := h.alloc (inO 0 0 0 0 ⟨false, false, false⟩)
  obtain ⟨d0, d1, d2⟩ := sk_cells (S1.perm (show _ = pts xb (skO sp q n cap most) * (pts w.heap.size (inO 0 0 0 0 ⟨false, false, false⟩) * R) by ac_rfl))
  have HL := Lib.hid (blen_calls xb sp q n cap most _ _ (S1.perm (show _ = pts xb (skO sp q n cap most) * (pts w.heap.size (inO 0 0 0 0 ⟨false, false, false⟩) * R) by ac_rfl)))
  have S1 := Lib.hid S1
  clear h
  go_enter Tryz.func157, Tryz.ntmps157
  go_wp2_with fail
  refine HL.out.mono ?_
  rintro e w1 ⟨rfl, hw1⟩
  have S2 : Sat w1 (pts w.heap.size (inO 0 0 0 0 ⟨false, false, false⟩) * (pts xb (skO sp q n cap most) * R)) := by rw [← hw1]; exact S1.out.perm (by ac_rfl)
  have hB : Below w.heap.size w w1 := by rw [← hw1]; exact (Below.refl w.heap.size w).alloc (Nat.le_refl _) _
  obtain ⟨z0, z1, z2, z3, z4, z5, z6⟩ := in_cells S2
  have f0 : ∀ i, w1.frozen? ⟨w.heap.size, i, none⟩ = false := fun i => free_at S2.get i
  have S3 := ((((((S2.set (i := 0) (.int .i64 3)).set (i := 1) (.int .i64 0)).set (i := 2) (.int .i64 (n : Int))).set (i := 3) (.int .i64 0)).set (i := 4) (.bool false)).set (i := 5) (.bool true)).set (i := 6) (.bool false)
  obtain ⟨r0, r1, r2, r3, r4, r5, r6⟩ := in_cells (k := 3) (rf := 0) (a := (n : Int)) (n := 0) (m := ⟨false, true, false⟩) S3
  have HB := Lib.hid (((((((hB.setCell (Nat.le_refl _) (p := ⟨w.heap.size, 0, none⟩) (.int .i64 3)).setCell (Nat.le_refl _) (p := ⟨w.heap.size, 1, none⟩) (.int .i64 0)).setCell (Nat.le_refl _) (p := ⟨w.heap.size, 2, none⟩) (.int .i64 (n : Int))).setCell (Nat.le_refl _) (p := ⟨w.heap.size, 3, none⟩) (.int .i64 0)).setCell (Nat.le_refl _) (p := ⟨w.heap.size, 4, none⟩) (.bool false)).setCell (Nat.le_refl _) (p := ⟨w.heap.size, 5, none⟩) (.bool true)).setCell (Nat.le_refl _) (p := ⟨w.heap.size, 6, none⟩) (.bool false))
  dsimp only at z4 z5 z6 r4 r5 r6
  clear hw1 S1 S2 S3 hB HL d0 d1 d2
  go_wp2_with fail
  exact bodyPost_ret (v := inV 3 0 (n : Int) 0 ⟨false, true, false⟩) (by simp [results, Tryz.results157, go_sem, r0, r1, r2, r3, r4, r5, r6]) rfl ⟨rfl, HB.out⟩
/-- What a sink's write answers. -/
def skE (n most d : Nat) : Int := if n + d ≤ most then 0 else 15
def skL (l : List UInt8) (most : Nat) (d : ByteArray) : List UInt8 := if l.length + d.size ≤ most then l ++ bs d else l
def SkPost (xb : Nat) (most : Int) (l : List UInt8) (S : Hp) (w' : World) : Prop := ∃ sp q cap, SpOk sp xb ∧ Sat w' (pts xb (skO sp q l.length cap most) * (bufHp q cap l * S))
set_option maxRecDepth 100000 in
set_option maxHeartbeats 4000000 in
theorem swrite_calls (xb : Nat) (sp q : Option Addr) (cap : Nat) (l : List UInt8) (most : Nat) (d : ByteArray) (hsp : SpOk sp xb) (hl : l.length ≤ most) (hm : most ≤ 1048576) (hd : d.size ≤ 1000000) (w : World) (S : Hp) (h : Sat w (pts xb (skO sp q l.length cap most) * (bufHp q cap l * S))) :
    Calls Tryz.prog 159 #[pp xb, .string d] w fun e w' => (e = .returned (.int .i64 (skE l.length most d.size)) ∧ SkPost xb most (skL l most d) S w') ∧ Ran w w' := by
  have HL := Lib.hid (blen_calls xb sp q l.length cap most w.drew _ h.drew)
  obtain ⟨c0, c1, c2⟩ := sk_cells h.drew
  have HW := Lib.hid (bwrite_calls xb sp q cap l most d hsp (by omega) w.drew S h.drew)
  have H := Lib.hid (And.intro hsp h.drew)
  have hmI : (most : Int) ≤ 1048576 := by omega
  have hlI : (l.length : Int) ≤ most := by omega
  have hdI : (d.size : Int) ≤ 1000000 := by omega
  have h0 : (0 : Int) ≤ (l.length : Int) := by omega
  clear h hsp
  unfold skE skL
  by_cases hr : l.length + d.size ≤ most
  · have hrI : (d.size : Int) ≤ (most : Int) - (l.length : Int) := by omega
    rw [if_pos hr, if_pos hr]
    clear hr hm hl hd
    obtain ⟨n, hn⟩ : ∃ n, n = l.length := ⟨_, rfl⟩
    rw [← hn] at HL c1 hlI h0 hrI
    clear hn
    have hwr : IntKind.i64.wrap ((most : Int) - (n : Int)) = (most : Int) - (n : Int) := IntWalk.i64_in _ (by omega)
    go_enter Tryz.func159, Tryz.ntmps159
    go_wp2_with fail
    refine region_plan (S := (fun w' => w'.cell? ⟨xb, 2, none⟩ = some (.int .i64 (most : Int)))) [(0, true), (1, true), (2, true), (3, true), (4, true), (5, true), (6, true), (7, true), (8, true), (9, false), (10, true), (11, true)] (by kernel_rfl) (by kernel_rfl) (by kernel_rfl) ?_ ?_
    · ((try dsimp only); (first | done | (exact c2)))
    simp only [planOps, List.map_cons, List.map_nil, List.getElem?_toArray, List.getElem?_cons_zero, List.getElem?_cons_succ]
    repeat (first
      | ((refine plan_yes (v := ?_) (by rfl) ?_ ?_); rotate_left; (focus (intro w hSw; (try dsimp only at hSw); go_simp; try (with_reducible rfl))); (try simp only [Act.put, List.setIfInBounds_toArray, List.set_cons_zero, List.set_cons_succ]))
      | ((refine plan_no (by rfl) ?_); (try simp only [Act.put, List.setIfInBounds_toArray, List.set_cons_zero, List.set_cons_succ]))
      | ((refine plan_step (fun K hK => ?_)); (first | (go_simp; ((go_at_call 160; refine HL.out.mono ?_; rintro e w5 ⟨rfl, rfl⟩)); (try go_wp2_with fail)) | go_simp); (refine hK.out _ _ ?_ (fun hHeld => ?_)); (focus ((try dsimp only); (first | done | (exact c2)))); clear hK K; (try simp only [Act.put, List.setIfInBounds_toArray, List.set_cons_zero, List.set_cons_succ])))
    refine plan_done ?_
    go_wp2_with fail
    refine HW.out.mono ?_
    rintro e w2 ⟨⟨rfl, q', cap', S2⟩, R2⟩
    have S2 := Lib.hid S2
    have R2 := Lib.hid (Below.trans (Below.drew (Below.refl 0 w)) R2)
    clear HW HL
    go_wp2_with fail
    go_ret
    exact ⟨⟨rfl, _, q', cap', .inr rfl, S2.out⟩, R2.out⟩
  · have hrI : (most : Int) - (l.length : Int) < (d.size : Int) := by omega
    rw [if_neg hr, if_neg hr]
    clear hr hm hl hd HW
    have HQ : Hid (SkPost xb most l S w.drew) := Lib.hid ⟨sp, q, cap, H.out.1, H.out.2⟩
    clear H
    obtain ⟨n, hn⟩ : ∃ n, n = l.length := ⟨_, rfl⟩
    rw [← hn] at HL c1 hlI h0 hrI
    clear hn
    have hwr : IntKind.i64.wrap ((most : Int) - (n : Int)) = (most : Int) - (n : Int) := IntWalk.i64_in _ (by omega)
    go_enter Tryz.func159, Tryz.ntmps159
    go_wp2_with fail
    refine region_plan (S := (fun w' => w'.cell? ⟨xb, 2, none⟩ = some (.int .i64 (most : Int)))) [(0, true), (1, true), (2, true), (3, true), (4, true), (5, true), (6, true), (7, true), (8, true), (9, false), (10, true), (11, true)] (by kernel_rfl) (by kernel_rfl) (by kernel_rfl) ?_ ?_
    · ((try dsimp only); (first | done | (exact c2)))
    simp only [planOps, List.map_cons, List.map_nil, List.getElem?_toArray, List.getElem?_cons_zero, List.getElem?_cons_succ]
    repeat (first
      | ((refine plan_yes (v := ?_) (by rfl) ?_ ?_); rotate_left; (focus (intro w hSw; (try dsimp only at hSw); go_simp; try (with_reducible rfl))); (try simp only [Act.put, List.setIfInBounds_toArray, List.set_cons_zero, List.set_cons_succ]))
      | ((refine plan_no (by rfl) ?_); (try simp only [Act.put, List.setIfInBounds_toArray, List.set_cons_zero, List.set_cons_succ]))
      | ((refine plan_step (fun K hK => ?_)); (first | (go_simp; ((go_at_call 160; refine HL.out.mono ?_; rintro e w5 ⟨rfl, rfl⟩)); (try go_wp2_with fail)) | go_simp); (refine hK.out _ _ ?_ (fun hHeld => ?_)); (focus ((try dsimp only); (first | done | (exact c2)))); clear hK K; (try simp only [Act.put, List.setIfInBounds_toArray, List.set_cons_zero, List.set_cons_succ])))
    refine plan_done ?_
    go_wp2_with fail
    go_ret
    exact ⟨⟨rfl, HQ.out⟩, Below.drew (Below.refl 0 w)⟩
set_option maxRecDepth 100000 in
set_option maxHeartbeats 4000000 in
theorem Sink_calls (tb fb pb hm n : Nat) (L : HL) (most : Nat) (g : Nat) (hs : most ≤ 1048576) (hg : Free L g) (hn : n ≤ 1000000) (w : World) (R : Hp) (h : Sat w (tabHp tb fb pb hm L n * R)) :
    Calls Tryz.prog 36 #[pp tb, .int .i64 (most : Int)] w fun e w' => (e = .returned (.tuple #[.int .i64 (g : Int), .int .i64 0]) ∧ ∃ hb xb, Sat w' (tabHp tb fb pb hm (((g : Int), ⟨hb, 1, xb, .sink none none 0 [] most⟩) :: L) (n + 1) * (bufHp none 0 [] * R))) ∧ Ran w w' := by
  have HA := Lib.hid (add_calls tb fb pb hm n L (.sink none none 0 [] most) w.heap.size g hg hn _ _ (((buf_start h).alloc (skO none none 0 0 most)).perm (show pts w.heap.size (thO fb (.sink none none 0 [] most)) * _ = tabHp tb fb pb hm L n * (pts w.heap.size (thO fb (.sink none none 0 [] most)) * (bufHp none 0 [] * R)) by ac_rfl)))
  have R1 := Lib.hid (Ran.new (Below.refl 0 w) (skO none none 0 0 most))
  have hsI : (most : Int) ≤ 1048576 := by omega
  have hs0 : (0 : Int) ≤ (most : Int) := by omega
  clear h
  go_enter Tryz.func36, Tryz.ntmps36
  go_wp2_with fail
  refine HA.out.mono ?_
  rintro e w1 ⟨⟨rfl, hb, S2⟩, R2⟩
  have S2 := Lib.hid S2
  have R2 := Lib.hid (Below.trans R1.out R2)
  clear HA R1
  go_wp2_with fail
  go_ret2
  exact ⟨⟨rfl, hb, w.heap.size, S2.out⟩, R2.out⟩
set_option maxRecDepth 100000 in
set_option maxHeartbeats 4000000 in
theorem TWrite_sink (tb fb pb hm n : Nat) (L : HL) (id : Int) (y : Hn) (sp q : Option Addr) (cap : Nat) (l : List UInt8) (most : Nat) (d : ByteArray) (hid : I64 id) (hy : findA L id = some y) (hyt : y.t = .sink sp q cap l most) (hsp : SpOk sp y.xb) (hl : l.length ≤ most) (hmo : most ≤ 1048576) (hd : d.size ≤ 1000000) (w : World) (R : Hp)
    (h : Sat w (tabHp tb fb pb hm L n * (bufHp q cap l * R))) :
    Calls Tryz.prog 63 #[pp tb, .int .i64 id, .string d] w fun e w' => (e = .returned (.int .i64 (skE l.length most d.size)) ∧
      ∃ sp' q' cap', SpOk sp' y.xb ∧ Sat w' (tabHp tb fb pb hm (updA L id { y with t := .sink sp' q' cap' (skL l most d) most }) n * (bufHp q' cap' (skL l most d) * R))) ∧ Ran w w' := by
  have HGt := get_calls tb fb pb hm n L id hid w _ h
  unfold getE at HGt
  rw [show hblk L id = some y.b by unfold hblk; rw [hy]; rfl, hy] at HGt
  unfold pv at HGt
  have HGt := Lib.hid HGt
  obtain ⟨X, S1, back⟩ := tab_node h hy
  obtain ⟨d0, d1⟩ := hn_cells S1
  rw [hyt] at S1 d1
  unfold thT at d1
  unfold thO at S1
  have hmi := meth_sink_info y.xb
  have hmw2 := meth_sink_write y.xb
  have S2 := S1.perm (show _ = pts y.xb (skO sp q l.length cap most) * (bufHp q cap l * (X * R * pts y.b (hnO y))) by ac_rfl)
  have HIn := Lib.hid (sinfo_calls y.xb sp q l.length cap most w _ S2)
  have S2 := Lib.hid S2
  have HFW := Lib.hid (fun W hW => swrite_calls y.xb sp q cap l most d hsp hl hmo hd W (X * R * pts y.b (hnO y)) hW)
  obtain ⟨en, hen⟩ : ∃ r, r = skE l.length most d.size := ⟨_, rfl⟩
  obtain ⟨l2, hl2⟩ : ∃ r, r = skL l most d := ⟨_, rfl⟩
  rw [← hen, ← hl2] at HFW ⊢
  have Back := Lib.hid back
  have Hyt := Lib.hid hyt
  have hf1 := field_mode 3 0 (l.length : Int) 0 false true false
  have hf2 := field_w false true false
  clear h S1 back hyt hy hen hl2 hl hmo hd
  go_enter Tryz.func63, Tryz.ntmps63
  go_wp2_with fail
  refine HGt.out.mono ?_
  rintro e w1 ⟨rfl, rfl⟩
  go_wp2_with fail
  refine HIn.out.mono ?_
  rintro e w1 ⟨rfl, hB⟩
  have S3 := S2.out.below hB
  have R3 := Lib.hid (below_ran hB)
  obtain ⟨e0, e1⟩ := hn_cells (S3.perm (show _ = pts y.b (hnO y) * (pts y.xb (skO sp q l.length cap most) * (bufHp q cap l * (X * R))) by ac_rfl))
  rw [Hyt.out] at e1
  unfold thT at e1
  have HW := Lib.hid (HFW.out _ S3)
  clear hB HIn HFW HGt d0 d1 S3 S2
  go_wp2_with fail
  refine HW.out.mono ?_
  rintro e w2 ⟨⟨rfl, sp', q', cap', hsp', S4⟩, R4⟩
  have R4 := Lib.hid (Below.trans R3.out R4)
  have S5 := Lib.hid (And.intro hsp' (Back.out w2 { y with t := .sink sp' q' cap' l2 most } (bufHp q' cap' l2 * R) rfl (S4.perm (show _ = pts y.b (hnO { y with t := .sink sp' q' cap' l2 most }) * (pts y.xb (skO sp' q' l2.length cap' most) * (X * (bufHp q' cap' l2 * R))) by
    rw [show hnO { y with t := .sink sp' q' cap' l2 most } = hnO y by unfold hnO; rw [Hyt.out]; rfl]
    ac_rfl))))
  clear S4 HW hsp'
  go_wp2_with fail
  go_ret
  exact ⟨⟨rfl, sp', q', cap', S5.out.1, S5.out.2⟩, R4.out⟩
end Go.Proofs.YteienbdbhnikbaaGreatDoor.Hd

