/- HandlesPlays, part 16 of 31: the texts HdSt HdCu HdKy NdY, joined by a program. -/
import Derived.Test.YteienbdbhnikbaaGreatDoorPw12
import Derived.Test.YteienbdbhnikbaaGreatDoorPw10
import Derived.Test.YteienbdbhnikbaaGreatDoorPw8
import Derived.Test.YteienbdbhnikbaaGreatDoorPw9
import Derived.Test.YteienbdbhnikbaaGreatDoorIti
import Derived.Test.YteienbdbhnikbaaGreatDoorPw15
namespace Go.Proofs.YteienbdbhnikbaaGreatDoor.Hd
open Go.RowKit Go.Maps Go.Proofs.YteienbdbhnikbaaGreatDoor Go.Proofs.YteienbdbhnikbaaGreatDoor.Hp
set_option linter.unusedVariables false
attribute [local go_sem] Oper.semAt_some

set_option maxRecDepth 100000 in
set_option maxHeartbeats 8000000 in
theorem TStat_text (tb fb pb hm n : Nat) (L : HL) (id : Int) (y : Hn) (s : ByteArray) (a : Nat) (hid : I64 id) (hy : findA L id = some y) (hyt : y.t = .text s a) (w : World) (R : Hp)
    (h : Sat w (tabHp tb fb pb hm L n * R)) :
    Calls Tryz.prog 21 #[pp tb, .int .i64 id] w fun e w' => e = .returned (.tuple #[inV 2 y.refs a 0 ⟨false, false, false⟩, .int .i64 0]) ∧ Below w.heap.size w w' := by
  have S0 := (h.alloc (inO 0 0 0 0 ⟨false, false, false⟩)).perm (show _ = tabHp tb fb pb hm L n * (pts w.heap.size (inO 0 0 0 0 ⟨false, false, false⟩) * R) by ac_rfl)
  have hB0 := (Below.refl w.heap.size w).alloc (Nat.le_refl _) (inO 0 0 0 0 ⟨false, false, false⟩)
  have HGt := get_calls tb fb pb hm n L id hid _ _ S0
  unfold getE at HGt
  rw [show hblk L id = some y.b by unfold hblk; rw [hy]; rfl, hy] at HGt
  unfold pv at HGt
  have HGt := Lib.hid HGt
  obtain ⟨X, S1, back⟩ := tab_node S0 hy
  obtain ⟨d0, d1⟩ := hn_cells S1
  rw [hyt] at S1 d1
  unfold thT at d1
  unfold thO at S1
  have hmi := meth_text_info y.xb
  have S2 := S1.perm (show _ = pts y.xb (txO s a) * (X * (pts w.heap.size (inO 0 0 0 0 ⟨false, false, false⟩) * R) * pts y.b (hnO y)) by ac_rfl)
  have HIn := Lib.hid (tinfo_calls y.xb s a _ _ S2)
  have S2 := Lib.hid S2
  have hB0 := Lib.hid hB0
  clear h S0 S1 back hy
  go_enter Tryz.func21, Tryz.ntmps21
  go_wp2_with fail
  refine HGt.out.mono ?_
  rintro e w1 ⟨rfl, rfl⟩
  go_wp2_with fail
  refine HIn.out.mono ?_
  rintro e w1 ⟨rfl, hB⟩
  have S3 := (S2.out.below hB).alloc (inO 2 0 a 0 ⟨true, false, false⟩)
  have S4 := (S2.out.below hB).alloc (inO 2 y.refs a 0 ⟨true, false, false⟩)
  have S4z := (S2.out.below hB).alloc (inO 2 y.refs a 0 ⟨false, false, false⟩)
  obtain ⟨p0, p1⟩ := hn_cells (S3.perm (show _ = pts y.b (hnO y) * (pts w1.heap.size (inO 2 0 a 0 ⟨true, false, false⟩) * (pts y.xb (txO s a) * (X * (pts w.heap.size (inO 0 0 0 0 ⟨false, false, false⟩) * R)))) by ac_rfl))
  obtain ⟨u0, u1, u2, u3, u4, u5, u6⟩ := in_cells S4
  obtain ⟨v0, v1, v2, v3, v4, v5, v6⟩ := in_cells S4z
  have S5 := S4z.perm (show _ = pts w.heap.size (inO 0 0 0 0 ⟨false, false, false⟩) * (pts w1.heap.size (inO 2 y.refs a 0 ⟨false, false, false⟩) * (pts y.b (hnO y) * (pts y.xb (txO s a) * (X * R)))) by ac_rfl)
  obtain ⟨z0, z1, z2, z3, z4, z5, z6⟩ := in_cells S5
  have f0 : ∀ i, (w1.alloc (inO 2 y.refs a 0 ⟨false, false, false⟩)).frozen? ⟨w.heap.size, i, none⟩ = false := fun i => free_at S5.get i
  have S6 := ((((((S5.set (i := 0) (.int .i64 2)).set (i := 1) (.int .i64 y.refs)).set (i := 2) (.int .i64 a)).set (i := 3) (.int .i64 0)).set (i := 4) (.bool false)).set (i := 5) (.bool false)).set (i := 6) (.bool false)
  obtain ⟨r0, r1, r2, r3, r4, r5, r6⟩ := in_cells (k := 2) (rf := y.refs) (a := a) (n := 0) (m := ⟨false, false, false⟩) S6
  have hle : w.heap.size ≤ w1.heap.size := Nat.le_trans hB0.out.size hB.size
  have HB := Lib.hid (((((((((hB0.out.trans (hB.mono hB0.out.size)).alloc hle (inO 2 y.refs a 0 ⟨false, false, false⟩)).setCell (Nat.le_refl _) (p := ⟨w.heap.size, 0, none⟩) (.int .i64 2)).setCell (Nat.le_refl _) (p := ⟨w.heap.size, 1, none⟩) (.int .i64 y.refs)).setCell (Nat.le_refl _) (p := ⟨w.heap.size, 2, none⟩) (.int .i64 a)).setCell (Nat.le_refl _) (p := ⟨w.heap.size, 3, none⟩) (.int .i64 0)).setCell (Nat.le_refl _) (p := ⟨w.heap.size, 4, none⟩) (.bool false)).setCell (Nat.le_refl _) (p := ⟨w.heap.size, 5, none⟩) (.bool false)).setCell (Nat.le_refl _) (p := ⟨w.heap.size, 6, none⟩) (.bool false))
  dsimp only at z4 z5 z6 u4 u5 u6 v4 v5 v6 r4 r5 r6
  clear hB HIn HGt d0 d1 S3 S4 S4z S5 S6 S2 hB0 hle
  go_wp2_with fail
  refine bodyPost_ret (v := .tuple #[inV 2 y.refs a 0 ⟨false, false, false⟩, .int .i64 0]) (by simp [results, Tryz.results21, go_sem, r0, r1, r2, r3, r4, r5, r6]) rfl ⟨rfl, HB.out⟩
set_option maxRecDepth 100000 in
set_option maxHeartbeats 8000000 in
theorem TStat_sink (tb fb pb hm n : Nat) (L : HL) (id : Int) (y : Hn) (sp q : Option Addr) (cap : Nat) (l : List UInt8) (most : Nat) (hid : I64 id) (hy : findA L id = some y) (hyt : y.t = .sink sp q cap l most) (w : World) (R : Hp)
    (h : Sat w (tabHp tb fb pb hm L n * R)) :
    Calls Tryz.prog 21 #[pp tb, .int .i64 id] w fun e w' => e = .returned (.tuple #[inV 3 y.refs (l.length : Int) 0 ⟨false, false, false⟩, .int .i64 0]) ∧ Below w.heap.size w w' := by
  have S0 := (h.alloc (inO 0 0 0 0 ⟨false, false, false⟩)).perm (show _ = tabHp tb fb pb hm L n * (pts w.heap.size (inO 0 0 0 0 ⟨false, false, false⟩) * R) by ac_rfl)
  have hB0 := (Below.refl w.heap.size w).alloc (Nat.le_refl _) (inO 0 0 0 0 ⟨false, false, false⟩)
  have HGt := get_calls tb fb pb hm n L id hid _ _ S0
  unfold getE at HGt
  rw [show hblk L id = some y.b by unfold hblk; rw [hy]; rfl, hy] at HGt
  unfold pv at HGt
  have HGt := Lib.hid HGt
  obtain ⟨X, S1, back⟩ := tab_node S0 hy
  obtain ⟨d0, d1⟩ := hn_cells S1
  rw [hyt] at S1 d1
  unfold thT at d1
  unfold thO at S1
  have hmi := meth_sink_info y.xb
  have S2 := S1.perm (show _ = pts y.xb (skO sp q l.length cap most) * (X * (pts w.heap.size (inO 0 0 0 0 ⟨false, false, false⟩) * R) * pts y.b (hnO y)) by ac_rfl)
  have HIn := Lib.hid (sinfo_calls y.xb sp q l.length cap most _ _ S2)
  have S2 := Lib.hid S2
  have hB0 := Lib.hid hB0
  clear h S0 S1 back hy
  go_enter Tryz.func21, Tryz.ntmps21
  go_wp2_with fail
  refine HGt.out.mono ?_
  rintro e w1 ⟨rfl, rfl⟩
  go_wp2_with fail
  refine HIn.out.mono ?_
  rintro e w1 ⟨rfl, hB⟩
  have S3 := (S2.out.below hB).alloc (inO 3 0 (l.length : Int) 0 ⟨false, true, false⟩)
  have S4 := (S2.out.below hB).alloc (inO 3 y.refs (l.length : Int) 0 ⟨false, true, false⟩)
  have S4z := (S2.out.below hB).alloc (inO 3 y.refs (l.length : Int) 0 ⟨false, false, false⟩)
  obtain ⟨p0, p1⟩ := hn_cells (S3.perm (show _ = pts y.b (hnO y) * (pts w1.heap.size (inO 3 0 (l.length : Int) 0 ⟨false, true, false⟩) * (pts y.xb (skO sp q l.length cap most) * (X * (pts w.heap.size (inO 0 0 0 0 ⟨false, false, false⟩) * R)))) by ac_rfl))
  obtain ⟨u0, u1, u2, u3, u4, u5, u6⟩ := in_cells S4
  obtain ⟨v0, v1, v2, v3, v4, v5, v6⟩ := in_cells S4z
  have S5 := S4z.perm (show _ = pts w.heap.size (inO 0 0 0 0 ⟨false, false, false⟩) * (pts w1.heap.size (inO 3 y.refs (l.length : Int) 0 ⟨false, false, false⟩) * (pts y.b (hnO y) * (pts y.xb (skO sp q l.length cap most) * (X * R)))) by ac_rfl)
  obtain ⟨z0, z1, z2, z3, z4, z5, z6⟩ := in_cells S5
  have f0 : ∀ i, (w1.alloc (inO 3 y.refs (l.length : Int) 0 ⟨false, false, false⟩)).frozen? ⟨w.heap.size, i, none⟩ = false := fun i => free_at S5.get i
  have S6 := ((((((S5.set (i := 0) (.int .i64 3)).set (i := 1) (.int .i64 y.refs)).set (i := 2) (.int .i64 (l.length : Int))).set (i := 3) (.int .i64 0)).set (i := 4) (.bool false)).set (i := 5) (.bool false)).set (i := 6) (.bool false)
  obtain ⟨r0, r1, r2, r3, r4, r5, r6⟩ := in_cells (k := 3) (rf := y.refs) (a := (l.length : Int)) (n := 0) (m := ⟨false, false, false⟩) S6
  have hle : w.heap.size ≤ w1.heap.size := Nat.le_trans hB0.out.size hB.size
  have HB := Lib.hid (((((((((hB0.out.trans (hB.mono hB0.out.size)).alloc hle (inO 3 y.refs (l.length : Int) 0 ⟨false, false, false⟩)).setCell (Nat.le_refl _) (p := ⟨w.heap.size, 0, none⟩) (.int .i64 3)).setCell (Nat.le_refl _) (p := ⟨w.heap.size, 1, none⟩) (.int .i64 y.refs)).setCell (Nat.le_refl _) (p := ⟨w.heap.size, 2, none⟩) (.int .i64 (l.length : Int))).setCell (Nat.le_refl _) (p := ⟨w.heap.size, 3, none⟩) (.int .i64 0)).setCell (Nat.le_refl _) (p := ⟨w.heap.size, 4, none⟩) (.bool false)).setCell (Nat.le_refl _) (p := ⟨w.heap.size, 5, none⟩) (.bool false)).setCell (Nat.le_refl _) (p := ⟨w.heap.size, 6, none⟩) (.bool false))
  dsimp only at z4 z5 z6 u4 u5 u6 v4 v5 v6 r4 r5 r6
  clear hB HIn HGt d0 d1 S3 S4 S4z S5 S6 S2 hB0 hle
  go_wp2_with fail
  refine bodyPost_ret (v := .tuple #[inV 3 y.refs (l.length : Int) 0 ⟨false, false, false⟩, .int .i64 0]) (by simp [results, Tryz.results21, go_sem, r0, r1, r2, r3, r4, r5, r6]) rfl ⟨rfl, HB.out⟩
set_option maxRecDepth 100000 in
set_option maxHeartbeats 8000000 in
theorem TStat_reader (tb fb pb hm n : Nat) (L : HL) (id : Int) (y : Hn) (bb eb bp frm : Nat) (data : List UInt8) (hid : I64 id) (hy : findA L id = some y) (hyt : y.t = .reader bb eb) (hf : frm + data.length ≤ 1000000000) (w : World) (R : Hp)
    (h : Sat w (tabHp tb fb pb hm L n * (Spill.bufX bb bp 3 4 frm data * R))) :
    Calls Tryz.prog 21 #[pp tb, .int .i64 id] w fun e w' => e = .returned (.tuple #[inV 4 y.refs (data.length : Int) 0 ⟨false, false, false⟩, .int .i64 0]) ∧ Below w.heap.size w w' := by
  have S0 := (h.alloc (inO 0 0 0 0 ⟨false, false, false⟩)).perm (show _ = tabHp tb fb pb hm L n * (Spill.bufX bb bp 3 4 frm data * (pts w.heap.size (inO 0 0 0 0 ⟨false, false, false⟩) * R)) by ac_rfl)
  have hB0 := (Below.refl w.heap.size w).alloc (Nat.le_refl _) (inO 0 0 0 0 ⟨false, false, false⟩)
  have HGt := get_calls tb fb pb hm n L id hid _ _ S0
  unfold getE at HGt
  rw [show hblk L id = some y.b by unfold hblk; rw [hy]; rfl, hy] at HGt
  unfold pv at HGt
  have HGt := Lib.hid HGt
  obtain ⟨X, S1, back⟩ := tab_node S0 hy
  obtain ⟨d0, d1⟩ := hn_cells S1
  rw [hyt] at S1 d1
  unfold thT at d1
  unfold thO at S1
  have hmi := meth_reader_info y.xb
  have S2 := S1.perm (show _ = pts y.xb (rdO bb eb) * (Spill.bufX bb bp 3 4 frm data * (X * (pts w.heap.size (inO 0 0 0 0 ⟨false, false, false⟩) * R) * pts y.b (hnO y))) by ac_rfl)
  have HIn := Lib.hid (rinfo_calls y.xb bb eb bp frm data hf _ _ S2)
  have S2 := Lib.hid S2
  have hB0 := Lib.hid hB0
  clear h S0 S1 back hy
  go_enter Tryz.func21, Tryz.ntmps21
  go_wp2_with fail
  refine HGt.out.mono ?_
  rintro e w1 ⟨rfl, rfl⟩
  go_wp2_with fail
  refine HIn.out.mono ?_
  rintro e w1 ⟨rfl, hB⟩
  have S3 := (S2.out.below hB).alloc (inO 4 0 (data.length : Int) 0 ⟨true, false, false⟩)
  have S4 := (S2.out.below hB).alloc (inO 4 y.refs (data.length : Int) 0 ⟨true, false, false⟩)
  have S4z := (S2.out.below hB).alloc (inO 4 y.refs (data.length : Int) 0 ⟨false, false, false⟩)
  obtain ⟨p0, p1⟩ := hn_cells (S3.perm (show _ = pts y.b (hnO y) * (pts w1.heap.size (inO 4 0 (data.length : Int) 0 ⟨true, false, false⟩) * (pts y.xb (rdO bb eb) * (Spill.bufX bb bp 3 4 frm data * (X * (pts w.heap.size (inO 0 0 0 0 ⟨false, false, false⟩) * R))))) by ac_rfl))
  obtain ⟨u0, u1, u2, u3, u4, u5, u6⟩ := in_cells S4
  obtain ⟨v0, v1, v2, v3, v4, v5, v6⟩ := in_cells S4z
  have S5 := S4z.perm (show _ = pts w.heap.size (inO 0 0 0 0 ⟨false, false, false⟩) * (pts w1.heap.size (inO 4 y.refs (data.length : Int) 0 ⟨false, false, false⟩) * (pts y.b (hnO y) * (pts y.xb (rdO bb eb) * (Spill.bufX bb bp 3 4 frm data * (X * R))))) by ac_rfl)
  obtain ⟨z0, z1, z2, z3, z4, z5, z6⟩ := in_cells S5
  have f0 : ∀ i, (w1.alloc (inO 4 y.refs (data.length : Int) 0 ⟨false, false, false⟩)).frozen? ⟨w.heap.size, i, none⟩ = false := fun i => free_at S5.get i
  have S6 := ((((((S5.set (i := 0) (.int .i64 4)).set (i := 1) (.int .i64 y.refs)).set (i := 2) (.int .i64 (data.length : Int))).set (i := 3) (.int .i64 0)).set (i := 4) (.bool false)).set (i := 5) (.bool false)).set (i := 6) (.bool false)
  obtain ⟨r0, r1, r2, r3, r4, r5, r6⟩ := in_cells (k := 4) (rf := y.refs) (a := (data.length : Int)) (n := 0) (m := ⟨false, false, false⟩) S6
  have hle : w.heap.size ≤ w1.heap.size := Nat.le_trans hB0.out.size hB.size
  have HB := Lib.hid (((((((((hB0.out.trans (hB.mono hB0.out.size)).alloc hle (inO 4 y.refs (data.length : Int) 0 ⟨false, false, false⟩)).setCell (Nat.le_refl _) (p := ⟨w.heap.size, 0, none⟩) (.int .i64 4)).setCell (Nat.le_refl _) (p := ⟨w.heap.size, 1, none⟩) (.int .i64 y.refs)).setCell (Nat.le_refl _) (p := ⟨w.heap.size, 2, none⟩) (.int .i64 (data.length : Int))).setCell (Nat.le_refl _) (p := ⟨w.heap.size, 3, none⟩) (.int .i64 0)).setCell (Nat.le_refl _) (p := ⟨w.heap.size, 4, none⟩) (.bool false)).setCell (Nat.le_refl _) (p := ⟨w.heap.size, 5, none⟩) (.bool false)).setCell (Nat.le_refl _) (p := ⟨w.heap.size, 6, none⟩) (.bool false))
  dsimp only at z4 z5 z6 u4 u5 u6 v4 v5 v6 r4 r5 r6
  clear hB HIn HGt d0 d1 S3 S4 S4z S5 S6 S2 hB0 hle
  go_wp2_with fail
  refine bodyPost_ret (v := .tuple #[inV 4 y.refs (data.length : Int) 0 ⟨false, false, false⟩, .int .i64 0]) (by simp [results, Tryz.results21, go_sem, r0, r1, r2, r3, r4, r5, r6]) rfl ⟨rfl, HB.out⟩
set_option maxRecDepth 100000 in
set_option maxHeartbeats 8000000 in
theorem TStat_writer (tb fb pb hm n : Nat) (L : HL) (id : Int) (y : Hn) (bb eb bp frm : Nat) (data : List UInt8) (hid : I64 id) (hy : findA L id = some y) (hyt : y.t = .writer bb eb) (hf : frm + data.length ≤ 1000000000) (w : World) (R : Hp)
    (h : Sat w (tabHp tb fb pb hm L n * (Spill.bufX bb bp 3 4 frm data * R))) :
    Calls Tryz.prog 21 #[pp tb, .int .i64 id] w fun e w' => e = .returned (.tuple #[inV 5 y.refs (data.length : Int) 0 ⟨false, false, false⟩, .int .i64 0]) ∧ Below w.heap.size w w' := by
  have S0 := (h.alloc (inO 0 0 0 0 ⟨false, false, false⟩)).perm (show _ = tabHp tb fb pb hm L n * (Spill.bufX bb bp 3 4 frm data * (pts w.heap.size (inO 0 0 0 0 ⟨false, false, false⟩) * R)) by ac_rfl)
  have hB0 := (Below.refl w.heap.size w).alloc (Nat.le_refl _) (inO 0 0 0 0 ⟨false, false, false⟩)
  have HGt := get_calls tb fb pb hm n L id hid _ _ S0
  unfold getE at HGt
  rw [show hblk L id = some y.b by unfold hblk; rw [hy]; rfl, hy] at HGt
  unfold pv at HGt
  have HGt := Lib.hid HGt
  obtain ⟨X, S1, back⟩ := tab_node S0 hy
  obtain ⟨d0, d1⟩ := hn_cells S1
  rw [hyt] at S1 d1
  unfold thT at d1
  unfold thO at S1
  have hmi := meth_writer_info y.xb
  have S2 := S1.perm (show _ = pts y.xb (wrO bb eb) * (Spill.bufX bb bp 3 4 frm data * (X * (pts w.heap.size (inO 0 0 0 0 ⟨false, false, false⟩) * R) * pts y.b (hnO y))) by ac_rfl)
  have HIn := Lib.hid (winfo_calls y.xb bb eb bp frm data hf _ _ S2)
  have S2 := Lib.hid S2
  have hB0 := Lib.hid hB0
  clear h S0 S1 back hy
  go_enter Tryz.func21, Tryz.ntmps21
  go_wp2_with fail
  refine HGt.out.mono ?_
  rintro e w1 ⟨rfl, rfl⟩
  go_wp2_with fail
  refine HIn.out.mono ?_
  rintro e w1 ⟨rfl, hB⟩
  have S3 := (S2.out.below hB).alloc (inO 5 0 (data.length : Int) 0 ⟨false, true, false⟩)
  have S4 := (S2.out.below hB).alloc (inO 5 y.refs (data.length : Int) 0 ⟨false, true, false⟩)
  have S4z := (S2.out.below hB).alloc (inO 5 y.refs (data.length : Int) 0 ⟨false, false, false⟩)
  obtain ⟨p0, p1⟩ := hn_cells (S3.perm (show _ = pts y.b (hnO y) * (pts w1.heap.size (inO 5 0 (data.length : Int) 0 ⟨false, true, false⟩) * (pts y.xb (wrO bb eb) * (Spill.bufX bb bp 3 4 frm data * (X * (pts w.heap.size (inO 0 0 0 0 ⟨false, false, false⟩) * R))))) by ac_rfl))
  obtain ⟨u0, u1, u2, u3, u4, u5, u6⟩ := in_cells S4
  obtain ⟨v0, v1, v2, v3, v4, v5, v6⟩ := in_cells S4z
  have S5 := S4z.perm (show _ = pts w.heap.size (inO 0 0 0 0 ⟨false, false, false⟩) * (pts w1.heap.size (inO 5 y.refs (data.length : Int) 0 ⟨false, false, false⟩) * (pts y.b (hnO y) * (pts y.xb (wrO bb eb) * (Spill.bufX bb bp 3 4 frm data * (X * R))))) by ac_rfl)
  obtain ⟨z0, z1, z2, z3, z4, z5, z6⟩ := in_cells S5
  have f0 : ∀ i, (w1.alloc (inO 5 y.refs (data.length : Int) 0 ⟨false, false, false⟩)).frozen? ⟨w.heap.size, i, none⟩ = false := fun i => free_at S5.get i
  have S6 := ((((((S5.set (i := 0) (.int .i64 5)).set (i := 1) (.int .i64 y.refs)).set (i := 2) (.int .i64 (data.length : Int))).set (i := 3) (.int .i64 0)).set (i := 4) (.bool false)).set (i := 5) (.bool false)).set (i := 6) (.bool false)
  obtain ⟨r0, r1, r2, r3, r4, r5, r6⟩ := in_cells (k := 5) (rf := y.refs) (a := (data.length : Int)) (n := 0) (m := ⟨false, false, false⟩) S6
  have hle : w.heap.size ≤ w1.heap.size := Nat.le_trans hB0.out.size hB.size
  have HB := Lib.hid (((((((((hB0.out.trans (hB.mono hB0.out.size)).alloc hle (inO 5 y.refs (data.length : Int) 0 ⟨false, false, false⟩)).setCell (Nat.le_refl _) (p := ⟨w.heap.size, 0, none⟩) (.int .i64 5)).setCell (Nat.le_refl _) (p := ⟨w.heap.size, 1, none⟩) (.int .i64 y.refs)).setCell (Nat.le_refl _) (p := ⟨w.heap.size, 2, none⟩) (.int .i64 (data.length : Int))).setCell (Nat.le_refl _) (p := ⟨w.heap.size, 3, none⟩) (.int .i64 0)).setCell (Nat.le_refl _) (p := ⟨w.heap.size, 4, none⟩) (.bool false)).setCell (Nat.le_refl _) (p := ⟨w.heap.size, 5, none⟩) (.bool false)).setCell (Nat.le_refl _) (p := ⟨w.heap.size, 6, none⟩) (.bool false))
  dsimp only at z4 z5 z6 u4 u5 u6 v4 v5 v6 r4 r5 r6
  clear hB HIn HGt d0 d1 S3 S4 S4z S5 S6 S2 hB0 hle
  go_wp2_with fail
  refine bodyPost_ret (v := .tuple #[inV 5 y.refs (data.length : Int) 0 ⟨false, false, false⟩, .int .i64 0]) (by simp [results, Tryz.results21, go_sem, r0, r1, r2, r3, r4, r5, r6]) rfl ⟨rfl, HB.out⟩
set_option maxRecDepth 100000 in
set_option maxHeartbeats 4000000 in
theorem TStat_none (tb fb pb hm n : Nat) (L : HL) (id : Int) (hid : I64 id) (hy : findA L id = none) (w : World) (R : Hp) (h : Sat w (tabHp tb fb pb hm L n * R)) :
    Calls Tryz.prog 21 #[pp tb, .int .i64 id] w fun e w' => e = .returned (.tuple #[inV 0 0 0 0 ⟨false, false, false⟩, .int .i64 18]) ∧ Below w.heap.size w w' := by
  have S0 := (h.alloc (inO 0 0 0 0 ⟨false, false, false⟩)).perm (show _ = tabHp tb fb pb hm L n * (pts w.heap.size (inO 0 0 0 0 ⟨false, false, false⟩) * R) by ac_rfl)
  have HGt := get_calls tb fb pb hm n L id hid _ _ S0
  unfold getE at HGt
  rw [show hblk L id = none by unfold hblk; rw [hy]; rfl, hy] at HGt
  unfold pv at HGt
  have HGt := Lib.hid HGt
  have HB := Lib.hid ((Below.refl w.heap.size w).alloc (Nat.le_refl _) (inO 0 0 0 0 ⟨false, false, false⟩))
  obtain ⟨r0, r1, r2, r3, r4, r5, r6⟩ := in_cells ((Sat.start w).alloc (inO 0 0 0 0 ⟨false, false, false⟩))
  clear h hy S0
  go_enter Tryz.func21, Tryz.ntmps21
  go_wp2_with fail
  refine HGt.out.mono ?_
  rintro e w1 ⟨rfl, rfl⟩
  clear HGt
  go_wp2_with fail
  exact bodyPost_ret (v := .tuple #[inV 0 0 0 0 ⟨false, false, false⟩, .int .i64 18]) (by simp [results, Tryz.results21, go_sem, r0, r1, r2, r3, r4, r5, r6]) rfl ⟨rfl, HB.out⟩
end Go.Proofs.YteienbdbhnikbaaGreatDoor.Hd

namespace Go.Proofs.YteienbdbhnikbaaGreatDoor.Hd
open Go.RowKit Go.Maps Go.Proofs.YteienbdbhnikbaaGreatDoor Go.Proofs.YteienbdbhnikbaaGreatDoor.Hp
set_option linter.unusedVariables false
attribute [local go_sem] Oper.semAt_some

def cutP (F : Fs) (k : Int) (x : Nd) (n : Nat) : Fs := { F.put k { x with text := x.text.extract 0 n } with used := F.used - ((x.text.size : Int) - (n : Int)) }
set_option maxRecDepth 100000 in
set_option maxHeartbeats 4000000 in
theorem Cut_calls (fb mb : Nat) (F : Fs) (k : Int) (n : Nat) (x : Nd) (hk : I64 k) (hs : FsOk F) (hx : find F.L k = some x) (h2 : x.kind = 2) (hn : n ≤ x.text.size) (hu : 0 ≤ F.used ∧ F.used ≤ 1000000000) (w : World) (R : Hp) (h : Sat w (fsHp fb mb F * R)) :
    Calls Tryz.prog 80 #[pp fb, .int .i64 k, .int .i64 n] w fun e w' => (e = .returned (.int .i64 0) ∧ Sat w' (fsHp fb mb (cutP F k x n) * R)) ∧ Ran w w' := by
  have HT := text_calls fb mb F k hk w R h
  have hd1 : x.kind ≠ 1 := by omega
  rw [(textE_ok hx hd1).1, (textE_ok hx hd1).2] at HT
  unfold pv at HT
  have HT := Lib.hid HT
  have h1 := (hs k x hx).text
  obtain ⟨c0, c1, c2, c3⟩ := fs_cells h
  have hxx := fs_at h hx
  rw [h2] at hxx
  obtain ⟨d0, d1, -⟩ := hxx
  have Sf := h.perm (show _ = pts fb (fsO F mb) * (pmap mb (blk F.L) F.L.length F.n * nds F.L * R) by unfold fsHp; ac_rfl)
  have f0 : ∀ i, w.frozen? ⟨fb, i, none⟩ = false := fun i => free_at Sf.get i
  have S1 := (used_back (u := F.used - ((x.text.size : Int) - (n : Int))) h).drew
  obtain ⟨X, S2, back⟩ := fs_node S1 hx
  obtain ⟨-, g1, -⟩ := nd_cells S2
  have f1 : ∀ i, w.frozen? ⟨x.b, i, none⟩ = false := fun i => by
    obtain ⟨X2, S2b, -⟩ := fs_node h hx
    exact free_at S2b.get i
  have S3 := Lib.hid (back _ { x with text := x.text.extract 0 n } (cutP F k x n) R rfl rfl rfl (S2.set (i := 1) (.string (x.text.extract 0 n))))
  have hnI : (n : Int) ≤ (x.text.size : Int) := by omega
  have hn0 : (0 : Int) ≤ (n : Int) := by omega
  have h1I : (x.text.size : Int) ≤ 1000000 := by omega
  obtain ⟨u0, u1⟩ := hu
  clear h hx hs h2 hd1 Sf S1 S2 back
  go_enter Tryz.func80, Tryz.ntmps80
  go_wp2_with fail
  refine HT.out.mono ?_
  rintro e w1 ⟨rfl, rfl⟩
  go_upto_region 6 with fail
  go_still_tail 14, (by kernel_rfl)
  go_wp2_with fail
  go_ret
  exact ⟨⟨rfl, S3.out⟩, Ran.set (Ran.drewN (Ran.set (Below.refl 0 w) _ _) 1) _ _⟩
end Go.Proofs.YteienbdbhnikbaaGreatDoor.Hd

namespace Go.Proofs.YteienbdbhnikbaaGreatDoor.Hd
open Go.RowKit Go.Maps Go.Sort Go.Shelf Go.Proofs.YteienbdbhnikbaaGreatDoor Go.Proofs.YteienbdbhnikbaaGreatDoor.Hp
set_option linter.unusedVariables false
attribute [local go_sem] Oper.semAt_some

/-- The numbers of a table, rising. -/
def KeysOf (M : Int → Option Nat) (ks : List Int) : Prop := ks.Pairwise (· < ·) ∧ ∀ s, s ∈ ks ↔ (M s).isSome = true
theorem own_arr {w w' : World} {S : Hp} {base E n : Nat} {v : Value} {xs : List Value} (h : Sat w S) (hb : Below w.heap.size w w') (hbase : w.heap.size ≤ base) (hrow : w'.ownsRow base E 1 v n xs) : ∃ p cap, v = .slice p n cap ∧ Sat w' (arr E 1 p n cap xs * S) := by
  obtain ⟨hl, ⟨rfl, rfl⟩ | ⟨g, cap, cur, rfl, hg, hcell, h1, h2, h3, h4⟩⟩ := hrow
  · refine ⟨none, 0, rfl, ?_⟩
    have : xs = [] := List.eq_nil_of_length_eq_zero (by omega)
    subst this
    exact (h.below hb).nil_arr E 1
  · refine ⟨_, cap, rfl, ?_⟩
    refine Sat.arr_mk h1 h2 (by omega) hl (fun j hj => ?_) (Sat.fresh h (Nat.le_trans hbase hg) hcell hb.block)
    rw [← h4, List.getElem?_take_of_lt (by omega), Nat.zero_add]
    simp
theorem key_int {v : Value} {k : Lit} (h : keyOf Tryz.prog 3 v = some k) : ∃ x, k = .int .i64 x := by
  rw [keyOf_int Tryz.underlying3] at h
  cases v with
  | int q x =>
    simp only [mapKey, Tryz.underlying3] at h
    split at h
    · exact ⟨x, by injection h with h; exact h.symm⟩
    · cases h
  | _ => simp [mapKey, Tryz.underlying3] at h
theorem keys_facts {w : World} {b n sz : Nat} {D : DataW Unit} {M : Int → Option Nat} (hown : Owns w b n D) (hR : Reads D M sz) {ss : List Int} (hp : ss.Perm (intKeys D)) : KeysOf M (ss.mergeSort (fun x y => decide (x ≤ y))) := by
  obtain ⟨es, hD, hpw, _⟩ := hown.entries intKey
  obtain ⟨es', hD', hko⟩ := hown.keysOf
  obtain rfl : es = es' := by rw [hD] at hD'; simpa using hD'
  have hk : ∀ p ∈ es, ∃ x, p.1 = .int .i64 x := fun p hp => by obtain ⟨v, hv⟩ := hko p hp; exact key_int hv
  have hnd : (intKeys D).Nodup := by
    rw [hD]
    show (es.map fun p => Go.intOf p.1).Nodup
    refine List.pairwise_map.2 (hpw.imp_of_mem fun {p q} hp' hq' hne e => hne ?_)
    obtain ⟨a, ha⟩ := hk p hp'
    obtain ⟨b, hb⟩ := hk q hq'
    rw [ha, hb] at e ⊢
    exact congrArg (Lit.int .i64) e
  have hmem : ∀ x, x ∈ intKeys D ↔ Maps.has D (ik x) = true := by
    intro x
    rw [hD, has_eq, List.any_eq_true]
    show x ∈ es.map (fun p => Go.intOf p.1) ↔ _
    rw [List.mem_map]
    constructor
    · rintro ⟨p, hp', rfl⟩
      obtain ⟨a, ha⟩ := hk p hp'
      exact ⟨p, hp', by rw [ha]; simp [Lit.sameKey, Go.intOf]⟩
    · rintro ⟨p, hp', hs⟩
      obtain ⟨a, ha⟩ := hk p hp'
      rw [ha] at hs
      exact ⟨p, hp', by rw [ha]; simpa [Lit.sameKey, Go.intOf] using hs⟩
  have tr : ∀ a b c : Int, decide (a ≤ b) = true → decide (b ≤ c) = true → decide (a ≤ c) = true := fun a b c h1 h2 => by simp only [decide_eq_true_eq] at *; omega
  have tot : ∀ a b : Int, (decide (a ≤ b) || decide (b ≤ a)) = true := fun a b => by simp only [Bool.or_eq_true, decide_eq_true_eq]; omega
  have hpm : (ss.mergeSort (fun x y => decide (x ≤ y))).Perm (intKeys D) := (List.mergeSort_perm ss _).trans hp
  have hnd2 : (ss.mergeSort (fun x y => decide (x ≤ y))).Nodup := hpm.nodup_iff.2 hnd
  have hs := List.pairwise_mergeSort tr tot ss
  refine ⟨(hs.and hnd2).imp fun {a b} h => ?_, fun s => ?_⟩
  · obtain ⟨h1, h2⟩ := h
    simp only [decide_eq_true_eq] at h1
    omega
  · rw [hpm.mem_iff, hmem, hR.has]
abbrev iv (n : Int) : Value := .int .i64 n
def AllSays (tb fb pb hm n : Nat) (L : HL) (R : Hp) (e : Ending) (w' : World) : Prop :=
  ∃ p cap ks, e = .returned (.slice p (List.length ks) cap) ∧ KeysOf (hblk L) ks ∧ Sat w' (arr 3 1 p ks.length cap (ks.map iv) * (tabHp tb fb pb hm L n * R))
set_option maxRecDepth 100000 in
set_option maxHeartbeats 4000000 in
theorem All_calls (tb fb pb hm n : Nat) (L : HL) (hn : n ≤ 1000000) (w : World) (R : Hp) (h : Sat w (tabHp tb fb pb hm L n * R)) :
    Calls Tryz.prog 20 #[pp tb] w fun e w' => AllSays tb fb pb hm n L R e w' ∧ Below w.heap.size w w' := by
  obtain ⟨c0, c1, c2⟩ := tab_cells h
  obtain ⟨D, hR, HD⟩ := pmap_out (h.perm (show _ = pmap hm (hblk L) L.length n * (pts tb (tbO fb pb hm) * all (fun p : Int × Hn => hnHp fb p.2) L * R) by unfold tabHp; ac_rfl))
  obtain ⟨hO, _⟩ := mapD_out HD
  have hsz := hO.size_le
  have hs := (callsIn_wide (n := 5)).1 (Tryz.slices_Sorted_keys_57_58 hm n D _ w hO (by unfold maxLen; omega) (by omega))
  have Hs := Lib.hid hs
  have HO := Lib.hid hO
  have H0 := Lib.hid h
  clear HD hO h hs
  go_enter Tryz.func20, Tryz.ntmps20
  go_wp2_with fail
  refine ((callsIn_wide (n := 5)).1 (Tryz.maps_Keys_58 (some hm) w)).mono ?_
  rintro e w1 ⟨rfl, rfl⟩
  go_wp2_with fail
  refine Hs.out.mono ?_
  rintro e w2 ⟨v, ss, rfl, hp, hrow, _, hb⟩
  have hb2 : Below w.heap.size w w2 := ((Below.refl _ w).alloc (Nat.le_refl _) _).trans (hb.mono (by rw [World.size_alloc]; exact Nat.le_succ _))
  obtain ⟨p, cap, rfl, HA⟩ := own_arr H0.out hb2 (by rw [World.size_alloc]; exact Nat.le_succ _) hrow
  have hlen : (ss.mergeSort (fun x y => decide (x ≤ y))).length = ss.length := by rw [List.length_mergeSort]
  have hfin : AllSays tb fb pb hm n L R (.returned (.slice p ss.length cap)) w2 := by
    refine ⟨p, cap, ss.mergeSort (fun x y => decide (x ≤ y)), by rw [hlen], keys_facts HO.out hR hp, ?_⟩
    rw [hlen]
    exact HA
  have Hfin := Lib.hid hfin
  clear hfin HA hrow hp hlen hb Hs HO H0
  go_wp2_with fail
  go_ret
  exact ⟨Hfin.out, hb2⟩
end Go.Proofs.YteienbdbhnikbaaGreatDoor.Hd

namespace Go.Proofs.YteienbdbhnikbaaGreatDoor.Hd
open Go.RowKit Go.Maps Go.Proofs.YteienbdbhnikbaaGreatDoor Go.Proofs.YteienbdbhnikbaaGreatDoor.Hp
set_option linter.unusedVariables false
attribute [local go_sem] Oper.semAt_some

def namesOf (F : Fs) (k : Int) : Int := match find F.L k with
  | none => 0
  | some x => x.names
def placeQ (F : Fs) (dir : Int) (part : ByteArray) (st : Bool) (er k : Int) : Int × ByteArray × Int :=
  if er ≠ 0 then (0, ⟨#[]⟩, er)
  else if dir ≠ 1 ∧ namesOf F dir = 0 then (0, ⟨#[]⟩, 10)
  else if part.size = 0 ∨ part = dotB ∨ part = dotsB then (0, ⟨#[]⟩, 11)
  else if (stepP F dir part).2 = 0 then (0, ⟨#[]⟩, 11)
  else if (stepP F dir part).2 ≠ 10 then (0, ⟨#[]⟩, (stepP F dir part).2)
  else if st = true ∧ k ≠ 1 then (0, ⟨#[]⟩, 12)
  else (dir, part, 0)
/-- Where a new name may stand. -/
def placeP (F : Fs) (d : Int) (s : ByteArray) (k : Int) : Int × ByteArray × Int := placeQ F (lastP F d s).1 (lastP F d s).2.1 (lastP F d s).2.2.1 (lastP F d s).2.2.2 k
set_option maxRecDepth 100000 in
set_option maxHeartbeats 8000000 in
theorem placeN_calls (fb mb N : Nat) (F : Fs) (hT : TreeG N F) (hN : N ≤ 1000000) (d : Int) (s : ByteArray) (k : Int) (w : World) (R : Hp) (hd : I64 d) (hs : s.size ≤ 1000000) (hG : Glob R) (h : Sat w (fsHp fb mb F * R)) :
    Calls Tryz.prog 67 #[pp fb, .int .i64 d, .string s, .int .i64 k] w fun e w' => (e = .returned (.tuple #[.int .i64 (placeP F d s k).1, .string (placeP F d s k).2.1, .int .i64 (placeP F d s k).2.2]) ∧ Sat w' (fsHp fb mb F * R)) ∧ Ran w w' := by
  have HL := lastN_calls fb mb F (hT.ok hN) hT.nums d s w R hd hs hG h
  have hps := last_part F d s
  have hin := @TreeG.last_in N F hT d s
  have hi := last_i64 hT.nums hd s
  unfold placeP
  obtain ⟨dir, hdir⟩ : ∃ x, x = (lastP F d s).1 := ⟨_, rfl⟩
  obtain ⟨part, hpart⟩ : ∃ x, x = (lastP F d s).2.1 := ⟨_, rfl⟩
  obtain ⟨st, hst⟩ : ∃ x, x = (lastP F d s).2.2.1 := ⟨_, rfl⟩
  obtain ⟨er, her⟩ : ∃ x, x = (lastP F d s).2.2.2 := ⟨_, rfl⟩
  rw [← hdir, ← hpart, ← hst, ← her] at HL ⊢
  rw [← hdir, ← her] at hin
  rw [← hdir] at hi
  rw [← hpart] at hps
  clear hdir hpart hst her h hd hG hN hT
  unfold placeQ
  by_cases hz : er ≠ 0
  · rw [if_pos hz]
    have HL := Lib.hid HL
    clear hin hi hps
    go_enter Tryz.func67, Tryz.ntmps67
    go_wp2_with fail
    refine HL.out.mono ?_
    rintro e w1 ⟨⟨rfl, S1⟩, R1⟩
    have S1 := Lib.hid S1
    have R1 := Lib.hid R1
    go_wp2_with fail
    refine bodyPost_ret (v := .tuple #[.int .i64 0, .string ⟨#[]⟩, .int .i64 er]) (by simp [results, Tryz.results67, go_sem]) rfl ?_
    exact ⟨⟨rfl, S1.out⟩, R1.out⟩
  have hz : er = 0 := by simpa using hz
  subst hz
  rw [if_neg (fun h => h rfl)]
  obtain ⟨y, hy⟩ := hin rfl
  have HL := Lib.hid HL
  have hps : part.size ≤ 1000000 := Nat.le_trans hps hs
  have HS0 := fun (W : World) (hW : Sat W (fsHp fb mb F * R)) => stepN_calls fb mb F dir part hi hps W R hW
  unfold namesOf
  rw [hy]
  dsimp only
  obtain ⟨n, hn⟩ : ∃ x, x = (stepP F dir part).1 := ⟨_, rfl⟩
  obtain ⟨q, hq⟩ : ∃ x, x = (stepP F dir part).2 := ⟨_, rfl⟩
  rw [← hn, ← hq] at HS0
  rw [← hq]
  have HS := Lib.hid HS0
  clear hn hq HS0 hin hs
  have Hy := Lib.hid hy
  have Hi := Lib.hid hi
  clear hy hi
  by_cases hd1 : dir = 1
  · subst hd1
    rw [if_neg (fun h => h.1 rfl)]
    clear Hy Hi
    by_cases hp0 : part = ⟨#[]⟩
    · subst hp0
      rw [if_pos (Or.inl (show (⟨#[]⟩ : ByteArray).size = 0 from rfl))]
      clear HS hps
      go_enter Tryz.func67, Tryz.ntmps67
      go_wp2_with fail
      refine HL.out.mono ?_
      rintro e w1 ⟨⟨rfl, S1⟩, R1⟩
      have S1 := Lib.hid S1
      have R1 := Lib.hid R1
      go_wp2_with fail
      refine bodyPost_ret (v := .tuple #[.int .i64 0, .string ⟨#[]⟩, .int .i64 11]) (by simp [results, Tryz.results67, go_sem]) rfl ?_
      exact ⟨⟨rfl, S1.out⟩, R1.out⟩
    by_cases hp1 : part = dotB
    · subst hp1
      rw [if_pos (Or.inr (Or.inl rfl))]
      clear HS hps
      go_enter Tryz.func67, Tryz.ntmps67
      go_wp2_with fail
      refine HL.out.mono ?_
      rintro e w1 ⟨⟨rfl, S1⟩, R1⟩
      have S1 := Lib.hid S1
      have R1 := Lib.hid R1
      go_wp2_with fail
      refine bodyPost_ret (v := .tuple #[.int .i64 0, .string ⟨#[]⟩, .int .i64 11]) (by simp [results, Tryz.results67, go_sem]) rfl ?_
      exact ⟨⟨rfl, S1.out⟩, R1.out⟩
    by_cases hp2 : part = dotsB
    · subst hp2
      rw [if_pos (Or.inr (Or.inr rfl))]
      clear HS hps
      go_enter Tryz.func67, Tryz.ntmps67
      go_wp2_with fail
      refine HL.out.mono ?_
      rintro e w1 ⟨⟨rfl, S1⟩, R1⟩
      have S1 := Lib.hid S1
      have R1 := Lib.hid R1
      go_wp2_with fail
      refine bodyPost_ret (v := .tuple #[.int .i64 0, .string ⟨#[]⟩, .int .i64 11]) (by simp [results, Tryz.results67, go_sem]) rfl ?_
      exact ⟨⟨rfl, S1.out⟩, R1.out⟩
    rw [if_neg (fun h => h.elim (fun e => hp0 (ba_nil e)) fun h => h.elim hp1 hp2)]
    have e0 := ba_ne hp0
    have e1 := ba_ne hp1
    have e2 := ba_ne hp2
    rw [show (ByteArray.toList ⟨#[]⟩) = ([] : List UInt8) by rw [ByteArray.toList_eq]] at e0
    rw [show (ByteArray.toList dotB) = ([46] : List UInt8) by rw [ByteArray.toList_eq]] at e1
    rw [show (ByteArray.toList dotsB) = ([46, 46] : List UInt8) by rw [ByteArray.toList_eq]] at e2
    clear hp0 hp1 hp2
    by_cases hq0 : q = 0
    · subst hq0
      rw [if_pos rfl]
      go_enter Tryz.func67, Tryz.ntmps67
      go_wp2_with fail
      refine HL.out.mono ?_
      rintro e w1 ⟨⟨rfl, S1⟩, R1⟩
      have S1 := Lib.hid S1
      have R1 := Lib.hid R1
      go_wp2_with fail
      refine (HS.out w1 S1.out).mono ?_
      rintro e w2 ⟨rfl, rfl⟩
      go_wp2_with fail
      refine bodyPost_ret (v := .tuple #[.int .i64 0, .string ⟨#[]⟩, .int .i64 11]) (by simp [results, Tryz.results67, go_sem]) rfl ?_
      exact ⟨⟨rfl, S1.out⟩, R1.out⟩
    rw [if_neg hq0]
    by_cases hq1 : q = 10
    case neg =>
      rw [if_pos hq1]
      go_enter Tryz.func67, Tryz.ntmps67
      go_wp2_with fail
      refine HL.out.mono ?_
      rintro e w1 ⟨⟨rfl, S1⟩, R1⟩
      have S1 := Lib.hid S1
      have R1 := Lib.hid R1
      go_wp2_with fail
      refine (HS.out w1 S1.out).mono ?_
      rintro e w2 ⟨rfl, rfl⟩
      go_wp2_with fail
      refine bodyPost_ret (v := .tuple #[.int .i64 0, .string ⟨#[]⟩, .int .i64 q]) (by simp [results, Tryz.results67, go_sem]) rfl ?_
      exact ⟨⟨rfl, S1.out⟩, R1.out⟩
    subst hq1
    rw [if_neg (fun h => h rfl)]
    cases st with
    | false =>
      rw [if_neg (fun h => by cases h.1)]
      go_enter Tryz.func67, Tryz.ntmps67
      go_wp2_with fail
      refine HL.out.mono ?_
      rintro e w1 ⟨⟨rfl, S1⟩, R1⟩
      have S1 := Lib.hid S1
      have R1 := Lib.hid R1
      go_wp2_with fail
      refine (HS.out w1 S1.out).mono ?_
      rintro e w2 ⟨rfl, rfl⟩
      go_wp2_with fail
      refine bodyPost_ret (v := .tuple #[.int .i64 1, .string part, .int .i64 0]) (by simp [results, Tryz.results67, go_sem]) rfl ?_
      exact ⟨⟨rfl, S1.out⟩, R1.out⟩
    | true =>
      by_cases hk : k = 1
      · subst hk
        rw [if_neg (fun h => h.2 rfl)]
        go_enter Tryz.func67, Tryz.ntmps67
        go_wp2_with fail
        refine HL.out.mono ?_
        rintro e w1 ⟨⟨rfl, S1⟩, R1⟩
        have S1 := Lib.hid S1
        have R1 := Lib.hid R1
        go_wp2_with fail
        refine (HS.out w1 S1.out).mono ?_
        rintro e w2 ⟨rfl, rfl⟩
        go_wp2_with fail
        refine bodyPost_ret (v := .tuple #[.int .i64 1, .string part, .int .i64 0]) (by simp [results, Tryz.results67, go_sem]) rfl ?_
        exact ⟨⟨rfl, S1.out⟩, R1.out⟩
      · rw [if_pos ⟨rfl, hk⟩]
        go_enter Tryz.func67, Tryz.ntmps67
        go_wp2_with fail
        refine HL.out.mono ?_
        rintro e w1 ⟨⟨rfl, S1⟩, R1⟩
        have S1 := Lib.hid S1
        have R1 := Lib.hid R1
        go_wp2_with fail
        refine (HS.out w1 S1.out).mono ?_
        rintro e w2 ⟨rfl, rfl⟩
        go_wp2_with fail
        refine bodyPost_ret (v := .tuple #[.int .i64 0, .string ⟨#[]⟩, .int .i64 12]) (by simp [results, Tryz.results67, go_sem]) rfl ?_
        exact ⟨⟨rfl, S1.out⟩, R1.out⟩
  · have hd1b : (dir == 1) = false := by simpa using hd1
    by_cases hn0 : y.names = 0
    · rw [if_pos ⟨hd1, hn0⟩]
      have hn0b : (y.names == 0) = true := by simpa using hn0
      clear HS hps
      go_enter Tryz.func67, Tryz.ntmps67
      go_wp2_with fail
      refine HL.out.mono ?_
      rintro e w1 ⟨⟨rfl, S1⟩, R1⟩
      obtain ⟨c0, c1, c2, c3⟩ := fs_cells S1
      have hl := fs_look S1 dir Hi.out
      rw [show blk F.L dir = some y.b by unfold blk; rw [Hy.out]; rfl] at hl
      unfold pv at hl
      obtain ⟨d0, d1, d2, d3, d4, d5⟩ := fs_at S1 Hy.out
      rw [hn0] at d4
      have S1 := Lib.hid S1
      have R1 := Lib.hid R1
      go_wp2_with fail
      refine bodyPost_ret (v := .tuple #[.int .i64 0, .string ⟨#[]⟩, .int .i64 10]) (by simp [results, Tryz.results67, go_sem]) rfl ?_
      exact ⟨⟨rfl, S1.out⟩, R1.out⟩
    · rw [if_neg (fun h => hn0 h.2)]
      have hn0b : (y.names == 0) = false := by simpa using hn0
      by_cases hp0 : part = ⟨#[]⟩
      · subst hp0
        rw [if_pos (Or.inl (show (⟨#[]⟩ : ByteArray).size = 0 from rfl))]
        clear HS hps
        go_enter Tryz.func67, Tryz.ntmps67
        go_wp2_with fail
        refine HL.out.mono ?_
        rintro e w1 ⟨⟨rfl, S1⟩, R1⟩
        obtain ⟨c0, c1, c2, c3⟩ := fs_cells S1
        have hl := fs_look S1 dir Hi.out
        rw [show blk F.L dir = some y.b by unfold blk; rw [Hy.out]; rfl] at hl
        unfold pv at hl
        obtain ⟨d0, d1, d2, d3, d4, d5⟩ := fs_at S1 Hy.out
        have S1 := Lib.hid S1
        have R1 := Lib.hid R1
        go_wp2_with fail
        refine bodyPost_ret (v := .tuple #[.int .i64 0, .string ⟨#[]⟩, .int .i64 11]) (by simp [results, Tryz.results67, go_sem]) rfl ?_
        exact ⟨⟨rfl, S1.out⟩, R1.out⟩
      by_cases hp1 : part = dotB
      · subst hp1
        rw [if_pos (Or.inr (Or.inl rfl))]
        clear HS hps
        go_enter Tryz.func67, Tryz.ntmps67
        go_wp2_with fail
        refine HL.out.mono ?_
        rintro e w1 ⟨⟨rfl, S1⟩, R1⟩
        obtain ⟨c0, c1, c2, c3⟩ := fs_cells S1
        have hl := fs_look S1 dir Hi.out
        rw [show blk F.L dir = some y.b by unfold blk; rw [Hy.out]; rfl] at hl
        unfold pv at hl
        obtain ⟨d0, d1, d2, d3, d4, d5⟩ := fs_at S1 Hy.out
        have S1 := Lib.hid S1
        have R1 := Lib.hid R1
        go_wp2_with fail
        refine bodyPost_ret (v := .tuple #[.int .i64 0, .string ⟨#[]⟩, .int .i64 11]) (by simp [results, Tryz.results67, go_sem]) rfl ?_
        exact ⟨⟨rfl, S1.out⟩, R1.out⟩
      by_cases hp2 : part = dotsB
      · subst hp2
        rw [if_pos (Or.inr (Or.inr rfl))]
        clear HS hps
        go_enter Tryz.func67, Tryz.ntmps67
        go_wp2_with fail
        refine HL.out.mono ?_
        rintro e w1 ⟨⟨rfl, S1⟩, R1⟩
        obtain ⟨c0, c1, c2, c3⟩ := fs_cells S1
        have hl := fs_look S1 dir Hi.out
        rw [show blk F.L dir = some y.b by unfold blk; rw [Hy.out]; rfl] at hl
        unfold pv at hl
        obtain ⟨d0, d1, d2, d3, d4, d5⟩ := fs_at S1 Hy.out
        have S1 := Lib.hid S1
        have R1 := Lib.hid R1
        go_wp2_with fail
        refine bodyPost_ret (v := .tuple #[.int .i64 0, .string ⟨#[]⟩, .int .i64 11]) (by simp [results, Tryz.results67, go_sem]) rfl ?_
        exact ⟨⟨rfl, S1.out⟩, R1.out⟩
      rw [if_neg (fun h => h.elim (fun e => hp0 (ba_nil e)) fun h => h.elim hp1 hp2)]
      have e0 := ba_ne hp0
      have e1 := ba_ne hp1
      have e2 := ba_ne hp2
      rw [show (ByteArray.toList ⟨#[]⟩) = ([] : List UInt8) by rw [ByteArray.toList_eq]] at e0
      rw [show (ByteArray.toList dotB) = ([46] : List UInt8) by rw [ByteArray.toList_eq]] at e1
      rw [show (ByteArray.toList dotsB) = ([46, 46] : List UInt8) by rw [ByteArray.toList_eq]] at e2
      clear hp0 hp1 hp2
      by_cases hq0 : q = 0
      · subst hq0
        rw [if_pos rfl]
        go_enter Tryz.func67, Tryz.ntmps67
        go_wp2_with fail
        refine HL.out.mono ?_
        rintro e w1 ⟨⟨rfl, S1⟩, R1⟩
        obtain ⟨c0, c1, c2, c3⟩ := fs_cells S1
        have hl := fs_look S1 dir Hi.out
        rw [show blk F.L dir = some y.b by unfold blk; rw [Hy.out]; rfl] at hl
        unfold pv at hl
        obtain ⟨d0, d1, d2, d3, d4, d5⟩ := fs_at S1 Hy.out
        have S1 := Lib.hid S1
        have R1 := Lib.hid R1
        go_wp2_with fail
        refine (HS.out w1 S1.out).mono ?_
        rintro e w2 ⟨rfl, rfl⟩
        go_wp2_with fail
        refine bodyPost_ret (v := .tuple #[.int .i64 0, .string ⟨#[]⟩, .int .i64 11]) (by simp [results, Tryz.results67, go_sem]) rfl ?_
        exact ⟨⟨rfl, S1.out⟩, R1.out⟩
      rw [if_neg hq0]
      by_cases hq1 : q = 10
      case neg =>
        rw [if_pos hq1]
        go_enter Tryz.func67, Tryz.ntmps67
        go_wp2_with fail
        refine HL.out.mono ?_
        rintro e w1 ⟨⟨rfl, S1⟩, R1⟩
        obtain ⟨c0, c1, c2, c3⟩ := fs_cells S1
        have hl := fs_look S1 dir Hi.out
        rw [show blk F.L dir = some y.b by unfold blk; rw [Hy.out]; rfl] at hl
        unfold pv at hl
        obtain ⟨d0, d1, d2, d3, d4, d5⟩ := fs_at S1 Hy.out
        have S1 := Lib.hid S1
        have R1 := Lib.hid R1
        go_wp2_with fail
        refine (HS.out w1 S1.out).mono ?_
        rintro e w2 ⟨rfl, rfl⟩
        go_wp2_with fail
        refine bodyPost_ret (v := .tuple #[.int .i64 0, .string ⟨#[]⟩, .int .i64 q]) (by simp [results, Tryz.results67, go_sem]) rfl ?_
        exact ⟨⟨rfl, S1.out⟩, R1.out⟩
      subst hq1
      rw [if_neg (fun h => h rfl)]
      cases st with
      | false =>
        rw [if_neg (fun h => by cases h.1)]
        go_enter Tryz.func67, Tryz.ntmps67
        go_wp2_with fail
        refine HL.out.mono ?_
        rintro e w1 ⟨⟨rfl, S1⟩, R1⟩
        obtain ⟨c0, c1, c2, c3⟩ := fs_cells S1
        have hl := fs_look S1 dir Hi.out
        rw [show blk F.L dir = some y.b by unfold blk; rw [Hy.out]; rfl] at hl
        unfold pv at hl
        obtain ⟨d0, d1, d2, d3, d4, d5⟩ := fs_at S1 Hy.out
        have S1 := Lib.hid S1
        have R1 := Lib.hid R1
        go_wp2_with fail
        refine (HS.out w1 S1.out).mono ?_
        rintro e w2 ⟨rfl, rfl⟩
        go_wp2_with fail
        refine bodyPost_ret (v := .tuple #[.int .i64 dir, .string part, .int .i64 0]) (by simp [results, Tryz.results67, go_sem]) rfl ?_
        exact ⟨⟨rfl, S1.out⟩, R1.out⟩
      | true =>
        by_cases hk : k = 1
        · subst hk
          rw [if_neg (fun h => h.2 rfl)]
          go_enter Tryz.func67, Tryz.ntmps67
          go_wp2_with fail
          refine HL.out.mono ?_
          rintro e w1 ⟨⟨rfl, S1⟩, R1⟩
          obtain ⟨c0, c1, c2, c3⟩ := fs_cells S1
          have hl := fs_look S1 dir Hi.out
          rw [show blk F.L dir = some y.b by unfold blk; rw [Hy.out]; rfl] at hl
          unfold pv at hl
          obtain ⟨d0, d1, d2, d3, d4, d5⟩ := fs_at S1 Hy.out
          have S1 := Lib.hid S1
          have R1 := Lib.hid R1
          go_wp2_with fail
          refine (HS.out w1 S1.out).mono ?_
          rintro e w2 ⟨rfl, rfl⟩
          go_wp2_with fail
          refine bodyPost_ret (v := .tuple #[.int .i64 dir, .string part, .int .i64 0]) (by simp [results, Tryz.results67, go_sem]) rfl ?_
          exact ⟨⟨rfl, S1.out⟩, R1.out⟩
        · rw [if_pos ⟨rfl, hk⟩]
          go_enter Tryz.func67, Tryz.ntmps67
          go_wp2_with fail
          refine HL.out.mono ?_
          rintro e w1 ⟨⟨rfl, S1⟩, R1⟩
          obtain ⟨c0, c1, c2, c3⟩ := fs_cells S1
          have hl := fs_look S1 dir Hi.out
          rw [show blk F.L dir = some y.b by unfold blk; rw [Hy.out]; rfl] at hl
          unfold pv at hl
          obtain ⟨d0, d1, d2, d3, d4, d5⟩ := fs_at S1 Hy.out
          have S1 := Lib.hid S1
          have R1 := Lib.hid R1
          go_wp2_with fail
          refine (HS.out w1 S1.out).mono ?_
          rintro e w2 ⟨rfl, rfl⟩
          go_wp2_with fail
          refine bodyPost_ret (v := .tuple #[.int .i64 0, .string ⟨#[]⟩, .int .i64 12]) (by simp [results, Tryz.results67, go_sem]) rfl ?_
          exact ⟨⟨rfl, S1.out⟩, R1.out⟩
end Go.Proofs.YteienbdbhnikbaaGreatDoor.Hd

