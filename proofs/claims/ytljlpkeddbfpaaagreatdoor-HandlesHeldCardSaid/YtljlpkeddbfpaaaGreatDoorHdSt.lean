/- Stat of a table at each kind, and where no handle is. (printed by gen_hder.py) -/
import Derived.Test.YtljlpkeddbfpaaaGreatDoorHdEr
import Derived.Test.YtljlpkeddbfpaaaGreatDoorHdW
import Derived.Test.YtljlpkeddbfpaaaGreatDoorHdNa
namespace Go.Proofs.YtljlpkeddbfpaaaGreatDoor.Hd
open Go.RowKit Go.Maps Go.Proofs.YtljlpkeddbfpaaaGreatDoor Go.Proofs.YtljlpkeddbfpaaaGreatDoor.Hp
set_option linter.unusedVariables false
attribute [local go_sem] Oper.semAt_some

set_option maxRecDepth 100000 in
set_option maxHeartbeats 8000000 in
theorem TStat_text (tb fb pb hm n : Nat) (L : HL) (id : Int) (y : Hn) (s : ByteArray) (a : Nat) (hid : I64 id) (hy : findA L id = some y) (hyt : y.t = .text s a) (w : World) (R : Hp)
    (h : Sat w (tabHp tb fb pb hm L n * R)) :
    Calls Tryz.prog 24 #[pp tb, .int .i64 id] w fun e w' => e = .returned (.tuple #[inV 2 y.refs a 0 ⟨false, false, false⟩, .int .i64 0]) ∧ Below w.heap.size w w' := by
  have S0 := (h.alloc (inO 0 0 0 0 ⟨false, false, false⟩)).perm (show _ = tabHp tb fb pb hm L n * (pts w.heap.size (inO 0 0 0 0 ⟨false, false, false⟩) * R) by ac_rfl)
  have hB0 := (Below.refl w.heap.size w).alloc (Nat.le_refl _) (inO 0 0 0 0 ⟨false, false, false⟩)
  have HGt := get_calls tb fb pb hm n L id hid _ _ S0
  unfold getE at HGt
  rw [show hblk L id = some y.b by unfold hblk; rw [hy]; rfl, hy] at HGt
  unfold pv at HGt
  have HGt := Lib.hid HGt
  obtain ⟨X, S1, back⟩ := tab_node S0 hy
  obtain ⟨d0, d1⟩ := hn_cells S1
  rw [hyt] at S1 d1
  unfold thT at d1
  unfold thO at S1
  have hmi := meth_text_info y.xb
  have S2 := S1.perm (show _ = pts y.xb (txO s a) * (X * (pts w.heap.size (inO 0 0 0 0 ⟨false, false, false⟩) * R) * pts y.b (hnO y)) by ac_rfl)
  have HIn := Lib.hid (tinfo_calls y.xb s a _ _ S2)
  have S2 := Lib.hid S2
  have hB0 := Lib.hid hB0
  clear h S0 S1 back hy
  go_enter Tryz.func24, Tryz.ntmps24
  go_wp2_with fail
  refine HGt.out.mono ?_
  rintro e w1 ⟨rfl, rfl⟩
  go_wp2_with fail
  refine HIn.out.mono ?_
  rintro e w1 ⟨rfl, hB⟩
  have S3 := (S2.out.below hB).alloc (inO 2 0 a 0 ⟨true, false, false⟩)
  have S4 := (S2.out.below hB).alloc (inO 2 y.refs a 0 ⟨true, false, false⟩)
  have S4z := (S2.out.below hB).alloc (inO 2 y.refs a 0 ⟨false, false, false⟩)
  obtain ⟨p0, p1⟩ := hn_cells (S3.perm (show _ = pts y.b (hnO y) * (pts w1.heap.size (inO 2 0 a 0 ⟨true, false, false⟩) * (pts y.xb (txO s a) * (X * (pts w.heap.size (inO 0 0 0 0 ⟨false, false, false⟩) * R)))) by ac_rfl))
  obtain ⟨u0, u1, u2, u3, u4, u5, u6⟩ := in_cells S4
  obtain ⟨v0, v1, v2, v3, v4, v5, v6⟩ := in_cells S4z
  have S5 := S4z.perm (show _ = pts w.heap.size (inO 0 0 0 0 ⟨false, false, false⟩) * (pts w1.heap.size (inO 2 y.refs a 0 ⟨false, false, false⟩) * (pts y.b (hnO y) * (pts y.xb (txO s a) * (X * R)))) by ac_rfl)
  obtain ⟨z0, z1, z2, z3, z4, z5, z6⟩ := in_cells S5
  have f0 : ∀ i, (w1.alloc (inO 2 y.refs a 0 ⟨false, false, false⟩)).frozen? ⟨w.heap.size, i, none⟩ = false := fun i => free_at S5.get i
  have S6 := ((((((S5.set (i := 0) (.int .i64 2)).set (i := 1) (.int .i64 y.refs)).set (i := 2) (.int .i64 a)).set (i := 3) (.int .i64 0)).set (i := 4) (.bool false)).set (i := 5) (.bool false)).set (i := 6) (.bool false)
  obtain ⟨r0, r1, r2, r3, r4, r5, r6⟩ := in_cells (k := 2) (rf := y.refs) (a := a) (n := 0) (m := ⟨false, false, false⟩) S6
  have hle : w.heap.size ≤ w1.heap.size := Nat.le_trans hB0.out.size hB.size
  have HB := Lib.hid (((((((((hB0.out.trans (hB.mono hB0.out.size)).alloc hle (inO 2 y.refs a 0 ⟨false, false, false⟩)).setCell (Nat.le_refl _) (p := ⟨w.heap.size, 0, none⟩) (.int .i64 2)).setCell (Nat.le_refl _) (p := ⟨w.heap.size, 1, none⟩) (.int .i64 y.refs)).setCell (Nat.le_refl _) (p := ⟨w.heap.size, 2, none⟩) (.int .i64 a)).setCell (Nat.le_refl _) (p := ⟨w.heap.size, 3, none⟩) (.int .i64 0)).setCell (Nat.le_refl _) (p := ⟨w.heap.size, 4, none⟩) (.bool false)).setCell (Nat.le_refl _) (p := ⟨w.heap.size, 5, none⟩) (.bool false)).setCell (Nat.le_refl _) (p := ⟨w.heap.size, 6, none⟩) (.bool false))
  dsimp only at z4 z5 z6 u4 u5 u6 v4 v5 v6 r4 r5 r6
  clear hB HIn HGt d0 d1 S3 S4 S4z S5 S6 S2 hB0 hle
  go_wp2_with fail
  refine bodyPost_ret (v := .tuple #[inV 2 y.refs a 0 ⟨false, false, false⟩, .int .i64 0]) (by simp [results, Tryz.results24, go_sem, r0, r1, r2, r3, r4, r5, r6]) rfl ⟨rfl, HB.out⟩
set_option maxRecDepth 100000 in
set_option maxHeartbeats 8000000 in
theorem TStat_sink (tb fb pb hm n : Nat) (L : HL) (id : Int) (y : Hn) (sp q : Option Addr) (cap : Nat) (l : List UInt8) (most : Nat) (hid : I64 id) (hy : findA L id = some y) (hyt : y.t = .sink sp q cap l most) (w : World) (R : Hp)
    (h : Sat w (tabHp tb fb pb hm L n * R)) :
    Calls Tryz.prog 24 #[pp tb, .int .i64 id] w fun e w' => e = .returned (.tuple #[inV 3 y.refs (l.length : Int) 0 ⟨false, false, false⟩, .int .i64 0]) ∧ Below w.heap.size w w' := by
  have S0 := (h.alloc (inO 0 0 0 0 ⟨false, false, false⟩)).perm (show _ = tabHp tb fb pb hm L n * (pts w.heap.size (inO 0 0 0 0 ⟨false, false, false⟩) * R) by ac_rfl)
  have hB0 := (Below.refl w.heap.size w).alloc (Nat.le_refl _) (inO 0 0 0 0 ⟨false, false, false⟩)
  have HGt := get_calls tb fb pb hm n L id hid _ _ S0
  unfold getE at HGt
  rw [show hblk L id = some y.b by unfold hblk; rw [hy]; rfl, hy] at HGt
  unfold pv at HGt
  have HGt := Lib.hid HGt
  obtain ⟨X, S1, back⟩ := tab_node S0 hy
  obtain ⟨d0, d1⟩ := hn_cells S1
  rw [hyt] at S1 d1
  unfold thT at d1
  unfold thO at S1
  have hmi := meth_sink_info y.xb
  have S2 := S1.perm (show _ = pts y.xb (skO sp q l.length cap most) * (X * (pts w.heap.size (inO 0 0 0 0 ⟨false, false, false⟩) * R) * pts y.b (hnO y)) by ac_rfl)
  have HIn := Lib.hid (sinfo_calls y.xb sp q l.length cap most _ _ S2)
  have S2 := Lib.hid S2
  have hB0 := Lib.hid hB0
  clear h S0 S1 back hy
  go_enter Tryz.func24, Tryz.ntmps24
  go_wp2_with fail
  refine HGt.out.mono ?_
  rintro e w1 ⟨rfl, rfl⟩
  go_wp2_with fail
  refine HIn.out.mono ?_
  rintro e w1 ⟨rfl, hB⟩
  have S3 := (S2.out.below hB).alloc (inO 3 0 (l.length : Int) 0 ⟨false, true, false⟩)
  have S4 := (S2.out.below hB).alloc (inO 3 y.refs (l.length : Int) 0 ⟨false, true, false⟩)
  have S4z := (S2.out.below hB).alloc (inO 3 y.refs (l.length : Int) 0 ⟨false, false, false⟩)
  obtain ⟨p0, p1⟩ := hn_cells (S3.perm (show _ = pts y.b (hnO y) * (pts w1.heap.size (inO 3 0 (l.length : Int) 0 ⟨false, true, false⟩) * (pts y.xb (skO sp q l.length cap most) * (X * (pts w.heap.size (inO 0 0 0 0 ⟨false, false, false⟩) * R)))) by ac_rfl))
  obtain ⟨u0, u1, u2, u3, u4, u5, u6⟩ := in_cells S4
  obtain ⟨v0, v1, v2, v3, v4, v5, v6⟩ := in_cells S4z
  have S5 := S4z.perm (show _ = pts w.heap.size (inO 0 0 0 0 ⟨false, false, false⟩) * (pts w1.heap.size (inO 3 y.refs (l.length : Int) 0 ⟨false, false, false⟩) * (pts y.b (hnO y) * (pts y.xb (skO sp q l.length cap most) * (X * R)))) by ac_rfl)
  obtain ⟨z0, z1, z2, z3, z4, z5, z6⟩ := in_cells S5
  have f0 : ∀ i, (w1.alloc (inO 3 y.refs (l.length : Int) 0 ⟨false, false, false⟩)).frozen? ⟨w.heap.size, i, none⟩ = false := fun i => free_at S5.get i
  have S6 := ((((((S5.set (i := 0) (.int .i64 3)).set (i := 1) (.int .i64 y.refs)).set (i := 2) (.int .i64 (l.length : Int))).set (i := 3) (.int .i64 0)).set (i := 4) (.bool false)).set (i := 5) (.bool false)).set (i := 6) (.bool false)
  obtain ⟨r0, r1, r2, r3, r4, r5, r6⟩ := in_cells (k := 3) (rf := y.refs) (a := (l.length : Int)) (n := 0) (m := ⟨false, false, false⟩) S6
  have hle : w.heap.size ≤ w1.heap.size := Nat.le_trans hB0.out.size hB.size
  have HB := Lib.hid (((((((((hB0.out.trans (hB.mono hB0.out.size)).alloc hle (inO 3 y.refs (l.length : Int) 0 ⟨false, false, false⟩)).setCell (Nat.le_refl _) (p := ⟨w.heap.size, 0, none⟩) (.int .i64 3)).setCell (Nat.le_refl _) (p := ⟨w.heap.size, 1, none⟩) (.int .i64 y.refs)).setCell (Nat.le_refl _) (p := ⟨w.heap.size, 2, none⟩) (.int .i64 (l.length : Int))).setCell (Nat.le_refl _) (p := ⟨w.heap.size, 3, none⟩) (.int .i64 0)).setCell (Nat.le_refl _) (p := ⟨w.heap.size, 4, none⟩) (.bool false)).setCell (Nat.le_refl _) (p := ⟨w.heap.size, 5, none⟩) (.bool false)).setCell (Nat.le_refl _) (p := ⟨w.heap.size, 6, none⟩) (.bool false))
  dsimp only at z4 z5 z6 u4 u5 u6 v4 v5 v6 r4 r5 r6
  clear hB HIn HGt d0 d1 S3 S4 S4z S5 S6 S2 hB0 hle
  go_wp2_with fail
  refine bodyPost_ret (v := .tuple #[inV 3 y.refs (l.length : Int) 0 ⟨false, false, false⟩, .int .i64 0]) (by simp [results, Tryz.results24, go_sem, r0, r1, r2, r3, r4, r5, r6]) rfl ⟨rfl, HB.out⟩
set_option maxRecDepth 100000 in
set_option maxHeartbeats 8000000 in
theorem TStat_reader (tb fb pb hm n : Nat) (L : HL) (id : Int) (y : Hn) (bb eb bp frm : Nat) (data : List UInt8) (hid : I64 id) (hy : findA L id = some y) (hyt : y.t = .reader bb eb) (hf : frm + data.length ≤ 1000000000) (w : World) (R : Hp)
    (h : Sat w (tabHp tb fb pb hm L n * (Spill.bufX bb bp 3 4 frm data * R))) :
    Calls Tryz.prog 24 #[pp tb, .int .i64 id] w fun e w' => e = .returned (.tuple #[inV 4 y.refs (data.length : Int) 0 ⟨false, false, false⟩, .int .i64 0]) ∧ Below w.heap.size w w' := by
  have S0 := (h.alloc (inO 0 0 0 0 ⟨false, false, false⟩)).perm (show _ = tabHp tb fb pb hm L n * (Spill.bufX bb bp 3 4 frm data * (pts w.heap.size (inO 0 0 0 0 ⟨false, false, false⟩) * R)) by ac_rfl)
  have hB0 := (Below.refl w.heap.size w).alloc (Nat.le_refl _) (inO 0 0 0 0 ⟨false, false, false⟩)
  have HGt := get_calls tb fb pb hm n L id hid _ _ S0
  unfold getE at HGt
  rw [show hblk L id = some y.b by unfold hblk; rw [hy]; rfl, hy] at HGt
  unfold pv at HGt
  have HGt := Lib.hid HGt
  obtain ⟨X, S1, back⟩ := tab_node S0 hy
  obtain ⟨d0, d1⟩ := hn_cells S1
  rw [hyt] at S1 d1
  unfold thT at d1
  unfold thO at S1
  have hmi := meth_reader_info y.xb
  have S2 := S1.perm (show _ = pts y.xb (rdO bb eb) * (Spill.bufX bb bp 3 4 frm data * (X * (pts w.heap.size (inO 0 0 0 0 ⟨false, false, false⟩) * R) * pts y.b (hnO y))) by ac_rfl)
  have HIn := Lib.hid (rinfo_calls y.xb bb eb bp frm data hf _ _ S2)
  have S2 := Lib.hid S2
  have hB0 := Lib.hid hB0
  clear h S0 S1 back hy
  go_enter Tryz.func24, Tryz.ntmps24
  go_wp2_with fail
  refine HGt.out.mono ?_
  rintro e w1 ⟨rfl, rfl⟩
  go_wp2_with fail
  refine HIn.out.mono ?_
  rintro e w1 ⟨rfl, hB⟩
  have S3 := (S2.out.below hB).alloc (inO 4 0 (data.length : Int) 0 ⟨true, false, false⟩)
  have S4 := (S2.out.below hB).alloc (inO 4 y.refs (data.length : Int) 0 ⟨true, false, false⟩)
  have S4z := (S2.out.below hB).alloc (inO 4 y.refs (data.length : Int) 0 ⟨false, false, false⟩)
  obtain ⟨p0, p1⟩ := hn_cells (S3.perm (show _ = pts y.b (hnO y) * (pts w1.heap.size (inO 4 0 (data.length : Int) 0 ⟨true, false, false⟩) * (pts y.xb (rdO bb eb) * (Spill.bufX bb bp 3 4 frm data * (X * (pts w.heap.size (inO 0 0 0 0 ⟨false, false, false⟩) * R))))) by ac_rfl))
  obtain ⟨u0, u1, u2, u3, u4, u5, u6⟩ := in_cells S4
  obtain ⟨v0, v1, v2, v3, v4, v5, v6⟩ := in_cells S4z
  have S5 := S4z.perm (show _ = pts w.heap.size (inO 0 0 0 0 ⟨false, false, false⟩) * (pts w1.heap.size (inO 4 y.refs (data.length : Int) 0 ⟨false, false, false⟩) * (pts y.b (hnO y) * (pts y.xb (rdO bb eb) * (Spill.bufX bb bp 3 4 frm data * (X * R))))) by ac_rfl)
  obtain ⟨z0, z1, z2, z3, z4, z5, z6⟩ := in_cells S5
  have f0 : ∀ i, (w1.alloc (inO 4 y.refs (data.length : Int) 0 ⟨false, false, false⟩)).frozen? ⟨w.heap.size, i, none⟩ = false := fun i => free_at S5.get i
  have S6 := ((((((S5.set (i := 0) (.int .i64 4)).set (i := 1) (.int .i64 y.refs)).set (i := 2) (.int .i64 (data.length : Int))).set (i := 3) (.int .i64 0)).set (i := 4) (.bool false)).set (i := 5) (.bool false)).set (i := 6) (.bool false)
  obtain ⟨r0, r1, r2, r3, r4, r5, r6⟩ := in_cells (k := 4) (rf := y.refs) (a := (data.length : Int)) (n := 0) (m := ⟨false, false, false⟩) S6
  have hle : w.heap.size ≤ w1.heap.size := Nat.le_trans hB0.out.size hB.size
  have HB := Lib.hid (((((((((hB0.out.trans (hB.mono hB0.out.size)).alloc hle (inO 4 y.refs (data.length : Int) 0 ⟨false, false, false⟩)).setCell (Nat.le_refl _) (p := ⟨w.heap.size, 0, none⟩) (.int .i64 4)).setCell (Nat.le_refl _) (p := ⟨w.heap.size, 1, none⟩) (.int .i64 y.refs)).setCell (Nat.le_refl _) (p := ⟨w.heap.size, 2, none⟩) (.int .i64 (data.length : Int))).setCell (Nat.le_refl _) (p := ⟨w.heap.size, 3, none⟩) (.int .i64 0)).setCell (Nat.le_refl _) (p := ⟨w.heap.size, 4, none⟩) (.bool false)).setCell (Nat.le_refl _) (p := ⟨w.heap.size, 5, none⟩) (.bool false)).setCell (Nat.le_refl _) (p := ⟨w.heap.size, 6, none⟩) (.bool false))
  dsimp only at z4 z5 z6 u4 u5 u6 v4 v5 v6 r4 r5 r6
  clear hB HIn HGt d0 d1 S3 S4 S4z S5 S6 S2 hB0 hle
  go_wp2_with fail
  refine bodyPost_ret (v := .tuple #[inV 4 y.refs (data.length : Int) 0 ⟨false, false, false⟩, .int .i64 0]) (by simp [results, Tryz.results24, go_sem, r0, r1, r2, r3, r4, r5, r6]) rfl ⟨rfl, HB.out⟩
set_option maxRecDepth 100000 in
set_option maxHeartbeats 8000000 in
theorem TStat_writer (tb fb pb hm n : Nat) (L : HL) (id : Int) (y : Hn) (bb eb bp frm : Nat) (data : List UInt8) (hid : I64 id) (hy : findA L id = some y) (hyt : y.t = .writer bb eb) (hf : frm + data.length ≤ 1000000000) (w : World) (R : Hp)
    (h : Sat w (tabHp tb fb pb hm L n * (Spill.bufX bb bp 3 4 frm data * R))) :
    Calls Tryz.prog 24 #[pp tb, .int .i64 id] w fun e w' => e = .returned (.tuple #[inV 5 y.refs (data.length : Int) 0 ⟨false, false, false⟩, .int .i64 0]) ∧ Below w.heap.size w w' := by
  have S0 := (h.alloc (inO 0 0 0 0 ⟨false, false, false⟩)).perm (show _ = tabHp tb fb pb hm L n * (Spill.bufX bb bp 3 4 frm data * (pts w.heap.size (inO 0 0 0 0 ⟨false, false, false⟩) * R)) by ac_rfl)
  have hB0 := (Below.refl w.heap.size w).alloc (Nat.le_refl _) (inO 0 0 0 0 ⟨false, false, false⟩)
  have HGt := get_calls tb fb pb hm n L id hid _ _ S0
  unfold getE at HGt
  rw [show hblk L id = some y.b by unfold hblk; rw [hy]; rfl, hy] at HGt
  unfold pv at HGt
  have HGt := Lib.hid HGt
  obtain ⟨X, S1, back⟩ := tab_node S0 hy
  obtain ⟨d0, d1⟩ := hn_cells S1
  rw [hyt] at S1 d1
  unfold thT at d1
  unfold thO at S1
  have hmi := meth_writer_info y.xb
  have S2 := S1.perm (show _ = pts y.xb (wrO bb eb) * (Spill.bufX bb bp 3 4 frm data * (X * (pts w.heap.size (inO 0 0 0 0 ⟨false, false, false⟩) * R) * pts y.b (hnO y))) by ac_rfl)
  have HIn := Lib.hid (winfo_calls y.xb bb eb bp frm data hf _ _ S2)
  have S2 := Lib.hid S2
  have hB0 := Lib.hid hB0
  clear h S0 S1 back hy
  go_enter Tryz.func24, Tryz.ntmps24
  go_wp2_with fail
  refine HGt.out.mono ?_
  rintro e w1 ⟨rfl, rfl⟩
  go_wp2_with fail
  refine HIn.out.mono ?_
  rintro e w1 ⟨rfl, hB⟩
  have S3 := (S2.out.below hB).alloc (inO 5 0 (data.length : Int) 0 ⟨false, true, false⟩)
  have S4 := (S2.out.below hB).alloc (inO 5 y.refs (data.length : Int) 0 ⟨false, true, false⟩)
  have S4z := (S2.out.below hB).alloc (inO 5 y.refs (data.length : Int) 0 ⟨false, false, false⟩)
  obtain ⟨p0, p1⟩ := hn_cells (S3.perm (show _ = pts y.b (hnO y) * (pts w1.heap.size (inO 5 0 (data.length : Int) 0 ⟨false, true, false⟩) * (pts y.xb (wrO bb eb) * (Spill.bufX bb bp 3 4 frm data * (X * (pts w.heap.size (inO 0 0 0 0 ⟨false, false, false⟩) * R))))) by ac_rfl))
  obtain ⟨u0, u1, u2, u3, u4, u5, u6⟩ := in_cells S4
  obtain ⟨v0, v1, v2, v3, v4, v5, v6⟩ := in_cells S4z
  have S5 := S4z.perm (show _ = pts w.heap.size (inO 0 0 0 0 ⟨false, false, false⟩) * (pts w1.heap.size (inO 5 y.refs (data.length : Int) 0 ⟨false, false, false⟩) * (pts y.b (hnO y) * (pts y.xb (wrO bb eb) * (Spill.bufX bb bp 3 4 frm data * (X * R))))) by ac_rfl)
  obtain ⟨z0, z1, z2, z3, z4, z5, z6⟩ := in_cells S5
  have f0 : ∀ i, (w1.alloc (inO 5 y.refs (data.length : Int) 0 ⟨false, false, false⟩)).frozen? ⟨w.heap.size, i, none⟩ = false := fun i => free_at S5.get i
  have S6 := ((((((S5.set (i := 0) (.int .i64 5)).set (i := 1) (.int .i64 y.refs)).set (i := 2) (.int .i64 (data.length : Int))).set (i := 3) (.int .i64 0)).set (i := 4) (.bool false)).set (i := 5) (.bool false)).set (i := 6) (.bool false)
  obtain ⟨r0, r1, r2, r3, r4, r5, r6⟩ := in_cells (k := 5) (rf := y.refs) (a := (data.length : Int)) (n := 0) (m := ⟨false, false, false⟩) S6
  have hle : w.heap.size ≤ w1.heap.size := Nat.le_trans hB0.out.size hB.size
  have HB := Lib.hid (((((((((hB0.out.trans (hB.mono hB0.out.size)).alloc hle (inO 5 y.refs (data.length : Int) 0 ⟨false, false, false⟩)).setCell (Nat.le_refl _) (p := ⟨w.heap.size, 0, none⟩) (.int .i64 5)).setCell (Nat.le_refl _) (p := ⟨w.heap.size, 1, none⟩) (.int .i64 y.refs)).setCell (Nat.le_refl _) (p := ⟨w.heap.size, 2, none⟩) (.int .i64 (data.length : Int))).setCell (Nat.le_refl _) (p := ⟨w.heap.size, 3, none⟩) (.int .i64 0)).setCell (Nat.le_refl _) (p := ⟨w.heap.size, 4, none⟩) (.bool false)).setCell (Nat.le_refl _) (p := ⟨w.heap.size, 5, none⟩) (.bool false)).setCell (Nat.le_refl _) (p := ⟨w.heap.size, 6, none⟩) (.bool false))
  dsimp only at z4 z5 z6 u4 u5 u6 v4 v5 v6 r4 r5 r6
  clear hB HIn HGt d0 d1 S3 S4 S4z S5 S6 S2 hB0 hle
  go_wp2_with fail
  refine bodyPost_ret (v := .tuple #[inV 5 y.refs (data.length : Int) 0 ⟨false, false, false⟩, .int .i64 0]) (by simp [results, Tryz.results24, go_sem, r0, r1, r2, r3, r4, r5, r6]) rfl ⟨rfl, HB.out⟩
set_option maxRecDepth 100000 in
set_option maxHeartbeats 4000000 in
theorem TStat_none (tb fb pb hm n : Nat) (L : HL) (id : Int) (hid : I64 id) (hy : findA L id = none) (w : World) (R : Hp) (h : Sat w (tabHp tb fb pb hm L n * R)) :
    Calls Tryz.prog 24 #[pp tb, .int .i64 id] w fun e w' => e = .returned (.tuple #[inV 0 0 0 0 ⟨false, false, false⟩, .int .i64 18]) ∧ Below w.heap.size w w' := by
  have S0 := (h.alloc (inO 0 0 0 0 ⟨false, false, false⟩)).perm (show _ = tabHp tb fb pb hm L n * (pts w.heap.size (inO 0 0 0 0 ⟨false, false, false⟩) * R) by ac_rfl)
  have HGt := get_calls tb fb pb hm n L id hid _ _ S0
  unfold getE at HGt
  rw [show hblk L id = none by unfold hblk; rw [hy]; rfl, hy] at HGt
  unfold pv at HGt
  have HGt := Lib.hid HGt
  have HB := Lib.hid ((Below.refl w.heap.size w).alloc (Nat.le_refl _) (inO 0 0 0 0 ⟨false, false, false⟩))
  obtain ⟨r0, r1, r2, r3, r4, r5, r6⟩ := in_cells ((Sat.start w).alloc (inO 0 0 0 0 ⟨false, false, false⟩))
  clear h hy S0
  go_enter Tryz.func24, Tryz.ntmps24
  go_wp2_with fail
  refine HGt.out.mono ?_
  rintro e w1 ⟨rfl, rfl⟩
  clear HGt
  go_wp2_with fail
  exact bodyPost_ret (v := .tuple #[inV 0 0 0 0 ⟨false, false, false⟩, .int .i64 18]) (by simp [results, Tryz.results24, go_sem, r0, r1, r2, r3, r4, r5, r6]) rfl ⟨rfl, HB.out⟩
end Go.Proofs.YtljlpkeddbfpaaaGreatDoor.Hd
