/- Stat of a table at a file walked; the ends of a pipe. -/
import Derived.Test.YtljlpkeddbfpaaaGreatDoorHdV
namespace Go.Proofs.YtljlpkeddbfpaaaGreatDoor.Hd
open Go.RowKit Go.Maps Go.Proofs.YtljlpkeddbfpaaaGreatDoor Go.Proofs.YtljlpkeddbfpaaaGreatDoor.Hp
set_option linter.unusedVariables false
attribute [local go_sem] Oper.semAt_some

set_option maxRecDepth 100000 in
set_option maxHeartbeats 8000000 in
theorem TStat_file (tb fb pb hm n : Nat) (L : HL) (id k : Int) (y : Hn) (a : Nat) (m : Md) (hid : I64 id) (hy : findA L id = some y) (hyt : y.t = .file k a m) (w : World) (R : Hp)
    (h : Sat w (tabHp tb fb pb hm L n * R)) :
    Calls Tryz.prog 24 #[pp tb, .int .i64 id] w fun e w' => e = .returned (.tuple #[inV 1 y.refs a k m, .int .i64 0]) ∧ Below w.heap.size w w' := by
  have S0 := (h.alloc (inO 0 0 0 0 ⟨false, false, false⟩)).perm (show _ = tabHp tb fb pb hm L n * (pts w.heap.size (inO 0 0 0 0 ⟨false, false, false⟩) * R) by ac_rfl)
  have hB0 := (Below.refl w.heap.size w).alloc (Nat.le_refl _) (inO 0 0 0 0 ⟨false, false, false⟩)
  have HGt := get_calls tb fb pb hm n L id hid _ _ S0
  unfold getE at HGt
  rw [show hblk L id = some y.b by unfold hblk; rw [hy]; rfl, hy] at HGt
  unfold pv at HGt
  have HGt := Lib.hid HGt
  obtain ⟨X, S1, back⟩ := tab_node S0 hy
  obtain ⟨d0, d1⟩ := hn_cells S1
  rw [hyt] at S1 d1
  unfold thT at d1
  unfold thO at S1
  have hmi := meth_file_info y.xb
  have S2 := S1.perm (show _ = pts y.xb (flO fb k a m) * (X * (pts w.heap.size (inO 0 0 0 0 ⟨false, false, false⟩) * R) * pts y.b (hnO y)) by ac_rfl)
  have HIn := Lib.hid (finfo_calls y.xb fb k a m _ _ S2)
  have S2 := Lib.hid S2
  have hB0 := Lib.hid hB0
  obtain ⟨mr, mw, mm⟩ := m
  clear h S0 S1 back hy
  go_enter Tryz.func24, Tryz.ntmps24
  go_wp2_with fail
  refine HGt.out.mono ?_
  rintro e w1 ⟨rfl, rfl⟩
  go_wp2_with fail
  refine HIn.out.mono ?_
  rintro e w1 ⟨rfl, hB⟩
  have S3 := (S2.out.below hB).alloc (inO 1 0 a k ⟨mr, mw, mm⟩)
  have S4 := (S2.out.below hB).alloc (inO 1 y.refs a k ⟨mr, mw, mm⟩)
  obtain ⟨p0, p1⟩ := hn_cells (S3.perm (show _ = pts y.b (hnO y) * (pts w1.heap.size (inO 1 0 a k ⟨mr, mw, mm⟩) * (pts y.xb (flO fb k a ⟨mr, mw, mm⟩) * (X * (pts w.heap.size (inO 0 0 0 0 ⟨false, false, false⟩) * R)))) by ac_rfl))
  obtain ⟨u0, u1, u2, u3, u4, u5, u6⟩ := in_cells S4
  have S5 := S4.perm (show _ = pts w.heap.size (inO 0 0 0 0 ⟨false, false, false⟩) * (pts w1.heap.size (inO 1 y.refs a k ⟨mr, mw, mm⟩) * (pts y.b (hnO y) * (pts y.xb (flO fb k a ⟨mr, mw, mm⟩) * (X * R)))) by ac_rfl)
  obtain ⟨z0, z1, z2, z3, z4, z5, z6⟩ := in_cells S5
  have f0 : ∀ i, (w1.alloc (inO 1 y.refs a k ⟨mr, mw, mm⟩)).frozen? ⟨w.heap.size, i, none⟩ = false := fun i => free_at S5.get i
  have S6 := ((((((S5.set (i := 0) (.int .i64 1)).set (i := 1) (.int .i64 y.refs)).set (i := 2) (.int .i64 a)).set (i := 3) (.int .i64 k)).set (i := 4) (.bool mr)).set (i := 5) (.bool mw)).set (i := 6) (.bool mm)
  obtain ⟨r0, r1, r2, r3, r4, r5, r6⟩ := in_cells (k := 1) (rf := y.refs) (a := a) (n := k) (m := ⟨mr, mw, mm⟩) S6
  have hle : w.heap.size ≤ w1.heap.size := Nat.le_trans hB0.out.size hB.size
  have HB := Lib.hid (((((((((hB0.out.trans (hB.mono hB0.out.size)).alloc hle (inO 1 y.refs a k ⟨mr, mw, mm⟩)).setCell (Nat.le_refl _) (p := ⟨w.heap.size, 0, none⟩) (.int .i64 1)).setCell (Nat.le_refl _) (p := ⟨w.heap.size, 1, none⟩) (.int .i64 y.refs)).setCell (Nat.le_refl _) (p := ⟨w.heap.size, 2, none⟩) (.int .i64 a)).setCell (Nat.le_refl _) (p := ⟨w.heap.size, 3, none⟩) (.int .i64 k)).setCell (Nat.le_refl _) (p := ⟨w.heap.size, 4, none⟩) (.bool mr)).setCell (Nat.le_refl _) (p := ⟨w.heap.size, 5, none⟩) (.bool mw)).setCell (Nat.le_refl _) (p := ⟨w.heap.size, 6, none⟩) (.bool mm))
  dsimp only at z4 z5 z6 u4 u5 u6 r4 r5 r6
  clear hB HIn HGt d0 d1 S3 S4 S5 S6 S2 hB0 hle
  go_wp2_with fail
  refine bodyPost_ret (v := .tuple #[inV 1 y.refs a k ⟨mr, mw, mm⟩, .int .i64 0]) (by simp [results, Tryz.results24, go_sem, r0, r1, r2, r3, r4, r5, r6]) rfl ⟨rfl, HB.out⟩
end Go.Proofs.YtljlpkeddbfpaaaGreatDoor.Hd
