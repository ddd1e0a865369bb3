/- HandlesPlays, part 8 of 18: the texts HdW HdX HdY HdZ HdTx HdSk HdSn HdUs HdTr HdTt HdEr NdP NdQ NdR NdS, joined by a program. -/
import Derived.Test.YteienbdbhnikbaaGreatDoorPn7
import Derived.Lib.Builder
import Derived.Lib.UnsafeStr
import Derived.Laws.Externs
import Derived.Lib.CutLaws
namespace Go.Proofs.YteienbdbhnikbaaGreatDoor.Hd
open Go.RowKit Go.Maps Go.Proofs.YteienbdbhnikbaaGreatDoor Go.Proofs.YteienbdbhnikbaaGreatDoor.Hp
set_option linter.unusedVariables false
attribute [local go_sem] Oper.semAt_some

set_option maxRecDepth 100000 in
set_option maxHeartbeats 8000000 in
theorem TStat_file (tb fb pb hm n : Nat) (L : HL) (id k : Int) (y : Hn) (a : Nat) (m : Md) (hid : I64 id) (hy : findA L id = some y) (hyt : y.t = .file k a m) (w : World) (R : Hp)
    (h : Sat w (tabHp tb fb pb hm L n * R)) :
    Calls Tryz.prog 21 #[pp tb, .int .i64 id] w fun e w' => e = .returned (.tuple #[inV 1 y.refs a k m, .int .i64 0]) ∧ Below w.heap.size w w' := by
  have S0 := (h.alloc (inO 0 0 0 0 ⟨false, false, false⟩)).perm (show _ = tabHp tb fb pb hm L n * (pts w.heap.size (inO 0 0 0 0 ⟨false, false, false⟩) * R) by ac_rfl)
  have hB0 := (Below.refl w.heap.size w).alloc (Nat.le_refl _) (inO 0 0 0 0 ⟨false, false, false⟩)
  have HGt := get_calls tb fb pb hm n L id hid _ _ S0
  unfold getE at HGt
  rw [show hblk L id = some y.b by unfold hblk; rw [hy]; rfl, hy] at HGt
  unfold pv at HGt
  have HGt := Lib.hid HGt
  obtain ⟨X, S1, back⟩ := tab_node S0 hy
  obtain ⟨d0, d1⟩ := hn_cells S1
  rw [hyt] at S1 d1
  unfold thT at d1
  unfold thO at S1
  have hmi := meth_file_info y.xb
  have S2 := S1.perm (show _ = pts y.xb (flO fb k a m) * (X * (pts w.heap.size (inO 0 0 0 0 ⟨false, false, false⟩) * R) * pts y.b (hnO y)) by ac_rfl)
  have HIn := Lib.hid (finfo_calls y.xb fb k a m _ _ S2)
  have S2 := Lib.hid S2
  have hB0 := Lib.hid hB0
  obtain ⟨mr, mw, mm⟩ := m
  clear h S0 S1 back hy
  go_enter Tryz.func21, Tryz.ntmps21
  go_wp2_with fail
  refine HGt.out.mono ?_
  rintro e w1 ⟨rfl, rfl⟩
  go_wp2_with fail
  refine HIn.out.mono ?_
  rintro e w1 ⟨rfl, hB⟩
  have S3 := (S2.out.below hB).alloc (inO 1 0 a k ⟨mr, mw, mm⟩)
  have S4 := (S2.out.below hB).alloc (inO 1 y.refs a k ⟨mr, mw, mm⟩)
  obtain ⟨p0, p1⟩ := hn_cells (S3.perm (show _ = pts y.b (hnO y) * (pts w1.heap.size (inO 1 0 a k ⟨mr, mw, mm⟩) * (pts y.xb (flO fb k a ⟨mr, mw, mm⟩) * (X * (pts w.heap.size (inO 0 0 0 0 ⟨false, false, false⟩) * R)))) by ac_rfl))
  obtain ⟨u0, u1, u2, u3, u4, u5, u6⟩ := in_cells S4
  have S5 := S4.perm (show _ = pts w.heap.size (inO 0 0 0 0 ⟨false, false, false⟩) * (pts w1.heap.size (inO 1 y.refs a k ⟨mr, mw, mm⟩) * (pts y.b (hnO y) * (pts y.xb (flO fb k a ⟨mr, mw, mm⟩) * (X * R)))) by ac_rfl)
  obtain ⟨z0, z1, z2, z3, z4, z5, z6⟩ := in_cells S5
  have f0 : ∀ i, (w1.alloc (inO 1 y.refs a k ⟨mr, mw, mm⟩)).frozen? ⟨w.heap.size, i, none⟩ = false := fun i => free_at S5.get i
  have S6 := ((((((S5.set (i := 0) (.int .i64 1)).set (i := 1) (.int .i64 y.refs)).set (i := 2) (.int .i64 a)).set (i := 3) (.int .i64 k)).set (i := 4) (.bool mr)).set (i := 5) (.bool mw)).set (i := 6) (.bool mm)
  obtain ⟨r0, r1, r2, r3, r4, r5, r6⟩ := in_cells (k := 1) (rf := y.refs) (a := a) (n := k) (m := ⟨mr, mw, mm⟩) S6
  have hle : w.heap.size ≤ w1.heap.size := Nat.le_trans hB0.out.size hB.size
  have HB := Lib.hid (((((((((hB0.out.trans (hB.mono hB0.out.size)).alloc hle (inO 1 y.refs a k ⟨mr, mw, mm⟩)).setCell (Nat.le_refl _) (p := ⟨w.heap.size, 0, none⟩) (.int .i64 1)).setCell (Nat.le_refl _) (p := ⟨w.heap.size, 1, none⟩) (.int .i64 y.refs)).setCell (Nat.le_refl _) (p := ⟨w.heap.size, 2, none⟩) (.int .i64 a)).setCell (Nat.le_refl _) (p := ⟨w.heap.size, 3, none⟩) (.int .i64 k)).setCell (Nat.le_refl _) (p := ⟨w.heap.size, 4, none⟩) (.bool mr)).setCell (Nat.le_refl _) (p := ⟨w.heap.size, 5, none⟩) (.bool mw)).setCell (Nat.le_refl _) (p := ⟨w.heap.size, 6, none⟩) (.bool mm))
  dsimp only at z4 z5 z6 u4 u5 u6 r4 r5 r6
  clear hB HIn HGt d0 d1 S3 S4 S5 S6 S2 hB0 hle
  go_wp2_with fail
  refine bodyPost_ret (v := .tuple #[inV 1 y.refs a k ⟨mr, mw, mm⟩, .int .i64 0]) (by simp [results, Tryz.results21, go_sem, r0, r1, r2, r3, r4, r5, r6]) rfl ⟨rfl, HB.out⟩
end Go.Proofs.YteienbdbhnikbaaGreatDoor.Hd

namespace Go.Proofs.YteienbdbhnikbaaGreatDoor.Hd
open Go.RowKit Go.Maps Go.Proofs.YteienbdbhnikbaaGreatDoor Go.Proofs.YteienbdbhnikbaaGreatDoor.Hp
set_option linter.unusedVariables false
attribute [local go_sem] Oper.semAt_some

abbrev ebO (k : Int) : Obj := .cells #[.int .i64 k] 3 (0, 0)
abbrev rdO (bb eb : Nat) : Obj := .cells #[pp bb, pp eb] 147 (0, 0)
abbrev wrO (bb eb : Nat) : Obj := .cells #[pp bb, pp eb] 149 (0, 0)
set_option maxRecDepth 100000 in
set_option maxHeartbeats 8000000 in
theorem Pipe_calls (tb fb bp hm n held used opn tot : Nat) (L : HL) (g1 g2 : Nat) (hg1 : Free L g1) (hg2 : ∀ x, Free (((g1 : Int), x) :: L) g2) (hn : n ≤ 900000) (ho : opn ≤ 1000000) (w : World) (R : Hp)
    (h : Sat w (tabHp tb fb bp hm L n * (Spill.poolX bp 40 3 4 held used opn tot * R))) :
    Calls Tryz.prog 37 #[pp tb] w fun e w' => (e = .returned (.tuple #[.int .i64 (g1 : Int), .int .i64 (g2 : Int), .int .i64 0]) ∧
      ∃ bb eb h1 x1 h2 x2, Sat w' (tabHp tb fb bp hm (((g2 : Int), ⟨h2, 1, x2, .writer bb eb⟩) :: ((g1 : Int), ⟨h1, 1, x1, .reader bb eb⟩) :: L) (n + 2) * (Spill.poolX bp 40 3 4 held used (opn + 1) tot * (Spill.bufX bb bp 3 4 0 [] * (pts eb (ebO 2) * R))))) ∧ Ran w w' := by
  have S1 := h.alloc (ebO 2)
  obtain ⟨t0, t1, t2⟩ := tab_cells (S1.perm (show _ = tabHp tb fb bp hm L n * (pts w.heap.size (ebO 2) * (Spill.poolX bp 40 3 4 held used opn tot * R)) by ac_rfl))
  have HOp := Lib.hid (Spill.xopen bp 40 3 4 held used opn tot _ _ (by omega) (by omega) (by omega) (S1.perm (show _ = Spill.poolX bp 40 3 4 held used opn tot * (tabHp tb fb bp hm L n * (pts w.heap.size (ebO 2) * R)) by ac_rfl)))
  have R1 := Lib.hid (Ran.new (Below.refl 0 w) (ebO 2))
  clear h S1
  go_enter Tryz.func37, Tryz.ntmps37
  go_wp2_with fail
  refine HOp.out.mono ?_
  rintro e w1 ⟨bb, rfl, S2, R2⟩
  have R2 := Lib.hid (Ran.new (Below.trans R1.out R2) (rdO bb w.heap.size))
  have HA1 := Lib.hid (add_calls tb fb bp hm n L (.reader bb w.heap.size) w1.heap.size g1 hg1 (by omega) _ _ ((S2.alloc (rdO bb w.heap.size)).perm (show pts w1.heap.size (thO fb (.reader bb w.heap.size)) * _ = tabHp tb fb bp hm L n * (pts w1.heap.size (thO fb (.reader bb w.heap.size)) * (Spill.poolX bp 40 3 4 held used (opn + 1) tot * (Spill.bufX bb bp 3 4 0 [] * (pts w.heap.size (ebO 2) * R)))) by ac_rfl)))
  clear S2 HOp R1 t0 t1 t2
  go_wp2_with fail
  refine HA1.out.mono ?_
  rintro e w2 ⟨⟨rfl, h1, S3⟩, R3⟩
  have R3 := Lib.hid (Ran.new (Below.trans R2.out R3) (wrO bb w.heap.size))
  have HA2 := Lib.hid (add_calls tb fb bp hm (n + 1) _ (.writer bb w.heap.size) w2.heap.size g2 (hg2 _) (by omega) _ _ ((S3.alloc (wrO bb w.heap.size)).perm (show pts w2.heap.size (thO fb (.writer bb w.heap.size)) * _ = tabHp tb fb bp hm (((g1 : Int), ⟨h1, 1, w1.heap.size, .reader bb w.heap.size⟩) :: L) (n + 1) * (pts w2.heap.size (thO fb (.writer bb w.heap.size)) * (Spill.poolX bp 40 3 4 held used (opn + 1) tot * (Spill.bufX bb bp 3 4 0 [] * (pts w.heap.size (ebO 2) * R)))) by ac_rfl)))
  clear S3 HA1 R2
  go_wp2_with fail
  refine HA2.out.mono ?_
  rintro e w3 ⟨⟨rfl, h2, S4⟩, R4⟩
  have R4 := Lib.hid (Below.trans R3.out R4)
  have S4 := Lib.hid S4
  clear HA2 R3
  go_wp2_with fail
  refine bodyPost_ret (v := .tuple #[.int .i64 (g1 : Int), .int .i64 (g2 : Int), .int .i64 0]) (by simp [results, Tryz.results37, go_sem]) rfl ?_
  exact ⟨⟨rfl, bb, w.heap.size, h1, w1.heap.size, h2, w2.heap.size, S4.out⟩, R4.out⟩
theorem rd_cells {w : World} {b bb eb : Nat} {S : Hp} {T : TypeId} (h : Sat w (pts b (.cells #[pp bb, pp eb] T (0, 0)) * S)) : w.cell? ⟨b, 0, none⟩ = some (pp bb) ∧ w.cell? ⟨b, 1, none⟩ = some (pp eb) := by
  have hb := h.get
  refine ⟨?_, ?_⟩ <;> rw [cell_at hb] <;> rfl
end Go.Proofs.YteienbdbhnikbaaGreatDoor.Hd

namespace Go.Proofs.YteienbdbhnikbaaGreatDoor.Hd
open Go.RowKit Go.Maps Go.Proofs.YteienbdbhnikbaaGreatDoor Go.Proofs.YteienbdbhnikbaaGreatDoor.Hp
set_option linter.unusedVariables false
attribute [local go_sem] Oper.semAt_some

set_option maxRecDepth 100000 in
set_option maxHeartbeats 4000000 in
theorem rinfo_calls (xb bb eb bp frm : Nat) (data : List UInt8) (hf : frm + data.length ≤ 1000000000) (w : World) (R : Hp) (h : Sat w (pts xb (rdO bb eb) * (Spill.bufX bb bp 3 4 frm data * R))) :
    Calls Tryz.prog 168 #[pp xb] w fun e w' => e = .returned (inV 4 0 (data.length : Int) 0 ⟨true, false, false⟩) ∧ Below w.heap.size w w' := by
  have S1 := h.alloc (inO 0 0 0 0 ⟨false, false, false⟩)
  obtain ⟨d0, d1⟩ := rd_cells (S1.perm (show _ = pts xb (rdO bb eb) * (pts w.heap.size (inO 0 0 0 0 ⟨false, false, false⟩) * (Spill.bufX bb bp 3 4 frm data * R)) by ac_rfl))
  have HL := Lib.hid (Spill.xlen bb bp 3 4 frm data _ _ hf (S1.perm (show _ = Spill.bufX bb bp 3 4 frm data * (pts xb (rdO bb eb) * (pts w.heap.size (inO 0 0 0 0 ⟨false, false, false⟩) * R)) by ac_rfl)))
  have S1 := Lib.hid S1
  clear h
  go_enter Tryz.func168, Tryz.ntmps168
  go_wp2_with fail
  refine HL.out.mono ?_
  rintro e w1 ⟨rfl, nn, hw1⟩
  have S2 : Sat w1 (pts w.heap.size (inO 0 0 0 0 ⟨false, false, false⟩) * (pts xb (rdO bb eb) * (Spill.bufX bb bp 3 4 frm data * R))) := by rw [hw1]; exact S1.out.drewN nn
  have hfalse : Below w.heap.size w w1 := by rw [hw1]; exact ((Below.refl w.heap.size w).alloc (Nat.le_refl _) _).trans ⟨rfl, rfl, rfl, Nat.le_refl _, fun _ _ => rfl⟩
  obtain ⟨z0, z1, z2, z3, z4, z5, z6⟩ := in_cells S2
  have f0 : ∀ i, w1.frozen? ⟨w.heap.size, i, none⟩ = false := fun i => free_at S2.get i
  have S3 := ((((((S2.set (i := 0) (.int .i64 4)).set (i := 1) (.int .i64 0)).set (i := 2) (.int .i64 (data.length : Int))).set (i := 3) (.int .i64 0)).set (i := 4) (.bool true)).set (i := 5) (.bool false)).set (i := 6) (.bool false)
  obtain ⟨r0, r1, r2, r3, r4, r5, r6⟩ := in_cells (k := 4) (rf := 0) (a := (data.length : Int)) (n := 0) (m := ⟨true, false, false⟩) S3
  have HB := Lib.hid (((((((hfalse.setCell (Nat.le_refl _) (p := ⟨w.heap.size, 0, none⟩) (.int .i64 4)).setCell (Nat.le_refl _) (p := ⟨w.heap.size, 1, none⟩) (.int .i64 0)).setCell (Nat.le_refl _) (p := ⟨w.heap.size, 2, none⟩) (.int .i64 (data.length : Int))).setCell (Nat.le_refl _) (p := ⟨w.heap.size, 3, none⟩) (.int .i64 0)).setCell (Nat.le_refl _) (p := ⟨w.heap.size, 4, none⟩) (.bool true)).setCell (Nat.le_refl _) (p := ⟨w.heap.size, 5, none⟩) (.bool false)).setCell (Nat.le_refl _) (p := ⟨w.heap.size, 6, none⟩) (.bool false))
  dsimp only at z4 z5 z6 r4 r5 r6
  clear hw1 S1 S2 S3 hfalse HL d0 d1
  go_wp2_with fail
  exact bodyPost_ret (v := inV 4 0 (data.length : Int) 0 ⟨true, false, false⟩) (by simp [results, Tryz.results168, go_sem, r0, r1, r2, r3, r4, r5, r6]) rfl ⟨rfl, HB.out⟩
set_option maxRecDepth 100000 in
set_option maxHeartbeats 4000000 in
theorem winfo_calls (xb bb eb bp frm : Nat) (data : List UInt8) (hf : frm + data.length ≤ 1000000000) (w : World) (R : Hp) (h : Sat w (pts xb (wrO bb eb) * (Spill.bufX bb bp 3 4 frm data * R))) :
    Calls Tryz.prog 178 #[pp xb] w fun e w' => e = .returned (inV 5 0 (data.length : Int) 0 ⟨false, true, false⟩) ∧ Below w.heap.size w w' := by
  have S1 := h.alloc (inO 0 0 0 0 ⟨false, false, false⟩)
  obtain ⟨d0, d1⟩ := rd_cells (S1.perm (show _ = pts xb (wrO bb eb) * (pts w.heap.size (inO 0 0 0 0 ⟨false, false, false⟩) * (Spill.bufX bb bp 3 4 frm data * R)) by ac_rfl))
  have HL := Lib.hid (Spill.xlen bb bp 3 4 frm data _ _ hf (S1.perm (show _ = Spill.bufX bb bp 3 4 frm data * (pts xb (wrO bb eb) * (pts w.heap.size (inO 0 0 0 0 ⟨false, false, false⟩) * R)) by ac_rfl)))
  have S1 := Lib.hid S1
  clear h
  go_enter Tryz.func178, Tryz.ntmps178
  go_wp2_with fail
  refine HL.out.mono ?_
  rintro e w1 ⟨rfl, nn, hw1⟩
  have S2 : Sat w1 (pts w.heap.size (inO 0 0 0 0 ⟨false, false, false⟩) * (pts xb (wrO bb eb) * (Spill.bufX bb bp 3 4 frm data * R))) := by rw [hw1]; exact S1.out.drewN nn
  have htrue : Below w.heap.size w w1 := by rw [hw1]; exact ((Below.refl w.heap.size w).alloc (Nat.le_refl _) _).trans ⟨rfl, rfl, rfl, Nat.le_refl _, fun _ _ => rfl⟩
  obtain ⟨z0, z1, z2, z3, z4, z5, z6⟩ := in_cells S2
  have f0 : ∀ i, w1.frozen? ⟨w.heap.size, i, none⟩ = false := fun i => free_at S2.get i
  have S3 := ((((((S2.set (i := 0) (.int .i64 5)).set (i := 1) (.int .i64 0)).set (i := 2) (.int .i64 (data.length : Int))).set (i := 3) (.int .i64 0)).set (i := 4) (.bool false)).set (i := 5) (.bool true)).set (i := 6) (.bool false)
  obtain ⟨r0, r1, r2, r3, r4, r5, r6⟩ := in_cells (k := 5) (rf := 0) (a := (data.length : Int)) (n := 0) (m := ⟨false, true, false⟩) S3
  have HB := Lib.hid (((((((htrue.setCell (Nat.le_refl _) (p := ⟨w.heap.size, 0, none⟩) (.int .i64 5)).setCell (Nat.le_refl _) (p := ⟨w.heap.size, 1, none⟩) (.int .i64 0)).setCell (Nat.le_refl _) (p := ⟨w.heap.size, 2, none⟩) (.int .i64 (data.length : Int))).setCell (Nat.le_refl _) (p := ⟨w.heap.size, 3, none⟩) (.int .i64 0)).setCell (Nat.le_refl _) (p := ⟨w.heap.size, 4, none⟩) (.bool false)).setCell (Nat.le_refl _) (p := ⟨w.heap.size, 5, none⟩) (.bool true)).setCell (Nat.le_refl _) (p := ⟨w.heap.size, 6, none⟩) (.bool false))
  dsimp only at z4 z5 z6 r4 r5 r6
  clear hw1 S1 S2 S3 htrue HL d0 d1
  go_wp2_with fail
  exact bodyPost_ret (v := inV 5 0 (data.length : Int) 0 ⟨false, true, false⟩) (by simp [results, Tryz.results178, go_sem, r0, r1, r2, r3, r4, r5, r6]) rfl ⟨rfl, HB.out⟩
end Go.Proofs.YteienbdbhnikbaaGreatDoor.Hd

namespace Go.Proofs.YteienbdbhnikbaaGreatDoor.Hd
open Go.RowKit Go.Maps Go.Proofs.YteienbdbhnikbaaGreatDoor Go.Proofs.YteienbdbhnikbaaGreatDoor.Hp
set_option linter.unusedVariables false
attribute [local go_sem] Oper.semAt_some

end Go.Proofs.YteienbdbhnikbaaGreatDoor.Hd

namespace Go.Proofs.YteienbdbhnikbaaGreatDoor.Hd
open Go.RowKit Go.Maps Go.Proofs.YteienbdbhnikbaaGreatDoor Go.Proofs.YteienbdbhnikbaaGreatDoor.Hp
set_option linter.unusedVariables false
attribute [local go_sem] Oper.semAt_some

abbrev txO (s : ByteArray) (a : Int) : Obj := .cells #[.string s, .int .i64 a] 134 (0, 0)
theorem tx_cells {w : World} {b : Nat} {s : ByteArray} {a : Int} {S : Hp} (h : Sat w (pts b (txO s a) * S)) : w.cell? ⟨b, 0, none⟩ = some (.string s) ∧ w.cell? ⟨b, 1, none⟩ = some (.int .i64 a) := by
  have hb := h.get
  refine ⟨?_, ?_⟩ <;> rw [cell_at hb] <;> rfl
set_option maxRecDepth 100000 in
set_option maxHeartbeats 4000000 in
theorem tinfo_calls (xb : Nat) (s : ByteArray) (a : Int) (w : World) (R : Hp) (h : Sat w (pts xb (txO s a) * R)) :
    Calls Tryz.prog 153 #[pp xb] w fun e w' => e = .returned (inV 2 0 a 0 ⟨true, false, false⟩) ∧ Below w.heap.size w w' := by
  have D3 := (h.alloc (inO 0 0 0 0 ⟨false, false, false⟩)).perm (show _ = pts xb (txO s a) * (pts w.heap.size (inO 0 0 0 0 ⟨false, false, false⟩) * R) by ac_rfl)
  obtain ⟨d0, d1⟩ := tx_cells D3
  obtain ⟨r0, r1, r2, r3, r4, r5, r6⟩ := in_cells (h.alloc (inO 2 0 a 0 ⟨true, false, false⟩))
  have HB3 := Lib.hid ((Below.refl w.heap.size w).alloc (Nat.le_refl _) (inO 2 0 a 0 ⟨true, false, false⟩))
  clear h D3
  go_enter Tryz.func153, Tryz.ntmps153
  go_wp2_with fail
  exact bodyPost_ret (v := inV 2 0 a 0 ⟨true, false, false⟩) (by simp [results, Tryz.results153, go_sem, r0, r1, r2, r3, r4, r5, r6]) rfl ⟨rfl, HB3.out⟩
set_option maxRecDepth 100000 in
set_option maxHeartbeats 4000000 in
theorem Text_calls (tb fb pb hm n : Nat) (L : HL) (s : ByteArray) (g : Nat) (hs : s.size ≤ 1048576) (hg : Free L g) (hn : n ≤ 1000000) (w : World) (R : Hp) (h : Sat w (tabHp tb fb pb hm L n * R)) :
    Calls Tryz.prog 35 #[pp tb, .string s] w fun e w' => (e = .returned (.tuple #[.int .i64 (g : Int), .int .i64 0]) ∧ ∃ hb xb, Sat w' (tabHp tb fb pb hm (((g : Int), ⟨hb, 1, xb, .text s 0⟩) :: L) (n + 1) * R)) ∧ Ran w w' := by
  have HA := Lib.hid (add_calls tb fb pb hm n L (.text s 0) w.heap.size g hg hn _ _ ((h.alloc (txO s 0)).perm (show pts w.heap.size (thO fb (.text s 0)) * _ = tabHp tb fb pb hm L n * (pts w.heap.size (thO fb (.text s 0)) * R) by ac_rfl)))
  have R1 := Lib.hid (Ran.new (Below.refl 0 w) (txO s 0))
  have hsI : (s.size : Int) ≤ 1048576 := by omega
  clear h
  go_enter Tryz.func35, Tryz.ntmps35
  go_wp2_with fail
  refine HA.out.mono ?_
  rintro e w1 ⟨⟨rfl, hb, S2⟩, R2⟩
  have S2 := Lib.hid S2
  have R2 := Lib.hid (Below.trans R1.out R2)
  clear HA R1
  go_wp2_with fail
  go_ret2
  exact ⟨⟨rfl, hb, w.heap.size, S2.out⟩, R2.out⟩
end Go.Proofs.YteienbdbhnikbaaGreatDoor.Hd

namespace Go.Proofs.YteienbdbhnikbaaGreatDoor.Hd
open Go.RowKit Go.Maps Go.Proofs.YteienbdbhnikbaaGreatDoor Go.Proofs.YteienbdbhnikbaaGreatDoor.Hp
set_option linter.unusedVariables false
attribute [local go_sem] Oper.semAt_some

abbrev bs (s : ByteArray) : List UInt8 := s.data.toList
/-- A builder's bytes: its first z cells may be frozen. -/
def bufHp (q : Option Addr) (cap : Nat) (l : List UInt8) : Hp := match q with
  | none => fact (cap = 0 ∧ l = [])
  | some a => ex fun cur : Array Value => ex fun z : Nat => fact (a = ⟨a.block, 0, none⟩ ∧ l ≠ [] ∧ l.length ≤ cap ∧ cap ≤ maxLen ∧ cap ≤ cur.size ∧ z ≤ l.length ∧ ∀ j, j < l.length → cur[j]? = (Lib.byteCells l)[j]?) * pts a.block (.cells cur 5 (0, z))
section
variable {w : World} {R : Hp} {cap : Nat} {l : List UInt8}
theorem buf_start (h : Sat w R) : Sat w (bufHp none 0 [] * R) := h.fact_in ⟨rfl, rfl⟩
end
abbrev skO (sp q : Option Addr) (n cap : Nat) (most : Int) : Obj := .cells #[.pointer sp, .slice q n cap, .int .i64 most] 141 (0, 0)
theorem sk_cells {w : World} {b : Nat} {sp q : Option Addr} {n cap : Nat} {most : Int} {S : Hp} (h : Sat w (pts b (skO sp q n cap most) * S)) : w.cell? ⟨b, 0, none⟩ = some (.pointer sp) ∧ w.cell? ⟨b, 1, none⟩ = some (.slice q n cap) ∧ w.cell? ⟨b, 2, none⟩ = some (.int .i64 most) := by
  have hb := h.get
  refine ⟨?_, ?_, ?_⟩ <;> rw [cell_at hb] <;> rfl
theorem blen_calls (xb : Nat) (sp q : Option Addr) (n cap : Nat) (most : Int) (w : World) (S : Hp) (h : Sat w (pts xb (skO sp q n cap most) * S)) :
    Calls Tryz.prog 160 #[pp xb] w fun e w' => e = .returned (.int .i64 (n : Int)) ∧ w = w' := by
  obtain ⟨c0, c1, c2⟩ := sk_cells h
  clear h
  go_enter Tryz.func160, Tryz.ntmps160
  go_wp2_with fail
  go_ret
  exact ⟨rfl, rfl⟩
/-- The builder's own address, or nothing yet. -/
def SpOk (sp : Option Addr) (xb : Nat) : Prop := sp = none ∨ sp = some ⟨xb, 0, none⟩
end Go.Proofs.YteienbdbhnikbaaGreatDoor.Hd

namespace Go.Proofs.YteienbdbhnikbaaGreatDoor.Hd
open Go.RowKit Go.Maps Go.Proofs.YteienbdbhnikbaaGreatDoor Go.Proofs.YteienbdbhnikbaaGreatDoor.Hp
set_option linter.unusedVariables false
attribute [local go_sem] Oper.semAt_some

set_option maxRecDepth 100000 in
set_option maxHeartbeats 4000000 in
theorem sinfo_calls (xb : Nat) (sp q : Option Addr) (n cap : Nat) (most : Int) (w : World) (R : Hp) (h : Sat w (pts xb (skO sp q n cap most) * R)) :
    Calls Tryz.prog 157 #[pp xb] w fun e w' => e = .returned (inV 3 0 (n : Int) 0 ⟨false, true, false⟩) ∧ Below w.heap.size w w' := by
  have S1 := h.alloc (inO 0 0 0 0 ⟨false, false, false⟩)
  obtain ⟨d0, d1, d2⟩ := sk_cells (S1.perm (show _ = pts xb (skO sp q n cap most) * (pts w.heap.size (inO 0 0 0 0 ⟨false, false, false⟩) * R) by ac_rfl))
  have HL := Lib.hid (blen_calls xb sp q n cap most _ _ (S1.perm (show _ = pts xb (skO sp q n cap most) * (pts w.heap.size (inO 0 0 0 0 ⟨false, false, false⟩) * R) by ac_rfl)))
  have S1 := Lib.hid S1
  clear h
  go_enter Tryz.func157, Tryz.ntmps157
  go_wp2_with fail
  refine HL.out.mono ?_
  rintro e w1 ⟨rfl, hw1⟩
  have S2 : Sat w1 (pts w.heap.size (inO 0 0 0 0 ⟨false, false, false⟩) * (pts xb (skO sp q n cap most) * R)) := by rw [← hw1]; exact S1.out.perm (by ac_rfl)
  have hB : Below w.heap.size w w1 := by rw [← hw1]; exact (Below.refl w.heap.size w).alloc (Nat.le_refl _) _
  obtain ⟨z0, z1, z2, z3, z4, z5, z6⟩ := in_cells S2
  have f0 : ∀ i, w1.frozen? ⟨w.heap.size, i, none⟩ = false := fun i => free_at S2.get i
  have S3 := ((((((S2.set (i := 0) (.int .i64 3)).set (i := 1) (.int .i64 0)).set (i := 2) (.int .i64 (n : Int))).set (i := 3) (.int .i64 0)).set (i := 4) (.bool false)).set (i := 5) (.bool true)).set (i := 6) (.bool false)
  obtain ⟨r0, r1, r2, r3, r4, r5, r6⟩ := in_cells (k := 3) (rf := 0) (a := (n : Int)) (n := 0) (m := ⟨false, true, false⟩) S3
  have HB := Lib.hid (((((((hB.setCell (Nat.le_refl _) (p := ⟨w.heap.size, 0, none⟩) (.int .i64 3)).setCell (Nat.le_refl _) (p := ⟨w.heap.size, 1, none⟩) (.int .i64 0)).setCell (Nat.le_refl _) (p := ⟨w.heap.size, 2, none⟩) (.int .i64 (n : Int))).setCell (Nat.le_refl _) (p := ⟨w.heap.size, 3, none⟩) (.int .i64 0)).setCell (Nat.le_refl _) (p := ⟨w.heap.size, 4, none⟩) (.bool false)).setCell (Nat.le_refl _) (p := ⟨w.heap.size, 5, none⟩) (.bool true)).setCell (Nat.le_refl _) (p := ⟨w.heap.size, 6, none⟩) (.bool false))
  dsimp only at z4 z5 z6 r4 r5 r6
  clear hw1 S1 S2 S3 hB HL d0 d1 d2
  go_wp2_with fail
  exact bodyPost_ret (v := inV 3 0 (n : Int) 0 ⟨false, true, false⟩) (by simp [results, Tryz.results157, go_sem, r0, r1, r2, r3, r4, r5, r6]) rfl ⟨rfl, HB.out⟩
set_option maxRecDepth 100000 in
set_option maxHeartbeats 4000000 in
theorem Sink_calls (tb fb pb hm n : Nat) (L : HL) (most : Nat) (g : Nat) (hs : most ≤ 1048576) (hg : Free L g) (hn : n ≤ 1000000) (w : World) (R : Hp) (h : Sat w (tabHp tb fb pb hm L n * R)) :
    Calls Tryz.prog 36 #[pp tb, .int .i64 (most : Int)] w fun e w' => (e = .returned (.tuple #[.int .i64 (g : Int), .int .i64 0]) ∧ ∃ hb xb, Sat w' (tabHp tb fb pb hm (((g : Int), ⟨hb, 1, xb, .sink none none 0 [] most⟩) :: L) (n + 1) * (bufHp none 0 [] * R))) ∧ Ran w w' := by
  have HA := Lib.hid (add_calls tb fb pb hm n L (.sink none none 0 [] most) w.heap.size g hg hn _ _ (((buf_start h).alloc (skO none none 0 0 most)).perm (show pts w.heap.size (thO fb (.sink none none 0 [] most)) * _ = tabHp tb fb pb hm L n * (pts w.heap.size (thO fb (.sink none none 0 [] most)) * (bufHp none 0 [] * R)) by ac_rfl)))
  have R1 := Lib.hid (Ran.new (Below.refl 0 w) (skO none none 0 0 most))
  have hsI : (most : Int) ≤ 1048576 := by omega
  have hs0 : (0 : Int) ≤ (most : Int) := by omega
  clear h
  go_enter Tryz.func36, Tryz.ntmps36
  go_wp2_with fail
  refine HA.out.mono ?_
  rintro e w1 ⟨⟨rfl, hb, S2⟩, R2⟩
  have S2 := Lib.hid S2
  have R2 := Lib.hid (Below.trans R1.out R2)
  clear HA R1
  go_wp2_with fail
  go_ret2
  exact ⟨⟨rfl, hb, w.heap.size, S2.out⟩, R2.out⟩
end Go.Proofs.YteienbdbhnikbaaGreatDoor.Hd

namespace Go.Proofs.YteienbdbhnikbaaGreatDoor.Hd
open Go.RowKit Go.Maps Go.Proofs.YteienbdbhnikbaaGreatDoor Go.Proofs.YteienbdbhnikbaaGreatDoor.Hp
set_option linter.unusedVariables false
attribute [local go_sem] Oper.semAt_some

end Go.Proofs.YteienbdbhnikbaaGreatDoor.Hd

namespace Go.Proofs.YteienbdbhnikbaaGreatDoor.Hd
open Go.RowKit Go.Maps Go.Proofs.YteienbdbhnikbaaGreatDoor Go.Proofs.YteienbdbhnikbaaGreatDoor.Hp
set_option linter.unusedVariables false
attribute [local go_sem] Oper.semAt_some

end Go.Proofs.YteienbdbhnikbaaGreatDoor.Hd

namespace Go.Proofs.YteienbdbhnikbaaGreatDoor.Hd
open Go.RowKit Go.Maps Go.Proofs.YteienbdbhnikbaaGreatDoor Go.Proofs.YteienbdbhnikbaaGreatDoor.Hp
set_option linter.unusedVariables false
attribute [local go_sem] Oper.semAt_some

end Go.Proofs.YteienbdbhnikbaaGreatDoor.Hd

namespace Go.Proofs.YteienbdbhnikbaaGreatDoor.Hd
open Go.RowKit Go.Maps Go.Proofs.YteienbdbhnikbaaGreatDoor Go.Proofs.YteienbdbhnikbaaGreatDoor.Hp
set_option linter.unusedVariables false
attribute [local go_sem] Oper.semAt_some

end Go.Proofs.YteienbdbhnikbaaGreatDoor.Hd

namespace Go.Proofs.YteienbdbhnikbaaGreatDoor.Hd
open Go.RowKit Go.Maps Go.Proofs.YteienbdbhnikbaaGreatDoor Go.Proofs.YteienbdbhnikbaaGreatDoor.Hp
set_option linter.unusedVariables false

abbrev dotB : ByteArray := ⟨#[46]⟩
abbrev dotsB : ByteArray := ⟨#[46, 46]⟩
/-- May it be a name? -/
def rightB (s : ByteArray) : Bool := !decide (s.size = 0) && !decide (s = dotB) && !decide (s = dotsB) && decide (s.size ≤ 32) && decide (Lib.indexByte s.data.toList 0 < 0)
def tellP (n : Int) : Int × Int := if n = 0 then (0, 10) else (n, 0)
/-- The number that a directory has at a name. -/
def kidP (x : Nd) (s : ByteArray) : Int := match x.kids with
  | none => 0
  | some kd => (kd.M s).getD 0
def stepP (F : Fs) (d : Int) (s : ByteArray) : Int × Int := match find F.L d with
  | none => (0, 12)
  | some x => if x.kind = 1 then (if s = dotB then tellP d else if s = dotsB then tellP x.par else if rightB s = false then (0, 16) else tellP (kidP x s)) else (0, 12)
def textOf (F : Fs) (k : Int) : ByteArray := ((find F.L k).map Nd.text).getD ⟨#[]⟩
def beginP (at_ : Int) (s : ByteArray) : Int × Int := if s.size = 0 then (0, 10) else if 256 < s.size then (0, 21) else if s.data.toList.head? = some 47 then (1, 0) else (at_, 0)
/-- Where a path comes to, by parts: a node, what is wrong, the links that were followed. -/
def loopP (F : Fs) : Nat → Int → Int → List UInt8 → Bool → (Int × Int) × Int
  | 0, links, _, _, _ => ((0, 17), links)
  | g + 1, links, at_, path, follow =>
    if (Lib.cut (Lib.trimLeftB path 47) [47]).1 = [] then ((at_, 0), links)
    else if (stepP F at_ ⟨(Lib.cut (Lib.trimLeftB path 47) [47]).1.toArray⟩).2 ≠ 0 then ((0, (stepP F at_ ⟨(Lib.cut (Lib.trimLeftB path 47) [47]).1.toArray⟩).2), links)
    else
      let c := Lib.cut (Lib.trimLeftB path 47) [47]
      let n := (stepP F at_ ⟨c.1.toArray⟩).1
      let fin : Int → Int → (Int × Int) × Int := fun n lk => if c.2.2 = false then ((n, 0), lk) else if isK F n 1 = false then ((0, 12), lk) else loopP F g lk n c.2.1 follow
      if (isK F n 3 && (c.2.2 || follow)) = true then
        if 8 < links + 1 then ((0, 17), links + 1)
        else if (beginP at_ (textOf F n)).2 ≠ 0 then ((0, (beginP at_ (textOf F n)).2), links + 1)
        else
          let r := loopP F g (links + 1) (beginP at_ (textOf F n)).1 (textOf F n).data.toList true
          if r.1.2 ≠ 0 then ((0, r.1.2), r.2) else fin r.1.1 r.2
      else fin n links
theorem loop_links (F : Fs) : ∀ (g : Nat) (links at_ : Int) (path : List UInt8) (follow : Bool), links ≤ (loopP F g links at_ path follow).2
  | 0, links, _, _, _ => Int.le_refl _
  | g + 1, links, at_, path, follow => by
    have ih := loop_links F g
    unfold loopP
    dsimp only
    split
    · exact Int.le_refl _
    split
    · exact Int.le_refl _
    split
    · split
      · show links ≤ links + 1; omega
      split
      · show links ≤ links + 1; omega
      split
      · have := ih (links + 1) (beginP at_ (textOf F (stepP F at_ ⟨(Lib.cut (Lib.trimLeftB path 47) [47]).1.toArray⟩).1)).1 (textOf F (stepP F at_ ⟨(Lib.cut (Lib.trimLeftB path 47) [47]).1.toArray⟩).1).data.toList true
        show links ≤ _
        omega
      · have h1 := ih (links + 1) (beginP at_ (textOf F (stepP F at_ ⟨(Lib.cut (Lib.trimLeftB path 47) [47]).1.toArray⟩).1)).1 (textOf F (stepP F at_ ⟨(Lib.cut (Lib.trimLeftB path 47) [47]).1.toArray⟩).1).data.toList true
        split
        · show links ≤ _; omega
        split
        · show links ≤ _; omega
        · refine Int.le_trans ?_ (ih _ _ _ _)
          omega
    · split
      · exact Int.le_refl _
      split
      · exact Int.le_refl _
      · exact ih _ _ _ _
end Go.Proofs.YteienbdbhnikbaaGreatDoor.Hd

namespace Go.Proofs.YteienbdbhnikbaaGreatDoor.Hd
open Go.RowKit Go.Maps Go.Proofs.YteienbdbhnikbaaGreatDoor Go.Proofs.YteienbdbhnikbaaGreatDoor.Hp
set_option linter.unusedVariables false
attribute [local go_sem] Oper.semAt_some

theorem ba_ne {s t : ByteArray} (h : s ≠ t) : (s.toList == t.toList) = false := by
  cases e : (s.toList == t.toList) with
  | false => rfl
  | true =>
    rw [beq_iff_eq, ByteArray.toList_eq, ByteArray.toList_eq] at e
    exact absurd (ByteArray.ext (Array.ext' e)) h
theorem ba_nil {s : ByteArray} (h : s.size = 0) : s = ⟨#[]⟩ := by
  obtain ⟨d⟩ := s
  rw [Array.eq_empty_of_size_eq_zero (show d.size = 0 from h)]
set_option maxRecDepth 100000 in
theorem rightN_calls (s : ByteArray) (w : World) (hs : s.size ≤ 1000000) :
    Calls Tryz.prog 86 #[.string s] w fun e w' => e = .returned (.bool (rightB s)) ∧ w = w' := by
  by_cases h0 : s.size = 0
  · obtain rfl := ba_nil h0
    rw [show rightB ⟨#[]⟩ = false from rfl]
    clear h0
    go_enter Tryz.func86, Tryz.ntmps86
    go_wp2_with fail
    go_ret
    exact ⟨rfl, rfl⟩
  by_cases h1 : s = dotB
  · subst h1
    rw [show rightB dotB = false by decide]
    clear h0
    go_enter Tryz.func86, Tryz.ntmps86
    go_wp2_with fail
    go_ret
    exact ⟨rfl, rfl⟩
  by_cases h2 : s = dotsB
  · subst h2
    rw [show rightB dotsB = false by decide]
    clear h0 h1
    go_enter Tryz.func86, Tryz.ntmps86
    go_wp2_with fail
    go_ret
    exact ⟨rfl, rfl⟩
  have hn0 : s ≠ ⟨#[]⟩ := fun e => h0 (by rw [e]; rfl)
  have e0 := ba_ne hn0
  have e1 := ba_ne h1
  have e2 := ba_ne h2
  rw [show (ByteArray.toList ⟨#[]⟩) = ([] : List UInt8) by rw [ByteArray.toList_eq]] at e0
  rw [show (ByteArray.toList dotB) = ([46] : List UInt8) by rw [ByteArray.toList_eq]] at e1
  rw [show (ByteArray.toList dotsB) = ([46, 46] : List UInt8) by rw [ByteArray.toList_eq]] at e2
  have hr : rightB s = (decide (s.size ≤ 32) && decide (Lib.indexByte s.data.toList 0 < 0)) := by
    unfold rightB
    rw [decide_eq_false h0, decide_eq_false h1, decide_eq_false h2]
    simp
  rw [hr]
  have hsI : (s.size : Int) ≤ 1000000 := by omega
  clear hn0 hr h0 h1 h2
  by_cases h3 : s.size ≤ 32
  · have HIx := Tryz.strings_IndexByte s 0 w
    have h3I : (s.size : Int) ≤ 32 := by omega
    rw [decide_eq_true h3, Bool.true_and]
    obtain ⟨x, hx⟩ : ∃ x, x = Lib.indexByte s.data.toList 0 := ⟨_, rfl⟩
    rw [← hx]
    have HX := Lib.hid hx
    have HIx := Lib.hid HIx
    clear hx h3
    go_enter Tryz.func86, Tryz.ntmps86
    go_wp2_with fail
    refine HIx.out.mono ?_
    rintro e w1 ⟨rfl, rfl⟩
    rw [show Lib.indexByte s.data.toList (Int.toNat 0).toUInt8 = x from HX.out.symm]
    go_wp2_with fail
    go_ret
    exact ⟨rfl, rfl⟩
  · have h3I : ¬ (s.size : Int) ≤ 32 := by omega
    rw [decide_eq_false h3, Bool.false_and]
    clear h3
    go_enter Tryz.func86, Tryz.ntmps86
    go_wp2_with fail
    go_ret
    exact ⟨rfl, rfl⟩
end Go.Proofs.YteienbdbhnikbaaGreatDoor.Hd

namespace Go.Proofs.YteienbdbhnikbaaGreatDoor.Hd
open Go.RowKit Go.Maps Go.Proofs.YteienbdbhnikbaaGreatDoor Go.Proofs.YteienbdbhnikbaaGreatDoor.Hp
set_option linter.unusedVariables false
attribute [local go_sem] Oper.semAt_some

theorem smap_none (k : ByteArray) (hk : k.size ≤ maxLen) (w : World) : (Instr.lookup 116 (.map none) (.string k) false).run Tryz.prog w = .ok (.int .i64 0) w := by
  have := Maps.look_nil (w := w) false K.strKey Tryz.underlying116 (K.zeroInt w) (K.key_of hk)
  simpa using this
set_option maxRecDepth 100000 in
set_option maxHeartbeats 4000000 in
theorem stepN_calls (fb mb : Nat) (F : Fs) (d : Int) (s : ByteArray) (hd : I64 d) (hs : s.size ≤ 1000000) (w : World) (R : Hp) (h : Sat w (fsHp fb mb F * R)) :
    Calls Tryz.prog 72 #[pp fb, .int .i64 d, .string s] w fun e w' => e = .returned (.tuple #[.int .i64 (stepP F d s).1, .int .i64 (stepP F d s).2]) ∧ w = w' := by
  have HI := is_calls fb mb F d 1 hd w R h
  unfold isK at HI
  unfold stepP
  cases hx : find F.L d with
  | none =>
    rw [hx] at HI
    have HI := Lib.hid HI
    clear h hx
    go_enter Tryz.func72, Tryz.ntmps72
    go_wp2_with fail
    refine HI.out.mono ?_
    rintro e w1 ⟨rfl, rfl⟩
    go_wp2_with fail
    go_ret2
    exact ⟨rfl, rfl⟩
  | some x =>
    rw [hx] at HI
    dsimp only at HI ⊢
    by_cases h1 : x.kind = 1
    · rw [if_pos h1]
      rw [h1, show ((1 : Int) == 1) = true by rfl] at HI
      have HI := Lib.hid HI
      obtain ⟨c0, c1, c2, c3⟩ := fs_cells h
      have hl := fs_look h d hd
      rw [show blk F.L d = some x.b by unfold blk; rw [hx]; rfl] at hl
      unfold pv at hl
      obtain ⟨X, S1, -⟩ := fs_node h hx
      obtain ⟨d0, d1, d2, d3, d4, d5⟩ := nd_cells S1
      by_cases hs1 : s = dotB
      · rw [if_pos hs1]
        subst hs1
        clear h hx S1
        unfold tellP
        by_cases hz : d = 0
        · rw [if_pos hz]
          subst hz
          go_enter Tryz.func72, Tryz.ntmps72
          go_wp2_with fail
          refine HI.out.mono ?_
          rintro e w1 ⟨rfl, rfl⟩
          go_wp2_with fail
          go_ret2
          exact ⟨rfl, rfl⟩
        · rw [if_neg hz]
          go_enter Tryz.func72, Tryz.ntmps72
          go_wp2_with fail
          refine HI.out.mono ?_
          rintro e w1 ⟨rfl, rfl⟩
          go_wp2_with fail
          go_ret2
          exact ⟨rfl, rfl⟩
      rw [if_neg hs1]
      by_cases hs2 : s = dotsB
      · rw [if_pos hs2]
        subst hs2
        clear h hx S1 hs1
        unfold tellP
        obtain ⟨y, hy⟩ : ∃ y, y = x.par := ⟨_, rfl⟩
        rw [← hy] at d3 ⊢
        clear hy
        by_cases hz : y = 0
        · rw [if_pos hz]
          subst hz
          go_enter Tryz.func72, Tryz.ntmps72
          go_wp2_with fail
          refine HI.out.mono ?_
          rintro e w1 ⟨rfl, rfl⟩
          go_wp2_with fail
          go_ret2
          exact ⟨rfl, rfl⟩
        · rw [if_neg hz]
          go_enter Tryz.func72, Tryz.ntmps72
          go_wp2_with fail
          refine HI.out.mono ?_
          rintro e w1 ⟨rfl, rfl⟩
          go_wp2_with fail
          go_ret2
          exact ⟨rfl, rfl⟩
      rw [if_neg hs2]
      have e1 := ba_ne hs1
      have e2 := ba_ne hs2
      rw [show (ByteArray.toList dotB) = ([46] : List UInt8) by rw [ByteArray.toList_eq]] at e1
      rw [show (ByteArray.toList dotsB) = ([46, 46] : List UInt8) by rw [ByteArray.toList_eq]] at e2
      have HR := rightN_calls s w hs
      by_cases hr : rightB s = false
      · rw [if_pos hr]
        rw [hr] at HR
        have HR := Lib.hid HR
        clear h hx S1 hs1 hs2 hr
        go_enter Tryz.func72, Tryz.ntmps72
        go_wp2_with fail
        refine HI.out.mono ?_
        rintro e w1 ⟨rfl, rfl⟩
        go_wp2_with fail
        refine HR.out.mono ?_
        rintro e w1 ⟨rfl, rfl⟩
        go_wp2_with fail
        go_ret2
        exact ⟨rfl, rfl⟩
      rw [if_neg hr]
      rw [show rightB s = true by simpa using hr] at HR
      have HR := Lib.hid HR
      have hlk : ∃ v, (Instr.lookup 116 (kv x.kids) (.string s) false).run Tryz.prog w = .ok (.int .i64 v) w ∧ v = kidP x s := by
        unfold kidP
        cases hk : x.kids with
        | none => exact ⟨0, smap_none s (by unfold maxLen; omega) w, rfl⟩
        | some kd =>
          rw [hk] at S1
          exact ⟨_, K.smap_look (S1.perm (show _ = K.smap kd.b kd.M kd.sz kd.n * (pts x.b (ndO x) * (pts fb (fsO F mb) * (X * R))) by unfold kidsHp; ac_rfl)) s (by unfold maxLen; omega), rfl⟩
      obtain ⟨v, hlv, hv⟩ := hlk
      rw [← hv]
      unfold tellP
      obtain ⟨kw, hkw⟩ : ∃ k, k = kv x.kids := ⟨_, rfl⟩
      rw [← hkw] at d2 hlv
      clear h hx S1 hs1 hs2 hr hv hkw
      by_cases hz : v = 0
      · rw [if_pos hz]
        subst hz
        go_enter Tryz.func72, Tryz.ntmps72
        go_wp2_with fail
        refine HI.out.mono ?_
        rintro e w1 ⟨rfl, rfl⟩
        go_wp2_with fail
        refine HR.out.mono ?_
        rintro e w1 ⟨rfl, rfl⟩
        go_wp2_with fail
        go_ret2
        exact ⟨rfl, rfl⟩
      · rw [if_neg hz]
        go_enter Tryz.func72, Tryz.ntmps72
        go_wp2_with fail
        refine HI.out.mono ?_
        rintro e w1 ⟨rfl, rfl⟩
        go_wp2_with fail
        refine HR.out.mono ?_
        rintro e w1 ⟨rfl, rfl⟩
        go_wp2_with fail
        go_ret2
        exact ⟨rfl, rfl⟩
    · rw [if_neg h1]
      rw [show (x.kind == 1) = false by simpa using h1] at HI
      have HI := Lib.hid HI
      clear h hx h1
      go_enter Tryz.func72, Tryz.ntmps72
      go_wp2_with fail
      refine HI.out.mono ?_
      rintro e w1 ⟨rfl, rfl⟩
      go_wp2_with fail
      go_ret2
      exact ⟨rfl, rfl⟩
end Go.Proofs.YteienbdbhnikbaaGreatDoor.Hd

namespace Go.Proofs.YteienbdbhnikbaaGreatDoor.Hd
open Go.RowKit Go.Maps Go.Proofs.YteienbdbhnikbaaGreatDoor Go.Proofs.YteienbdbhnikbaaGreatDoor.Hp
set_option linter.unusedVariables false
attribute [local go_sem] Oper.semAt_some

theorem head_eq {s : ByteArray} (h : 0 < s.size) : s.data.toList.head? = some s[0] := by
  obtain ⟨d⟩ := s
  have h2 : 0 < d.size := h
  show d.toList.head? = some d[0]
  rw [List.head?_eq_getElem?, Array.getElem?_toList, Array.getElem?_eq_getElem h2]
set_option maxRecDepth 100000 in
theorem beginN_calls (wb : Nat) (at_ : Int) (s : ByteArray) (hs : s.size ≤ 1000000) (w : World) :
    Calls Tryz.prog 81 #[pp wb, .int .i64 at_, .string s] w fun e w' => e = .returned (.tuple #[.int .i64 (beginP at_ s).1, .int .i64 (beginP at_ s).2]) ∧ w = w' := by
  unfold beginP
  by_cases h0 : s.size = 0
  · rw [if_pos h0]
    obtain rfl := ba_nil h0
    clear h0
    go_enter Tryz.func81, Tryz.ntmps81
    go_wp2_with fail
    go_ret2
    exact ⟨rfl, rfl⟩
  rw [if_neg h0]
  have hn0 : s ≠ ⟨#[]⟩ := fun e => h0 (by rw [e]; rfl)
  have e0 := ba_ne hn0
  rw [show (ByteArray.toList ⟨#[]⟩) = ([] : List UInt8) by rw [ByteArray.toList_eq]] at e0
  by_cases h1 : 256 < s.size
  · rw [if_pos h1]
    have h1I : (256 : Int) < (s.size : Int) := by omega
    clear h0 h1 hn0
    go_enter Tryz.func81, Tryz.ntmps81
    go_wp2_with fail
    go_ret2
    exact ⟨rfl, rfl⟩
  rw [if_neg h1]
  have h1I : ¬ (256 : Int) < (s.size : Int) := by omega
  have hp : 0 < s.size := by omega
  have hpI : (0 : Int) < (s.size : Int) := by omega
  rw [head_eq hp]
  by_cases h2 : s[0] = 47
  · rw [if_pos (by rw [h2])]
    clear h0 h1 hn0
    go_enter Tryz.func81, Tryz.ntmps81
    go_wp2_with fail
    go_ret2
    exact ⟨rfl, rfl⟩
  · rw [if_neg (fun e => h2 (Option.some.inj e))]
    have h2I : ¬ ((s[0].toNat : Nat) : Int) = 47 := fun e => h2 (UInt8.toNat_inj.1 (show s[0].toNat = 47 by omega))
    clear h0 h1 hn0
    go_enter Tryz.func81, Tryz.ntmps81
    go_wp2_with fail
    go_ret2
    exact ⟨rfl, rfl⟩
end Go.Proofs.YteienbdbhnikbaaGreatDoor.Hd

