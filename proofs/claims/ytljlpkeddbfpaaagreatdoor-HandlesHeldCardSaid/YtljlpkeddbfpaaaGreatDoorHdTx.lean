/- A text's info and read; Text of a table walked. -/
import Derived.Test.YtljlpkeddbfpaaaGreatDoorHdJ
namespace Go.Proofs.YtljlpkeddbfpaaaGreatDoor.Hd
open Go.RowKit Go.Maps Go.Proofs.YtljlpkeddbfpaaaGreatDoor Go.Proofs.YtljlpkeddbfpaaaGreatDoor.Hp
set_option linter.unusedVariables false
attribute [local go_sem] Oper.semAt_some

abbrev txO (s : ByteArray) (a : Int) : Obj := .cells #[.string s, .int .i64 a] 107 (0, 0)
theorem tx_cells {w : World} {b : Nat} {s : ByteArray} {a : Int} {S : Hp} (h : Sat w (pts b (txO s a) * S)) : w.cell? ⟨b, 0, none⟩ = some (.string s) ∧ w.cell? ⟨b, 1, none⟩ = some (.int .i64 a) := by
  have hb := h.get
  refine ⟨?_, ?_⟩ <;> rw [cell_at hb] <;> rfl
set_option maxRecDepth 100000 in
set_option maxHeartbeats 4000000 in
theorem tinfo_calls (xb : Nat) (s : ByteArray) (a : Int) (w : World) (R : Hp) (h : Sat w (pts xb (txO s a) * R)) :
    Calls Tryz.prog 212 #[pp xb] w fun e w' => e = .returned (inV 2 0 a 0 ⟨true, false, false⟩) ∧ Below w.heap.size w w' := by
  have D3 := (h.alloc (inO 0 0 0 0 ⟨false, false, false⟩)).perm (show _ = pts xb (txO s a) * (pts w.heap.size (inO 0 0 0 0 ⟨false, false, false⟩) * R) by ac_rfl)
  obtain ⟨d0, d1⟩ := tx_cells D3
  obtain ⟨r0, r1, r2, r3, r4, r5, r6⟩ := in_cells (h.alloc (inO 2 0 a 0 ⟨true, false, false⟩))
  have HB3 := Lib.hid ((Below.refl w.heap.size w).alloc (Nat.le_refl _) (inO 2 0 a 0 ⟨true, false, false⟩))
  clear h D3
  go_enter Tryz.func212, Tryz.ntmps212
  go_wp2_with fail
  exact bodyPost_ret (v := inV 2 0 a 0 ⟨true, false, false⟩) (by simp [results, Tryz.results212, go_sem, r0, r1, r2, r3, r4, r5, r6]) rfl ⟨rfl, HB3.out⟩
set_option maxRecDepth 100000 in
set_option maxHeartbeats 4000000 in
theorem Text_calls (tb fb pb hm n : Nat) (L : HL) (s : ByteArray) (g : Nat) (hs : s.size ≤ 1048576) (hg : Free L g) (hn : n ≤ 1000000) (w : World) (R : Hp) (h : Sat w (tabHp tb fb pb hm L n * R)) :
    Calls Tryz.prog 15 #[pp tb, .string s] w fun e w' => (e = .returned (.tuple #[.int .i64 (g : Int), .int .i64 0]) ∧ ∃ hb xb, Sat w' (tabHp tb fb pb hm (((g : Int), ⟨hb, 1, xb, .text s 0⟩) :: L) (n + 1) * R)) ∧ Ran w w' := by
  have HA := Lib.hid (add_calls tb fb pb hm n L (.text s 0) w.heap.size g hg hn _ _ ((h.alloc (txO s 0)).perm (show pts w.heap.size (thO fb (.text s 0)) * _ = tabHp tb fb pb hm L n * (pts w.heap.size (thO fb (.text s 0)) * R) by ac_rfl)))
  have R1 := Lib.hid (Ran.new (Below.refl 0 w) (txO s 0))
  have hsI : (s.size : Int) ≤ 1048576 := by omega
  clear h
  go_enter Tryz.func15, Tryz.ntmps15
  go_wp2_with fail
  refine HA.out.mono ?_
  rintro e w1 ⟨⟨rfl, hb, S2⟩, R2⟩
  have S2 := Lib.hid S2
  have R2 := Lib.hid (Below.trans R1.out R2)
  clear HA R1
  go_wp2_with fail
  go_ret2
  exact ⟨⟨rfl, hb, w.heap.size, S2.out⟩, R2.out⟩
end Go.Proofs.YtljlpkeddbfpaaaGreatDoor.Hd
