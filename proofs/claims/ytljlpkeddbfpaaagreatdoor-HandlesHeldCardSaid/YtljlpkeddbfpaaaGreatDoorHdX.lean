/- Pipe; info, write, read of its ends walked. -/
import Derived.Test.YtljlpkeddbfpaaaGreatDoorHdW
namespace Go.Proofs.YtljlpkeddbfpaaaGreatDoor.Hd
open Go.RowKit Go.Maps Go.Proofs.YtljlpkeddbfpaaaGreatDoor Go.Proofs.YtljlpkeddbfpaaaGreatDoor.Hp
set_option linter.unusedVariables false
attribute [local go_sem] Oper.semAt_some

abbrev ebO (k : Int) : Obj := .cells #[.int .i64 k] 3 (0, 0)
abbrev rdO (bb eb : Nat) : Obj := .cells #[pp bb, pp eb] 113 (0, 0)
abbrev wrO (bb eb : Nat) : Obj := .cells #[pp bb, pp eb] 115 (0, 0)
set_option maxRecDepth 100000 in
set_option maxHeartbeats 8000000 in
theorem Pipe_calls (tb fb bp hm n held used opn tot : Nat) (L : HL) (g1 g2 : Nat) (hg1 : Free L g1) (hg2 : ∀ x, Free (((g1 : Int), x) :: L) g2) (hn : n ≤ 900000) (ho : opn ≤ 1000000) (w : World) (R : Hp)
    (h : Sat w (tabHp tb fb bp hm L n * (Spill.poolX bp 40 3 4 held used opn tot * R))) :
    Calls Tryz.prog 16 #[pp tb] w fun e w' => (e = .returned (.tuple #[.int .i64 (g1 : Int), .int .i64 (g2 : Int), .int .i64 0]) ∧
      ∃ bb eb h1 x1 h2 x2, Sat w' (tabHp tb fb bp hm (((g2 : Int), ⟨h2, 1, x2, .writer bb eb⟩) :: ((g1 : Int), ⟨h1, 1, x1, .reader bb eb⟩) :: L) (n + 2) * (Spill.poolX bp 40 3 4 held used (opn + 1) tot * (Spill.bufX bb bp 3 4 0 [] * (pts eb (ebO 2) * R))))) ∧ Ran w w' := by
  have S1 := h.alloc (ebO 2)
  obtain ⟨t0, t1, t2⟩ := tab_cells (S1.perm (show _ = tabHp tb fb bp hm L n * (pts w.heap.size (ebO 2) * (Spill.poolX bp 40 3 4 held used opn tot * R)) by ac_rfl))
  have HOp := Lib.hid (Spill.xopen bp 40 3 4 held used opn tot _ _ (by omega) (by omega) (by omega) (S1.perm (show _ = Spill.poolX bp 40 3 4 held used opn tot * (tabHp tb fb bp hm L n * (pts w.heap.size (ebO 2) * R)) by ac_rfl)))
  have R1 := Lib.hid (Ran.new (Below.refl 0 w) (ebO 2))
  clear h S1
  go_enter Tryz.func16, Tryz.ntmps16
  go_wp2_with fail
  refine HOp.out.mono ?_
  rintro e w1 ⟨bb, rfl, S2, R2⟩
  have R2 := Lib.hid (Ran.new (Below.trans R1.out R2) (rdO bb w.heap.size))
  have HA1 := Lib.hid (add_calls tb fb bp hm n L (.reader bb w.heap.size) w1.heap.size g1 hg1 (by omega) _ _ ((S2.alloc (rdO bb w.heap.size)).perm (show pts w1.heap.size (thO fb (.reader bb w.heap.size)) * _ = tabHp tb fb bp hm L n * (pts w1.heap.size (thO fb (.reader bb w.heap.size)) * (Spill.poolX bp 40 3 4 held used (opn + 1) tot * (Spill.bufX bb bp 3 4 0 [] * (pts w.heap.size (ebO 2) * R)))) by ac_rfl)))
  clear S2 HOp R1 t0 t1 t2
  go_wp2_with fail
  refine HA1.out.mono ?_
  rintro e w2 ⟨⟨rfl, h1, S3⟩, R3⟩
  have R3 := Lib.hid (Ran.new (Below.trans R2.out R3) (wrO bb w.heap.size))
  have HA2 := Lib.hid (add_calls tb fb bp hm (n + 1) _ (.writer bb w.heap.size) w2.heap.size g2 (hg2 _) (by omega) _ _ ((S3.alloc (wrO bb w.heap.size)).perm (show pts w2.heap.size (thO fb (.writer bb w.heap.size)) * _ = tabHp tb fb bp hm (((g1 : Int), ⟨h1, 1, w1.heap.size, .reader bb w.heap.size⟩) :: L) (n + 1) * (pts w2.heap.size (thO fb (.writer bb w.heap.size)) * (Spill.poolX bp 40 3 4 held used (opn + 1) tot * (Spill.bufX bb bp 3 4 0 [] * (pts w.heap.size (ebO 2) * R)))) by ac_rfl)))
  clear S3 HA1 R2
  go_wp2_with fail
  refine HA2.out.mono ?_
  rintro e w3 ⟨⟨rfl, h2, S4⟩, R4⟩
  have R4 := Lib.hid (Below.trans R3.out R4)
  have S4 := Lib.hid S4
  clear HA2 R3
  go_wp2_with fail
  refine bodyPost_ret (v := .tuple #[.int .i64 (g1 : Int), .int .i64 (g2 : Int), .int .i64 0]) (by simp [results, Tryz.results16, go_sem]) rfl ?_
  exact ⟨⟨rfl, bb, w.heap.size, h1, w1.heap.size, h2, w2.heap.size, S4.out⟩, R4.out⟩
theorem rd_cells {w : World} {b bb eb : Nat} {S : Hp} {T : TypeId} (h : Sat w (pts b (.cells #[pp bb, pp eb] T (0, 0)) * S)) : w.cell? ⟨b, 0, none⟩ = some (pp bb) ∧ w.cell? ⟨b, 1, none⟩ = some (pp eb) := by
  have hb := h.get
  refine ⟨?_, ?_⟩ <;> rw [cell_at hb] <;> rfl
end Go.Proofs.YtljlpkeddbfpaaaGreatDoor.Hd
