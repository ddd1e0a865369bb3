/- HandlesPlays, part 15 of 34: the texts HdAA HdAB HdO HdOp, joined by a program. -/
import Derived.Test.YtljlpkeddbfpaaaGreatDoorHm8
import Derived.Test.YtljlpkeddbfpaaaGreatDoorHm14
import Derived.Test.YtljlpkeddbfpaaaGreatDoorRows
import Derived.ProofKit
import Derived.OpenShut
import Derived.ShutString
import Derived.ChangeOld
import Derived.Deep.Slices
import Derived.Lib.SmallJoins
import Derived.Deep.Strs
import Derived.LaidMore
import Derived.Lay
import Derived.Handed
namespace Go.Proofs.YtljlpkeddbfpaaaGreatDoor.Hd
open Go.RowKit Go.Maps Go.Proofs.YtljlpkeddbfpaaaGreatDoor Go.Proofs.YtljlpkeddbfpaaaGreatDoor.Hp
set_option linter.unusedVariables false
attribute [local go_sem] Oper.semAt_some

theorem find_put (F : Fs) (k j : Int) (x' : Nd) (h : (find F.L k).isSome = true) : find (F.put k x').L j = if j = k then some x' else find F.L j := find_upd F.L k j x' h
theorem FsOk.put {F : Fs} (h : FsOk F) {k : Int} {x' : Nd} (hk : (find F.L k).isSome = true) (hx : NdOk x') : FsOk (F.put k x') := fun j z hz => by
  rw [find_put F k j x' hk] at hz
  split at hz
  · injection hz with hz; rw [← hz]; exact hx
  · exact h j z hz
theorem holdP_eq {F : Fs} {k : Int} {x : Nd} (h : find F.L k = some x) : holdP F k = F.put k { x with holds := x.holds + 1 } := by unfold holdP; rw [h]
theorem dropP_eq {F : Fs} {k : Int} {x : Nd} (h : find F.L k = some x) (h0 : x.holds ≠ 0) : dropP F k = F.put k { x with holds := x.holds - 1 } := by unfold dropP; rw [h]; exact if_neg h0
theorem Begun.ok {F : Fs} (h : Begun F) : FsOk F := fun k x hx => by
  obtain ⟨b1, k1, e1, s1⟩ := h.n1
  obtain ⟨b2, e2⟩ := h.n2
  obtain ⟨b3, e3⟩ := h.n3
  obtain ⟨b4, e4⟩ := h.n4
  obtain ⟨b5, k5, e5, s5⟩ := h.n5
  have hk := (h.only k).1 (by rw [hx]; rfl)
  have hcs : k = 1 ∨ k = 2 ∨ k = 3 ∨ k = 4 ∨ k = 5 := by omega
  rcases hcs with rfl | rfl | rfl | rfl | rfl
  · rw [e1] at hx; injection hx with hx; subst hx
    exact ⟨Nat.zero_le _, by show k1.sz ≤ _; omega, ⟨by show (0 : Int) ≤ 0; omega, by show (0 : Int) ≤ 1000000; omega⟩, ⟨by show (0 : Int) ≤ 0; omega, by show (0 : Int) ≤ 1000000; omega⟩⟩
  · rw [e2] at hx; injection hx with hx; subst hx
    exact ⟨by show 3 ≤ _; omega, Nat.zero_le _, ⟨by show (0 : Int) ≤ 0; omega, by show (0 : Int) ≤ 1000000; omega⟩, ⟨by show (0 : Int) ≤ 1; omega, by show (1 : Int) ≤ 1000000; omega⟩⟩
  · rw [e3] at hx; injection hx with hx; subst hx
    exact ⟨Nat.zero_le _, Nat.zero_le _, ⟨by show (0 : Int) ≤ 0; omega, by show (0 : Int) ≤ 1000000; omega⟩, ⟨by show (0 : Int) ≤ 1; omega, by show (1 : Int) ≤ 1000000; omega⟩⟩
  · rw [e4] at hx; injection hx with hx; subst hx
    exact ⟨by show 1 ≤ _; omega, Nat.zero_le _, ⟨by show (0 : Int) ≤ 0; omega, by show (0 : Int) ≤ 1000000; omega⟩, ⟨by show (0 : Int) ≤ 1; omega, by show (1 : Int) ≤ 1000000; omega⟩⟩
  · rw [e5] at hx; injection hx with hx; subst hx
    exact ⟨Nat.zero_le _, by show k5.sz ≤ _; omega, ⟨by show (0 : Int) ≤ 0; omega, by show (0 : Int) ≤ 1000000; omega⟩, ⟨by show (0 : Int) ≤ 1; omega, by show (1 : Int) ≤ 1000000; omega⟩⟩
theorem free1 : Free [] 1 := ⟨Nat.le_refl _, Nat.le_refl _, rfl, fun j h1 h2 => by omega⟩
theorem free2 (x : Hn) : Free [((1 : Int), x)] 2 := ⟨by omega, Nat.le_refl _, rfl, fun j h1 h2 => by
  have : j = 1 := by omega
  subst this; rfl⟩
theorem free3 (x y : Hn) : Free [((2 : Int), y), ((1 : Int), x)] 3 := ⟨by omega, Nat.le_refl _, rfl, fun j h1 h2 => by
  have : j = 1 ∨ j = 2 := by omega
  rcases this with rfl | rfl <;> rfl⟩
theorem read_xy : readB xyz 0 2 = ⟨#[120, 121]⟩ := by decide
theorem read_z : readB xyz 2 9 = ⟨#[122]⟩ := by decide
theorem nd1 (x : Hn) : NodupK [((1 : Int), x)] := by unfold NodupK; simp
theorem nd2 (x y : Hn) : NodupK [((2 : Int), y), ((1 : Int), x)] := by unfold NodupK; simp
theorem nd3 (x y z : Hn) : NodupK [((3 : Int), z), ((2 : Int), y), ((1 : Int), x)] := by unfold NodupK; simp
abbrev wdO (fb bp tb : Nat) : Obj := woO (pp fb) (pp bp) (pp tb)
set_option maxRecDepth 100000 in
set_option maxHeartbeats 16000000 in
theorem awake_calls (w : World) (R : Hp) (h : Sat w R) :
    Calls Tryz.prog 8 #[] w fun e w' => (e = .returned (.bool true) ∧ Sat w' R) ∧ Ran w w' := by
  have HB := Lib.hid (begun_calls w R h)
  clear h
  go_enter Tryz.func8, Tryz.ntmps8
  go_wp2_with fail
  refine HB.out.mono ?_
  rintro e w1 ⟨⟨fb, mb, tb, hm, bp, F, rfl, hF, S1⟩, R1⟩
  clear HB
  have hok := hF.ok
  obtain ⟨b2, hx⟩ := hF.n2
  have S2 := S1.alloc (wdO fb bp tb)
  have R2 := Lib.hid (Ran.new R1 (wdO fb bp tb))
  obtain ⟨wb, hwb⟩ : ∃ b, b = w1.heap.size := ⟨_, rfl⟩
  obtain ⟨w2, hw2⟩ : ∃ w2, w2 = w1.alloc (wdO fb bp tb) := ⟨_, rfl⟩
  rw [← hwb, ← hw2] at S2
  rw [← hw2] at R2
  obtain ⟨c0, c1, c2⟩ := wo_cells S2
  have S2 := S2.perm (show _ = fsHp fb mb F * (tabHp tb fb bp hm [] 0 * (Spill.poolX bp 40 3 4 0 0 0 0 * (pts wb (wdO fb bp tb) * R))) by ac_rfl)
  have HC := Lib.hid (File_calls tb fb mb bp hm 0 F [] 2 ⟨true, false, false⟩ _ 1 (by unfold I64; omega) hok hx rfl (.inl rfl) free1 (by omega) w2 _ S2)
  have Hok := Lib.hid hok
  have Hx := Lib.hid hx
  clear S1 R1 S2 hok hx hF
  go_upto_region 4 with fail
  rw [← hwb, ← hw2]
  clear hwb hw2
  go_wp2_with fail
  refine HC.out.mono ?_
  rintro e w3 ⟨⟨rfl, hb1, xb1, S⟩, Rr⟩
  have hF1 := holdP_eq Hx.out
  have hx1 : find (holdP F 2).L 2 = some ⟨b2, 2, xyz, none, 0, 1, 1⟩ := by rw [hF1, find_put F 2 2 _ (by rw [Hx.out]; rfl), if_pos rfl]; rfl
  have hok1 : FsOk (holdP F 2) := by rw [hF1]; exact Hok.out.put (by rw [Hx.out]; rfl) ⟨by show 3 ≤ _; omega, Nat.zero_le _, ⟨by show (0 : Int) ≤ 0 + 1; omega, by show (0 : Int) + 1 ≤ 1000000; omega⟩, ⟨by show (0 : Int) ≤ 1; omega, by show (1 : Int) ≤ 1000000; omega⟩⟩
  obtain ⟨F1, hF1e⟩ : ∃ F1, F1 = holdP F 2 := ⟨_, rfl⟩
  rw [← hF1e] at S hx1 hok1
  have Hx1 := Lib.hid hx1
  have Hok1 := Lib.hid hok1
  clear hF1 hx1 hok1 hF1e
  have R3 := Lib.hid (Below.trans R2.out Rr)
  have S : Sat w3 (fsHp fb mb F1 * (tabHp tb fb bp hm [((1 : Int), (⟨hb1, 1, xb1, .file 2 0 ⟨true, false, false⟩⟩ : Hn))] 1 * (Spill.poolX bp 40 3 4 0 0 0 0 * (pts wb (wdO fb bp tb) * R)))) := S
  clear c0 c1 c2 HC R2
  obtain ⟨c0, c1, c2⟩ := wo_cells (S.perm (show _ = pts wb (wdO fb bp tb) * (fsHp fb mb F1 * (tabHp tb fb bp hm [((1 : Int), (⟨hb1, 1, xb1, .file 2 0 ⟨true, false, false⟩⟩ : Hn))] 1 * (Spill.poolX bp 40 3 4 0 0 0 0 * R))) by ac_rfl))
  have HC := Lib.hid (Ref_calls tb fb bp hm 1 ([((1 : Int), (⟨hb1, 1, xb1, .file 2 0 ⟨true, false, false⟩⟩ : Hn))] : HL) 1 ⟨hb1, 1, xb1, .file 2 0 ⟨true, false, false⟩⟩ (by unfold I64; omega) rfl (by show (0 : Int) ≤ 1; omega) (by show (1 : Int) ≤ 1000000; omega) w3 _ (S.perm (show _ = tabHp tb fb bp hm [((1 : Int), (⟨hb1, 1, xb1, .file 2 0 ⟨true, false, false⟩⟩ : Hn))] 1 * (fsHp fb mb F1 * (Spill.poolX bp 40 3 4 0 0 0 0 * (pts wb (wdO fb bp tb) * R))) by ac_rfl)))
  clear S
  go_wp2_with fail
  refine HC.out.mono ?_
  rintro e w4 ⟨⟨rfl, S⟩, Rr⟩
  have S := S.perm (show _ = fsHp fb mb F1 * (tabHp tb fb bp hm _ 1 * (Spill.poolX bp 40 3 4 0 0 0 0 * (pts wb (wdO fb bp tb) * R))) by ac_rfl)
  have R4 := Lib.hid (Below.trans R3.out Rr)
  have S : Sat w4 (fsHp fb mb F1 * (tabHp tb fb bp hm [((1 : Int), (⟨hb1, 2, xb1, .file 2 0 ⟨true, false, false⟩⟩ : Hn))] 1 * (Spill.poolX bp 40 3 4 0 0 0 0 * (pts wb (wdO fb bp tb) * R)))) := S
  clear c0 c1 c2 HC R3
  obtain ⟨c0, c1, c2⟩ := wo_cells (S.perm (show _ = pts wb (wdO fb bp tb) * (fsHp fb mb F1 * (tabHp tb fb bp hm [((1 : Int), (⟨hb1, 2, xb1, .file 2 0 ⟨true, false, false⟩⟩ : Hn))] 1 * (Spill.poolX bp 40 3 4 0 0 0 0 * R))) by ac_rfl))
  have HC := Lib.hid (TRead_file tb fb mb bp hm 1 F1 ([((1 : Int), (⟨hb1, 2, xb1, .file 2 0 ⟨true, false, false⟩⟩ : Hn))] : HL) 1 2 ⟨hb1, 2, xb1, .file 2 0 ⟨true, false, false⟩⟩ 0 ⟨true, false, false⟩ _ 2 (by unfold I64; omega) rfl rfl rfl (by unfold I64; omega) (by omega) (by omega) Hok1.out Hx1.out (by show (2 : Int) ≠ 1; decide) w4 _ S)
  clear S
  go_wp2_with fail
  refine HC.out.mono ?_
  rintro e w5 ⟨⟨rfl, S⟩, Rr⟩
  rw [show readB (⟨b2, 2, xyz, none, 0, 1, 1⟩ : Nd).text 0 2 = ⟨#[120, 121]⟩ from read_xy] at S ⊢
  have R5 := Lib.hid (Below.trans R4.out Rr)
  have S : Sat w5 (fsHp fb mb F1 * (tabHp tb fb bp hm [((1 : Int), (⟨hb1, 2, xb1, .file 2 2 ⟨true, false, false⟩⟩ : Hn))] 1 * (Spill.poolX bp 40 3 4 0 0 0 0 * (pts wb (wdO fb bp tb) * R)))) := S
  clear c0 c1 c2 HC R4
  obtain ⟨c0, c1, c2⟩ := wo_cells (S.perm (show _ = pts wb (wdO fb bp tb) * (fsHp fb mb F1 * (tabHp tb fb bp hm [((1 : Int), (⟨hb1, 2, xb1, .file 2 2 ⟨true, false, false⟩⟩ : Hn))] 1 * (Spill.poolX bp 40 3 4 0 0 0 0 * R))) by ac_rfl))
  have HC := Lib.hid (Unref_more tb fb bp hm 1 ([((1 : Int), (⟨hb1, 2, xb1, .file 2 2 ⟨true, false, false⟩⟩ : Hn))] : HL) 1 ⟨hb1, 2, xb1, .file 2 2 ⟨true, false, false⟩⟩ (by unfold I64; omega) rfl (by show (2 : Int) ≤ 2; omega) (by show (2 : Int) ≤ 1000000; omega) w5 _ (S.perm (show _ = tabHp tb fb bp hm [((1 : Int), (⟨hb1, 2, xb1, .file 2 2 ⟨true, false, false⟩⟩ : Hn))] 1 * (fsHp fb mb F1 * (Spill.poolX bp 40 3 4 0 0 0 0 * (pts wb (wdO fb bp tb) * R))) by ac_rfl)))
  clear S
  go_wp2_with fail
  refine HC.out.mono ?_
  rintro e w6 ⟨⟨rfl, S⟩, Rr⟩
  have S := S.perm (show _ = fsHp fb mb F1 * (tabHp tb fb bp hm _ 1 * (Spill.poolX bp 40 3 4 0 0 0 0 * (pts wb (wdO fb bp tb) * R))) by ac_rfl)
  have R6 := Lib.hid (Below.trans R5.out Rr)
  have S : Sat w6 (fsHp fb mb F1 * (tabHp tb fb bp hm [((1 : Int), (⟨hb1, 1, xb1, .file 2 2 ⟨true, false, false⟩⟩ : Hn))] 1 * (Spill.poolX bp 40 3 4 0 0 0 0 * (pts wb (wdO fb bp tb) * R)))) := S
  clear c0 c1 c2 HC R5
  obtain ⟨c0, c1, c2⟩ := wo_cells (S.perm (show _ = pts wb (wdO fb bp tb) * (fsHp fb mb F1 * (tabHp tb fb bp hm [((1 : Int), (⟨hb1, 1, xb1, .file 2 2 ⟨true, false, false⟩⟩ : Hn))] 1 * (Spill.poolX bp 40 3 4 0 0 0 0 * R))) by ac_rfl))
  have S0 := Lib.hid S
  have HC := Lib.hid (TStat_file tb fb bp hm 1 ([((1 : Int), (⟨hb1, 1, xb1, .file 2 2 ⟨true, false, false⟩⟩ : Hn))] : HL) 1 2 ⟨hb1, 1, xb1, .file 2 2 ⟨true, false, false⟩⟩ 2 ⟨true, false, false⟩ (by unfold I64; omega) rfl rfl w6 _ (S.perm (show _ = tabHp tb fb bp hm [((1 : Int), (⟨hb1, 1, xb1, .file 2 2 ⟨true, false, false⟩⟩ : Hn))] 1 * (fsHp fb mb F1 * (Spill.poolX bp 40 3 4 0 0 0 0 * (pts wb (wdO fb bp tb) * R))) by ac_rfl)))
  clear S
  go_wp2_with fail
  refine HC.out.mono ?_
  rintro e w7 ⟨rfl, hB⟩
  have S := ((S0.out.below hB).alloc (inO 1 1 2 2 ⟨true, false, false⟩)).perm (show _ = fsHp fb mb F1 * (tabHp tb fb bp hm [((1 : Int), (⟨hb1, 1, xb1, .file 2 2 ⟨true, false, false⟩⟩ : Hn))] 1 * (Spill.poolX bp 40 3 4 0 0 0 0 * (pts w7.heap.size (inO 1 1 2 2 ⟨true, false, false⟩) * (pts wb (wdO fb bp tb) * R)))) by ac_rfl)
  have R8 := Lib.hid (Ran.new (Below.trans R6.out (below_ran hB)) (inO 1 1 2 2 ⟨true, false, false⟩))
  clear c0 c1 c2 HC R6 hB S0
  obtain ⟨c0, c1, c2⟩ := wo_cells (S.perm (show _ = pts wb (wdO fb bp tb) * (fsHp fb mb F1 * (tabHp tb fb bp hm [((1 : Int), (⟨hb1, 1, xb1, .file 2 2 ⟨true, false, false⟩⟩ : Hn))] 1 * (Spill.poolX bp 40 3 4 0 0 0 0 * (pts w7.heap.size (inO 1 1 2 2 ⟨true, false, false⟩) * R)))) by ac_rfl))
  have HC := Lib.hid (TRead_file tb fb mb bp hm 1 F1 ([((1 : Int), (⟨hb1, 1, xb1, .file 2 2 ⟨true, false, false⟩⟩ : Hn))] : HL) 1 2 ⟨hb1, 1, xb1, .file 2 2 ⟨true, false, false⟩⟩ 2 ⟨true, false, false⟩ _ 9 (by unfold I64; omega) rfl rfl rfl (by unfold I64; omega) (by omega) (by omega) Hok1.out Hx1.out (by show (2 : Int) ≠ 1; decide) _ _ S)
  clear S
  go_wp2_with fail
  refine HC.out.mono ?_
  rintro e w9 ⟨⟨rfl, S⟩, Rr⟩
  rw [show readB (⟨b2, 2, xyz, none, 0, 1, 1⟩ : Nd).text 2 9 = ⟨#[122]⟩ from read_z] at S ⊢
  have R9 := Lib.hid (Below.trans R8.out Rr)
  have S : Sat w9 (fsHp fb mb F1 * (tabHp tb fb bp hm [((1 : Int), (⟨hb1, 1, xb1, .file 2 3 ⟨true, false, false⟩⟩ : Hn))] 1 * (Spill.poolX bp 40 3 4 0 0 0 0 * (pts w7.heap.size (inO 1 1 2 2 ⟨true, false, false⟩) * (pts wb (wdO fb bp tb) * R))))) := S
  clear c0 c1 c2 HC R8
  obtain ⟨c0, c1, c2⟩ := wo_cells (S.perm (show _ = pts wb (wdO fb bp tb) * (fsHp fb mb F1 * (tabHp tb fb bp hm [((1 : Int), (⟨hb1, 1, xb1, .file 2 3 ⟨true, false, false⟩⟩ : Hn))] 1 * (Spill.poolX bp 40 3 4 0 0 0 0 * (pts w7.heap.size (inO 1 1 2 2 ⟨true, false, false⟩) * R)))) by ac_rfl))
  have HC := Lib.hid (Pipe_calls tb fb bp hm 1 0 0 0 0 ([((1 : Int), (⟨hb1, 1, xb1, .file 2 3 ⟨true, false, false⟩⟩ : Hn))] : HL) 2 3 (free2 _) (fun x => free3 _ x) (by omega) (by omega) w9 _ (S.perm (show _ = tabHp tb fb bp hm [((1 : Int), (⟨hb1, 1, xb1, .file 2 3 ⟨true, false, false⟩⟩ : Hn))] 1 * (Spill.poolX bp 40 3 4 0 0 0 0 * (fsHp fb mb F1 * (pts w7.heap.size (inO 1 1 2 2 ⟨true, false, false⟩) * (pts wb (wdO fb bp tb) * R)))) by ac_rfl)))
  clear S
  go_wp2_with fail
  refine HC.out.mono ?_
  rintro e w10 ⟨⟨rfl, bb, eb, h1, x1, h2, x2, S⟩, Rr⟩
  have R10 := Lib.hid (Below.trans R9.out Rr)
  have S : Sat w10 (tabHp tb fb bp hm [((3 : Int), (⟨h2, 1, x2, .writer bb eb⟩ : Hn)), ((2 : Int), (⟨h1, 1, x1, .reader bb eb⟩ : Hn)), ((1 : Int), (⟨hb1, 1, xb1, .file 2 3 ⟨true, false, false⟩⟩ : Hn))] 3 * (Spill.poolX bp 40 3 4 0 (0 + (Spill.cl 3 4 (0 + ([] : List UInt8).length) - Spill.gn 3 4 0)) (0 + 1) 0 * (Spill.bufX bb bp 3 4 0 [] * (pts eb (ebO 2) * (fsHp fb mb F1 * (pts w7.heap.size (inO 1 1 2 2 ⟨true, false, false⟩) * (pts wb (wdO fb bp tb) * R))))))) := S
  clear c0 c1 c2 HC R9
  obtain ⟨c0, c1, c2⟩ := wo_cells (S.perm (show _ = pts wb (wdO fb bp tb) * (tabHp tb fb bp hm [((3 : Int), (⟨h2, 1, x2, .writer bb eb⟩ : Hn)), ((2 : Int), (⟨h1, 1, x1, .reader bb eb⟩ : Hn)), ((1 : Int), (⟨hb1, 1, xb1, .file 2 3 ⟨true, false, false⟩⟩ : Hn))] 3 * (Spill.poolX bp 40 3 4 0 (0 + (Spill.cl 3 4 (0 + ([] : List UInt8).length) - Spill.gn 3 4 0)) (0 + 1) 0 * (Spill.bufX bb bp 3 4 0 [] * (pts eb (ebO 2) * (fsHp fb mb F1 * (pts w7.heap.size (inO 1 1 2 2 ⟨true, false, false⟩) * R)))))) by ac_rfl))
  have HC := Lib.hid (TWrite_writer tb fb bp hm 3 0 0 (0 + 1) 0 0 ([((3 : Int), (⟨h2, 1, x2, .writer bb eb⟩ : Hn)), ((2 : Int), (⟨h1, 1, x1, .reader bb eb⟩ : Hn)), ((1 : Int), (⟨hb1, 1, xb1, .file 2 3 ⟨true, false, false⟩⟩ : Hn))] : HL) 3 ⟨h2, 1, x2, .writer bb eb⟩ bb eb [] [97, 98] (by unfold I64; omega) rfl rfl (by decide) (by decide) (by omega) (by omega) w10 _ S)
  clear S
  go_wp2_with fail
  refine HC.out.mono ?_
  rintro e w11 ⟨⟨rfl, S⟩, Rr⟩
  have R11 := Lib.hid (Below.trans R10.out Rr)
  have S : Sat w11 (tabHp tb fb bp hm [((3 : Int), (⟨h2, 1, x2, .writer bb eb⟩ : Hn)), ((2 : Int), (⟨h1, 1, x1, .reader bb eb⟩ : Hn)), ((1 : Int), (⟨hb1, 1, xb1, .file 2 3 ⟨true, false, false⟩⟩ : Hn))] 3 * (Spill.poolX bp 40 3 4 2 (0 + (Spill.cl 3 4 (0 + ([97, 98] : List UInt8).length) - Spill.gn 3 4 0)) (0 + 1) 2 * (Spill.bufX bb bp 3 4 0 [97, 98] * (pts eb (ebO 2) * (fsHp fb mb F1 * (pts w7.heap.size (inO 1 1 2 2 ⟨true, false, false⟩) * (pts wb (wdO fb bp tb) * R))))))) := S
  clear c0 c1 c2 HC R10
  obtain ⟨c0, c1, c2⟩ := wo_cells (S.perm (show _ = pts wb (wdO fb bp tb) * (tabHp tb fb bp hm [((3 : Int), (⟨h2, 1, x2, .writer bb eb⟩ : Hn)), ((2 : Int), (⟨h1, 1, x1, .reader bb eb⟩ : Hn)), ((1 : Int), (⟨hb1, 1, xb1, .file 2 3 ⟨true, false, false⟩⟩ : Hn))] 3 * (Spill.poolX bp 40 3 4 2 (0 + (Spill.cl 3 4 (0 + ([97, 98] : List UInt8).length) - Spill.gn 3 4 0)) (0 + 1) 2 * (Spill.bufX bb bp 3 4 0 [97, 98] * (pts eb (ebO 2) * (fsHp fb mb F1 * (pts w7.heap.size (inO 1 1 2 2 ⟨true, false, false⟩) * R)))))) by ac_rfl))
  have HC := Lib.hid (TRead_reader tb fb bp hm 3 2 0 (0 + 1) 2 0 ([((3 : Int), (⟨h2, 1, x2, .writer bb eb⟩ : Hn)), ((2 : Int), (⟨h1, 1, x1, .reader bb eb⟩ : Hn)), ((1 : Int), (⟨hb1, 1, xb1, .file 2 3 ⟨true, false, false⟩⟩ : Hn))] : HL) 2 ⟨h1, 1, x1, .reader bb eb⟩ bb eb [97, 98] 1 (by unfold I64; omega) rfl rfl (by decide) (by decide) (by decide) (by decide) (by omega) (by omega) w11 _ S)
  clear S
  go_wp2_with fail
  refine HC.out.mono ?_
  rintro e w12 ⟨⟨rfl, S⟩, Rr⟩
  have R12 := Lib.hid (Below.trans R11.out Rr)
  have S : Sat w12 (tabHp tb fb bp hm [((3 : Int), (⟨h2, 1, x2, .writer bb eb⟩ : Hn)), ((2 : Int), (⟨h1, 1, x1, .reader bb eb⟩ : Hn)), ((1 : Int), (⟨hb1, 1, xb1, .file 2 3 ⟨true, false, false⟩⟩ : Hn))] 3 * (Spill.poolX bp 40 3 4 1 (0 + (Spill.cl 3 4 (1 + ([98] : List UInt8).length) - Spill.gn 3 4 1)) (0 + 1) 2 * (Spill.bufX bb bp 3 4 1 [98] * (pts eb (ebO 2) * (fsHp fb mb F1 * (pts w7.heap.size (inO 1 1 2 2 ⟨true, false, false⟩) * (pts wb (wdO fb bp tb) * R))))))) := S
  clear c0 c1 c2 HC R11
  obtain ⟨c0, c1, c2⟩ := wo_cells (S.perm (show _ = pts wb (wdO fb bp tb) * (tabHp tb fb bp hm [((3 : Int), (⟨h2, 1, x2, .writer bb eb⟩ : Hn)), ((2 : Int), (⟨h1, 1, x1, .reader bb eb⟩ : Hn)), ((1 : Int), (⟨hb1, 1, xb1, .file 2 3 ⟨true, false, false⟩⟩ : Hn))] 3 * (Spill.poolX bp 40 3 4 1 (0 + (Spill.cl 3 4 (1 + ([98] : List UInt8).length) - Spill.gn 3 4 1)) (0 + 1) 2 * (Spill.bufX bb bp 3 4 1 [98] * (pts eb (ebO 2) * (fsHp fb mb F1 * (pts w7.heap.size (inO 1 1 2 2 ⟨true, false, false⟩) * R)))))) by ac_rfl))
  have HC := Lib.hid (Unref_writer_two tb fb bp hm 3 ([((3 : Int), (⟨h2, 1, x2, .writer bb eb⟩ : Hn)), ((2 : Int), (⟨h1, 1, x1, .reader bb eb⟩ : Hn)), ((1 : Int), (⟨hb1, 1, xb1, .file 2 3 ⟨true, false, false⟩⟩ : Hn))] : HL) 3 ⟨h2, 1, x2, .writer bb eb⟩ bb eb (by unfold I64; omega) rfl rfl (nd3 _ _ _) rfl w12 _ (S.perm (show _ = tabHp tb fb bp hm [((3 : Int), (⟨h2, 1, x2, .writer bb eb⟩ : Hn)), ((2 : Int), (⟨h1, 1, x1, .reader bb eb⟩ : Hn)), ((1 : Int), (⟨hb1, 1, xb1, .file 2 3 ⟨true, false, false⟩⟩ : Hn))] 3 * (pts eb (ebO 2) * (Spill.poolX bp 40 3 4 1 (0 + (Spill.cl 3 4 (1 + ([98] : List UInt8).length) - Spill.gn 3 4 1)) (0 + 1) 2 * (Spill.bufX bb bp 3 4 1 [98] * (fsHp fb mb F1 * (pts w7.heap.size (inO 1 1 2 2 ⟨true, false, false⟩) * (pts wb (wdO fb bp tb) * R)))))) by ac_rfl)))
  clear S
  go_wp2_with fail
  refine HC.out.mono ?_
  rintro e w13 ⟨⟨rfl, S⟩, Rr⟩
  have R13 := Lib.hid (Below.trans R12.out Rr)
  have S : Sat w13 (tabHp tb fb bp hm [((2 : Int), (⟨h1, 1, x1, .reader bb eb⟩ : Hn)), ((1 : Int), (⟨hb1, 1, xb1, .file 2 3 ⟨true, false, false⟩⟩ : Hn))] 3 * (pts eb (ebO 1) * (Spill.poolX bp 40 3 4 1 (0 + (Spill.cl 3 4 (1 + ([98] : List UInt8).length) - Spill.gn 3 4 1)) (0 + 1) 2 * (Spill.bufX bb bp 3 4 1 [98] * (fsHp fb mb F1 * (pts w7.heap.size (inO 1 1 2 2 ⟨true, false, false⟩) * (pts wb (wdO fb bp tb) * R))))))) := S
  clear c0 c1 c2 HC R12
  obtain ⟨c0, c1, c2⟩ := wo_cells (S.perm (show _ = pts wb (wdO fb bp tb) * (tabHp tb fb bp hm [((2 : Int), (⟨h1, 1, x1, .reader bb eb⟩ : Hn)), ((1 : Int), (⟨hb1, 1, xb1, .file 2 3 ⟨true, false, false⟩⟩ : Hn))] 3 * (pts eb (ebO 1) * (Spill.poolX bp 40 3 4 1 (0 + (Spill.cl 3 4 (1 + ([98] : List UInt8).length) - Spill.gn 3 4 1)) (0 + 1) 2 * (Spill.bufX bb bp 3 4 1 [98] * (fsHp fb mb F1 * (pts w7.heap.size (inO 1 1 2 2 ⟨true, false, false⟩) * R)))))) by ac_rfl))
  have HBu := Lib.hid (Spill.xbuffers bp 40 3 4 1 (0 + (Spill.cl 3 4 (1 + ([98] : List UInt8).length) - Spill.gn 3 4 1)) (0 + 1) 2 _ w13 (S.perm (show _ = Spill.poolX bp 40 3 4 1 (0 + (Spill.cl 3 4 (1 + ([98] : List UInt8).length) - Spill.gn 3 4 1)) (0 + 1) 2 * (tabHp tb fb bp hm [((2 : Int), (⟨h1, 1, x1, .reader bb eb⟩ : Hn)), ((1 : Int), (⟨hb1, 1, xb1, .file 2 3 ⟨true, false, false⟩⟩ : Hn))] 3 * (pts eb (ebO 1) * (Spill.bufX bb bp 3 4 1 [98] * (fsHp fb mb F1 * (pts w7.heap.size (inO 1 1 2 2 ⟨true, false, false⟩) * (pts wb (wdO fb bp tb) * R)))))) by ac_rfl)))
  have HC := Lib.hid (Unref_reader_one tb fb bp hm 3 1 0 0 2 1 ([((2 : Int), (⟨h1, 1, x1, .reader bb eb⟩ : Hn)), ((1 : Int), (⟨hb1, 1, xb1, .file 2 3 ⟨true, false, false⟩⟩ : Hn))] : HL) 2 ⟨h1, 1, x1, .reader bb eb⟩ bb eb [98] (by unfold I64; omega) rfl rfl (nd2 _ _) rfl (by decide) (by decide) (by decide) (by omega) (by omega) (by omega) w13 _ S)
  clear S
  go_wp2_with fail
  refine HBu.out.mono ?_
  rintro e w13 ⟨rfl, rfl⟩
  go_wp2_with fail
  refine HC.out.mono ?_
  rintro e w14 ⟨⟨rfl, S⟩, Rr⟩
  clear HBu
  have R14 := Lib.hid (Below.trans R13.out Rr)
  have S : Sat w14 (tabHp tb fb bp hm [((1 : Int), (⟨hb1, 1, xb1, .file 2 3 ⟨true, false, false⟩⟩ : Hn))] 3 * (Spill.poolX bp 40 3 4 0 0 0 2 * (fsHp fb mb F1 * (pts w7.heap.size (inO 1 1 2 2 ⟨true, false, false⟩) * (pts wb (wdO fb bp tb) * R))))) := S
  clear c0 c1 c2 HC R13
  obtain ⟨c0, c1, c2⟩ := wo_cells (S.perm (show _ = pts wb (wdO fb bp tb) * (tabHp tb fb bp hm [((1 : Int), (⟨hb1, 1, xb1, .file 2 3 ⟨true, false, false⟩⟩ : Hn))] 3 * (Spill.poolX bp 40 3 4 0 0 0 2 * (fsHp fb mb F1 * (pts w7.heap.size (inO 1 1 2 2 ⟨true, false, false⟩) * R)))) by ac_rfl))
  have HC := Lib.hid (Unref_file_one tb fb mb bp hm 3 F1 ([((1 : Int), (⟨hb1, 1, xb1, .file 2 3 ⟨true, false, false⟩⟩ : Hn))] : HL) 1 2 ⟨hb1, 1, xb1, .file 2 3 ⟨true, false, false⟩⟩ 3 ⟨true, false, false⟩ _ (by unfold I64; omega) rfl rfl (nd1 _) rfl (by unfold I64; omega) Hok1.out Hx1.out (by show (1 : Int) ≤ 1; omega) w14 _ (S.perm (show _ = tabHp tb fb bp hm [((1 : Int), (⟨hb1, 1, xb1, .file 2 3 ⟨true, false, false⟩⟩ : Hn))] 3 * (fsHp fb mb F1 * (Spill.poolX bp 40 3 4 0 0 0 2 * (pts w7.heap.size (inO 1 1 2 2 ⟨true, false, false⟩) * (pts wb (wdO fb bp tb) * R)))) by ac_rfl)))
  clear S
  go_wp2_with fail
  refine HC.out.mono ?_
  rintro e w15 ⟨⟨rfl, S⟩, Rr⟩
  have hF2 := dropP_eq Hx1.out (by show (1 : Int) ≠ 0; decide)
  have hx2 : find (dropP F1 2).L 2 = some ⟨b2, 2, xyz, none, 0, 1, 0⟩ := by rw [hF2, find_put F1 2 2 _ (by rw [Hx1.out]; rfl), if_pos rfl]; rfl
  have hok2 : ∀ z, find (dropP F1 2).L 2 = some z → NdSmall z := fun z hz => by rw [hx2] at hz; injection hz with hz; rw [← hz]; exact ⟨by show 3 ≤ _; omega, Nat.zero_le _⟩
  have S := S.perm (show _ = fsHp fb mb (dropP F1 2) * (tabHp tb fb bp hm _ 3 * (Spill.poolX bp 40 3 4 0 0 0 2 * (pts w7.heap.size (inO 1 1 2 2 ⟨true, false, false⟩) * (pts wb (wdO fb bp tb) * R)))) by ac_rfl)
  have R15 := Lib.hid (Below.trans R14.out Rr)
  have S : Sat w15 (fsHp fb mb (dropP F1 2) * (tabHp tb fb bp hm [] 3 * (Spill.poolX bp 40 3 4 0 0 0 2 * (pts w7.heap.size (inO 1 1 2 2 ⟨true, false, false⟩) * (pts wb (wdO fb bp tb) * R))))) := S
  clear c0 c1 c2 HC R14
  obtain ⟨c0, c1, c2⟩ := wo_cells (S.perm (show _ = pts wb (wdO fb bp tb) * (fsHp fb mb (dropP F1 2) * (tabHp tb fb bp hm [] 3 * (Spill.poolX bp 40 3 4 0 0 0 2 * (pts w7.heap.size (inO 1 1 2 2 ⟨true, false, false⟩) * R)))) by ac_rfl))
  have HSt := Stat_calls fb mb (dropP F1 2) 2 (by unfold I64; omega) hok2 w15 _ S
  unfold statE statV at HSt
  rw [hx2] at HSt
  dsimp only at HSt
  rw [show sizeN (⟨b2, 2, xyz, none, 0, 1, 0⟩ : Nd) = 3 from rfl] at HSt
  have HC := Lib.hid HSt
  have S0 := Lib.hid S
  clear S hx2 hok2 hF2 HSt
  go_wp2_with fail
  refine HC.out.mono ?_
  rintro e w16 ⟨rfl, hB⟩
  have S := (S0.out.below hB).alloc (infoO 2 3 1 0)
  have R17 := Lib.hid (Ran.new (Below.trans R15.out (below_ran hB)) (infoO 2 3 1 0))
  clear c0 c1 c2 HC R15 hB S0
  obtain ⟨y0, y1, y2, y3⟩ := info_cells S
  have S := S.right
  obtain ⟨c0, c1, c2⟩ := wo_cells (S.perm (show _ = pts wb (wdO fb bp tb) * (fsHp fb mb (dropP F1 2) * (tabHp tb fb bp hm [] 3 * (Spill.poolX bp 40 3 4 0 0 0 2 * (pts w7.heap.size (inO 1 1 2 2 ⟨true, false, false⟩) * R)))) by ac_rfl))
  obtain ⟨x0, x1', x2', x3, x4, x5, x6⟩ := in_cells (S.perm (show _ = pts w7.heap.size (inO 1 1 2 2 ⟨true, false, false⟩) * (fsHp fb mb (dropP F1 2) * (tabHp tb fb bp hm [] 3 * (Spill.poolX bp 40 3 4 0 0 0 2 * (pts wb (wdO fb bp tb) * R)))) by ac_rfl))
  have HBu := Lib.hid (Spill.xbuffers bp 40 3 4 0 0 0 2 _ _ (S.perm (show _ = Spill.poolX bp 40 3 4 0 0 0 2 * (fsHp fb mb (dropP F1 2) * (tabHp tb fb bp hm [] 3 * (pts w7.heap.size (inO 1 1 2 2 ⟨true, false, false⟩) * (pts wb (wdO fb bp tb) * R)))) by ac_rfl)))
  have S := Lib.hid (S.perm (show _ = fsHp fb mb (dropP F1 2) * (tabHp tb fb bp hm [] 3 * (Spill.poolX bp 40 3 4 0 0 0 2 * (pts w7.heap.size (inO 1 1 2 2 ⟨true, false, false⟩) * (pts wb (wdO fb bp tb) * R)))) by ac_rfl))
  go_wp2_with fail
  refine HBu.out.mono ?_
  rintro e w17 ⟨rfl, rfl⟩
  go_wp2_with fail
  go_ret
  exact ⟨⟨rfl, S.out.right.right.right.right.right⟩, R17.out⟩
end Go.Proofs.YtljlpkeddbfpaaaGreatDoor.Hd

namespace Go.Proofs.YtljlpkeddbfpaaaGreatDoor.Hd
open Go.RowKit Go.Maps Go.Proofs.YtljlpkeddbfpaaaGreatDoor Go.Proofs.YtljlpkeddbfpaaaGreatDoor.Hp
set_option linter.unusedVariables false

/-- The text behind a write of d at a, as the statement makes it. -/
def nowB (T : ByteArray) (a : Nat) (d : ByteArray) : ByteArray :=
  if (T.extract 0 a ++ d).size < T.size then (T.extract 0 a ++ d) ++ T.extract (T.extract 0 a ++ d).size T.size else T.extract 0 a ++ d
structure Mo (F : Fs) (b : Nat) (T : ByteArray) (h : Int) : Prop where
  ok : FsOk F
  at3 : find F.L 3 = some ⟨b, 2, T, none, 0, 1, h⟩
  used : F.used = 4 + (T.size : Int)
  room : F.room = 60
theorem size_cut (T : ByteArray) (a : Nat) (h : a ≤ T.size) : (T.extract 0 a).size = a := by rw [ByteArray.size_extract]; omega
theorem cut_all (T : ByteArray) : T.extract 0 T.size = T := by
  apply ByteArray.ext
  rw [ByteArray.data_extract]
  show T.data.extract 0 T.data.size = T.data
  simp
theorem empty_add (T : ByteArray) : T ++ (⟨#[]⟩ : ByteArray) = T := by
  apply ByteArray.ext; rw [ByteArray.data_append]; simp
theorem zeros0 : zerosB 0 = ⟨#[]⟩ := rfl
theorem cut_end (T : ByteArray) : T.extract T.size T.size = ⟨#[]⟩ := by
  apply ByteArray.ext; rw [ByteArray.data_extract]; simp
theorem empty_of {d : ByteArray} (h : d.size = 0) : d = ⟨#[]⟩ := by
  cases d with | mk l =>
  have : l.size = 0 := h
  rw [Array.eq_empty_of_size_eq_zero this]
theorem nowB_size (T : ByteArray) (a : Nat) (d : ByteArray) (h : a ≤ T.size) : (nowB T a d).size = T.size + ((a + d.size) - T.size) := by
  unfold nowB
  have h1 : (T.extract 0 a ++ d).size = a + d.size := by rw [ByteArray.size_append, size_cut T a h]
  split
  · rename_i hlt
    rw [ByteArray.size_append, ByteArray.size_extract, h1]
    rw [h1] at hlt
    omega
  · rename_i hlt
    rw [h1] at hlt ⊢
    omega
theorem wr_now (T : ByteArray) (a : Nat) (d : ByteArray) (h : a ≤ T.size) : wrB T a d = nowB T a d := by
  unfold wrB nowB
  rw [Nat.min_eq_left h, show a - T.size = 0 by omega, zeros0, empty_add]
  have h1 : (T.extract 0 a ++ d).size = a + d.size := by rw [ByteArray.size_append, size_cut T a h]
  rw [h1]
  split
  · rename_i hlt
    rw [Nat.min_eq_left (by omega)]
  · rename_i hlt
    rw [Nat.min_eq_right (by omega), cut_end, empty_add]
end Go.Proofs.YtljlpkeddbfpaaaGreatDoor.Hd

namespace Go.Proofs.YtljlpkeddbfpaaaGreatDoor.Hd
open Go.ChangeShapes Go.WideShapes Go.ChangeAt Go.ChangeMaps Go.RowKit Go.Proofs.YtljlpkeddbfpaaaGreatDoor Go.Proofs.YtljlpkeddbfpaaaGreatDoor.Hp
set_option linter.unusedVariables false

theorem i64_of {x : Int} (h : (Lit.int .i64 x).wf = true) : I64 x := by
  simp [Lit.wf, IntKind.min, IntKind.max, IntKind.signed, IntKind.bits] at h
  exact ⟨by omega, by omega⟩
theorem cellsStr : Tryz.prog.cellsOf 9 = 1 := by kernel_rfl
end Go.Proofs.YtljlpkeddbfpaaaGreatDoor.Hd

namespace Go.Proofs.YtljlpkeddbfpaaaGreatDoor.Hd
open Go.ChangeShapes Go.WideShapes Go.ChangeAt Go.ChangeMaps Go.RowKit Go.Proofs.YtljlpkeddbfpaaaGreatDoor Go.Proofs.YtljlpkeddbfpaaaGreatDoor.Hp
set_option linter.unusedVariables false
attribute [local go_sem] Oper.semAt_some

theorem cellsI : Tryz.prog.cellsOf 3 = 1 := by kernel_rfl
theorem cellsB : Tryz.prog.cellsOf 4 = 1 := by kernel_rfl
theorem cellsMd : Tryz.prog.cellsOf 35 = 3 := by kernel_rfl
theorem cellsOp : Tryz.prog.cellsOf 57 = 8 := by kernel_rfl
/-- A call of the laws. -/
structure Opr where
  ask : Int
  id : Int
  node : Int
  n : Int
  m : Md
  d : ByteArray
instance : Inhabited Opr := ⟨⟨0, 0, 0, 0, ⟨false, false, false⟩, ⟨#[]⟩⟩⟩
def OkOp (o : Opr) : Prop := I64 o.ask ∧ I64 o.id ∧ I64 o.node ∧ I64 o.n ∧ o.d.size ≤ maxLen
def OpAt (w : World) (b q : Nat) (x : Opr) : Prop :=
  w.cell? ⟨b, q, none⟩ = some (.int .i64 x.ask) ∧ w.cell? ⟨b, q + 1, none⟩ = some (.int .i64 x.id) ∧ w.cell? ⟨b, q + 2, none⟩ = some (.int .i64 x.node) ∧ w.cell? ⟨b, q + 3, none⟩ = some (.int .i64 x.n) ∧
    w.cell? ⟨b, q + 4, none⟩ = some (.bool x.m.r) ∧ w.cell? ⟨b, q + 5, none⟩ = some (.bool x.m.w) ∧ w.cell? ⟨b, q + 6, none⟩ = some (.bool x.m.m) ∧ w.cell? ⟨b, q + 7, none⟩ = some (.string x.d)
theorem OpAt.keep {w w' : World} {b q : Nat} {x : Opr} (h : OpAt w b q x) (hk : w'.heap[b]? = w.heap[b]?) : OpAt w' b q x := by
  obtain ⟨h0, h1, h2, h3, h4, h5, h6, h7⟩ := h
  have hc : ∀ j, w'.cell? ⟨b, j, none⟩ = w.cell? ⟨b, j, none⟩ := fun j => World.cell?_of_block (w := w) hk
  exact ⟨by rw [hc]; exact h0, by rw [hc]; exact h1, by rw [hc]; exact h2, by rw [hc]; exact h3, by rw [hc]; exact h4, by rw [hc]; exact h5, by rw [hc]; exact h6, by rw [hc]; exact h7⟩
def OpsAt (w : World) (ao : Option Addr) (l : List Opr) : Prop :=
  ∀ i (h : i < l.length), OkOp l[i] ∧ ∃ b o, ao = some ⟨b, o, none⟩ ∧ b < w.heap.size ∧ OpAt w b (o + i * 8) l[i]
section
variable {H : Type} {enc : TypeId × Value → H} {P : Program} {w : World} {base : Nat} {spare : Nat → Bool} {held : Bool}
theorem trod_struct6 {t : TypeId} {f0 f1 f2 f3 f4 f5 : Field} {fuel : Nat} {cs : List Value} {x : DataW H × List MemPlace} (ht : P.underlying t = some (.struct #[f0, f1, f2, f3, f4, f5])) (h : DataW.trod enc P w base spare held fuel t cs = some x) :
    ∃ y0 y1 y2 y3 y4 y5 n, cs.length = P.cellsOf t ∧ DataW.trod enc P w base spare held n f0.type ((cs.drop f0.offset).take (P.cellsOf f0.type)) = some y0 ∧
      DataW.trod enc P w base spare held n f1.type ((cs.drop f1.offset).take (P.cellsOf f1.type)) = some y1 ∧ DataW.trod enc P w base spare held n f2.type ((cs.drop f2.offset).take (P.cellsOf f2.type)) = some y2 ∧
      DataW.trod enc P w base spare held n f3.type ((cs.drop f3.offset).take (P.cellsOf f3.type)) = some y3 ∧ DataW.trod enc P w base spare held n f4.type ((cs.drop f4.offset).take (P.cellsOf f4.type)) = some y4 ∧
      DataW.trod enc P w base spare held n f5.type ((cs.drop f5.offset).take (P.cellsOf f5.type)) = some y5 := by
  obtain ⟨xs, n, _, rfl, hl, hlen, hf⟩ := DataW.trod_struct ht h
  match xs, hlen with
  | [y0, y1, y2, y3, y4, y5], _ => exact ⟨y0, y1, y2, y3, y4, y5, n, hl, by simpa using hf 0 f0 rfl, by simpa using hf 1 f1 rfl, by simpa using hf 2 f2 rfl, by simpa using hf 3 f3 rfl, by simpa using hf 4 f4 rfl, by simpa using hf 5 f5 rfl⟩
end
theorem md_open {H : Type} {enc : TypeId × Value → H} {W : World} {base : Nat} {spare : Nat → Bool} {held : Bool} {n : Nat} {c0 c1 c2 : Value} {y : DataW H × List MemPlace} (h : DataW.trod enc Tryz.prog W base spare held n 35 [c0, c1, c2] = some y) :
    ∃ m : Md, c0 = .bool m.r ∧ c1 = .bool m.w ∧ c2 = .bool m.m := by
  obtain ⟨y0, y1, y2, m, _, _, h0, h1, h2⟩ := Deep.trod_struct3 Tryz.underlying35 h
  simp only [cellsB, List.drop_zero, List.drop_succ_cons, List.take_succ_cons, List.take_zero] at h0 h1 h2
  obtain ⟨a0, e0, _⟩ := DataW.trod_bool Tryz.underlying4 h0
  obtain ⟨a1, e1, _⟩ := DataW.trod_bool Tryz.underlying4 h1
  obtain ⟨a2, e2, _⟩ := DataW.trod_bool Tryz.underlying4 h2
  simp only [List.cons.injEq, and_true] at e0 e1 e2
  exact ⟨⟨a0, a1, a2⟩, e0, e1, e2⟩
theorem op_open {H : Type} {enc : TypeId × Value → H} {W : World} {base : Nat} {spare : Nat → Bool} {held : Bool} {n : Nat} {c0 c1 c2 c3 c4 c5 c6 c7 : Value} {y : DataW H × List MemPlace} (h : DataW.trod enc Tryz.prog W base spare held n 57 [c0, c1, c2, c3, c4, c5, c6, c7] = some y) :
    ∃ x : Opr, OkOp x ∧ c0 = .int .i64 x.ask ∧ c1 = .int .i64 x.id ∧ c2 = .int .i64 x.node ∧ c3 = .int .i64 x.n ∧ c4 = .bool x.m.r ∧ c5 = .bool x.m.w ∧ c6 = .bool x.m.m ∧ c7 = .string x.d := by
  obtain ⟨y0, y1, y2, y3, y4, y5, m, _, h0, h1, h2, h3, h4, h5⟩ := trod_struct6 Tryz.underlying57 h
  simp only [cellsI, cellsStr, cellsMd, List.drop_zero, List.drop_succ_cons, List.take_succ_cons, List.take_zero] at h0 h1 h2 h3 h4 h5
  obtain ⟨a0, e0, _, w0⟩ := DataW.trod_int Tryz.underlying3 h0
  obtain ⟨a1, e1, _, w1⟩ := DataW.trod_int Tryz.underlying3 h1
  obtain ⟨a2, e2, _, w2⟩ := DataW.trod_int Tryz.underlying3 h2
  obtain ⟨a3, e3, _, w3⟩ := DataW.trod_int Tryz.underlying3 h3
  obtain ⟨md, e4, e5, e6⟩ := md_open h4
  obtain ⟨s, e7, _, w7⟩ := DataW.trod_string Tryz.underlying9 h5
  simp only [List.cons.injEq, and_true] at e0 e1 e2 e3 e7
  exact ⟨⟨a0, a1, a2, a3, md, s⟩, ⟨i64_of w0, i64_of w1, i64_of w2, i64_of w3, w7⟩, e0, e1, e2, e3, e4, e5, e6, e7⟩
set_option maxRecDepth 100000 in
theorem ops_open {H : Type} {enc : TypeId × Value → H} {W : World} {r : Reach} {b0 base : Nat} {spare : Nat → Bool} {held : Bool} {v : Value} {d : DataW H} {p : List MemPlace} (hv : Value.okWide Tryz.prog W r b0 52 v)
    (h : DataW.Trod enc Tryz.prog W base spare held 52 v d p) : ∃ ao l cap, v = .slice ao (List.length l) cap ∧ OpsAt W ao l := by
  obtain ⟨ao, len, cap, rfl⟩ := okWide_slice Tryz.underlying52 hv
  obtain ⟨fuel, hf⟩ := h
  rcases Deep.open_slice Tryz.underlying52 hf with ⟨hcs, _⟩ | ⟨a, len', cap', m, n, D, Pl, hcs, _, hl, _, hm, _, hx⟩
  · simp [Value.cells] at hcs
    obtain ⟨rfl, rfl, rfl⟩ := hcs
    exact ⟨none, [], 0, rfl, fun i hi => by simp at hi⟩
  · simp [Value.cells] at hcs
    obtain ⟨rfl, rfl, rfl⟩ := hcs
    have hlm : len ≤ m := by rw [hm]; split <;> omega
    have key : ∀ i, i < len → ∃ x : Opr, OkOp x ∧ W.cell? ((a.add (i * 8)).add 0) = some (.int .i64 x.ask) ∧ W.cell? ((a.add (i * 8)).add 1) = some (.int .i64 x.id) ∧ W.cell? ((a.add (i * 8)).add 2) = some (.int .i64 x.node) ∧ W.cell? ((a.add (i * 8)).add 3) = some (.int .i64 x.n) ∧
        W.cell? ((a.add (i * 8)).add 4) = some (.bool x.m.r) ∧ W.cell? ((a.add (i * 8)).add 5) = some (.bool x.m.w) ∧ W.cell? ((a.add (i * 8)).add 6) = some (.bool x.m.m) ∧ W.cell? ((a.add (i * 8)).add 7) = some (.string x.d) := fun i hi => by
      obtain ⟨cs, hc, ht⟩ := hx i (by omega)
      rw [cellsOp] at hc
      obtain ⟨_, hlen, hat⟩ := World.cells?_some hc
      match cs, hlen, ht with
      | [c0, c1, c2, c3, c4, c5, c6, c7], _, ht =>
        obtain ⟨x, ok, rfl, rfl, rfl, rfl, rfl, rfl, rfl, rfl⟩ := op_open ht
        exact ⟨x, ok, hat 0 (by omega), hat 1 (by omega), hat 2 (by omega), hat 3 (by omega), hat 4 (by omega), hat 5 (by omega), hat 6 (by omega), hat 7 (by omega)⟩
    obtain ⟨f, hfx⟩ := Deep.choose_lt key
    refine ⟨some a, (List.range len).map f, cap, by simp, fun i hi => ?_⟩
    have hi' : i < len := by simpa using hi
    obtain ⟨b, o, s⟩ := a
    have hs : s = none := by
      have h00 := (hfx 0 (by omega)).2.1
      simp [Addr.add] at h00
      simpa using World.cell?_spot h00
    subst hs
    obtain ⟨ok, h0, h1, h2, h3, h4, h5, h6, h7⟩ := hfx i hi'
    have e : ((List.range len).map f)[i] = f i := by simp
    rw [e]
    simp only [Addr.add_lit, Nat.add_zero] at h0 h1 h2 h3 h4 h5 h6 h7
    exact ⟨ok, b, o, rfl, World.block_lt_of_cell? W _ h0, h0, h1, h2, h3, h4, h5, h6, h7⟩
abbrev opA (o : Opr) : Value := .agg #[.int .i64 o.ask, .int .i64 o.id, .int .i64 o.node, .int .i64 o.n, .bool o.m.r, .bool o.m.w, .bool o.m.m, .string o.d]
abbrev opO (o : Opr) : Obj := .cells #[.int .i64 o.ask, .int .i64 o.id, .int .i64 o.node, .int .i64 o.n, .bool o.m.r, .bool o.m.w, .bool o.m.m, .string o.d] 57 (0, 0)
/-- Which call it is. -/
def askI (o : Opr) : Int := o.ask % 8
theorem askI_cases (o : Opr) : askI o = 0 ∨ askI o = 1 ∨ askI o = 2 ∨ askI o = 3 ∨ askI o = 4 ∨ askI o = 5 ∨ askI o = 6 ∨ askI o = 7 := by
  unfold askI
  omega
theorem ask_math (x : Int) : (x.tmod 8 + 8).tmod 8 = x % 8 := by
  rcases Int.lt_or_le x 0 with h | h
  · obtain ⟨n, rfl⟩ : ∃ n : Nat, x = -(n : Int) := ⟨x.natAbs, by omega⟩
    rw [Int.neg_tmod]
    have h1 : ((n : Int)).tmod 8 = ((n % 8 : Nat) : Int) := by rw [Int.tmod_eq_emod_of_nonneg (by omega)]; omega
    rw [h1, Int.tmod_eq_emod_of_nonneg (by omega)]
    omega
  · rw [Int.tmod_eq_emod_of_nonneg h, Int.tmod_eq_emod_of_nonneg (by omega)]
    omega
def FewO (o : Opr) : Prop := o.d.size ≤ 100
def FewP (l : List Opr) : Prop := l.length ≤ 40 ∧ ∀ o ∈ l, FewO o
def FewSays (l : List Opr) (w : World) (e : Ending) (w' : World) : Prop := (∃ r, e = .returned (.bool r) ∧ (r = true → FewP l)) ∧ w = w'
set_option maxRecDepth 100000 in
set_option maxHeartbeats 16000000 in
theorem few_calls (l : List Opr) (ao : Option Addr) (cap : Nat) (w : World) (hl : OpsAt w ao l) :
    Calls Tryz.prog 21 #[.slice ao l.length cap] w (FewSays l w) := by
  have HL := Lib.hid hl
  clear hl
  by_cases h50 : 40 < l.length
  · have h50I : (40 : Int) < l.length := by omega
    go_enter Tryz.func21, Tryz.ntmps21
    go_wp2_with fail
    go_ret
    exact ⟨⟨false, rfl, fun h => by cases h⟩, rfl⟩
  have h50I : (l.length : Int) ≤ 40 := by omega
  have H50 := Lib.hid (show l.length ≤ 40 by omega)
  go_enter Tryz.func21, Tryz.ntmps21
  go_wp2_with fail
  go_loopg [3] (l.length) (fun (g : Nat) (v3 : Value) (wr : World) => ∃ i : Nat, v3 = .int .i64 (i : Int) ∧ i + g = l.length ∧ (∀ j (h : j < l.length), j < i → FewO l[j]) ∧ w = wr)
  case atStart => exact ⟨0, rfl, by omega, fun j _ h => absurd h (Nat.not_lt_zero _), rfl⟩
  case round =>
    obtain ⟨i, rfl, hg, hok, rfl⟩ := hrel
    by_cases hlt : i < l.length
    · have hltI : (i : Int) < l.length := by omega
      have hi0 : (0 : Int) ≤ i := by omega
      obtain ⟨okx, b, o, rfl, hb, e0, e1, e2, e3, e4, e5, e6, e7⟩ := HL.out i hlt
      obtain ⟨x, hx⟩ : ∃ x, x = l[i] := ⟨_, rfl⟩
      rw [← hx] at okx e0 e1 e2 e3 e4 e5 e6 e7
      have Hx := Lib.hid hx
      have Hok := Lib.hid hok
      have hk : (x.d.size : Int) ≤ 9223372036854775807 := by have := okx.2.2.2.2; unfold maxLen at this; omega
      clear okx hx hok hb e0 e1 e2 e3 e4 e5 e6
      go_wp2_with fail
      all_goals
        first
          | (go_ret; exact ⟨⟨false, rfl, fun h => by cases h⟩, rfl⟩)
          | (have hk2 : x.d.size ≤ 100 := by omega
             have HF := Lib.hid hk2
             go_roundg (gk - 1)
             case rel =>
               refine ⟨i + 1, by simp, by omega, fun q hq hqj => ?_, rfl⟩
               by_cases hqi : q = i
               · subst hqi
                 show l[q].d.size ≤ 100
                 rw [← Hx.out]; exact HF.out
               · exact Hok.out q hq (by omega)
             case measure => omega)
    · have hge : (l.length : Int) ≤ i := by omega
      have Hok := Lib.hid hok
      have hn : l.length ≤ i := by omega
      have HN := Lib.hid hn
      clear hok hn
      go_wp2_with fail
      go_ret
      exact ⟨⟨true, rfl, fun _ => ⟨H50.out, fun o ho => by
        obtain ⟨j, hj, rfl⟩ := List.mem_iff_getElem.1 ho
        exact Hok.out j hj (by have := HN.out; omega)⟩⟩, rfl⟩
end Go.Proofs.YtljlpkeddbfpaaaGreatDoor.Hd

