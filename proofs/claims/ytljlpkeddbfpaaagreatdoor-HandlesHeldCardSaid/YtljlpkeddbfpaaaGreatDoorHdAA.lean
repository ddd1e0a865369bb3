/- awake walked. -/
import Derived.Test.YtljlpkeddbfpaaaGreatDoorHdZ
import Derived.Test.YtljlpkeddbfpaaaGreatDoorHdT
namespace Go.Proofs.YtljlpkeddbfpaaaGreatDoor.Hd
open Go.RowKit Go.Maps Go.Proofs.YtljlpkeddbfpaaaGreatDoor Go.Proofs.YtljlpkeddbfpaaaGreatDoor.Hp
set_option linter.unusedVariables false
attribute [local go_sem] Oper.semAt_some

theorem find_put (F : Fs) (k j : Int) (x' : Nd) (h : (find F.L k).isSome = true) : find (F.put k x').L j = if j = k then some x' else find F.L j := find_upd F.L k j x' h
theorem FsOk.put {F : Fs} (h : FsOk F) {k : Int} {x' : Nd} (hk : (find F.L k).isSome = true) (hx : NdOk x') : FsOk (F.put k x') := fun j z hz => by
  rw [find_put F k j x' hk] at hz
  split at hz
  · injection hz with hz; rw [← hz]; exact hx
  · exact h j z hz
theorem holdP_eq {F : Fs} {k : Int} {x : Nd} (h : find F.L k = some x) : holdP F k = F.put k { x with holds := x.holds + 1 } := by unfold holdP; rw [h]
theorem dropP_eq {F : Fs} {k : Int} {x : Nd} (h : find F.L k = some x) (h0 : x.holds ≠ 0) : dropP F k = F.put k { x with holds := x.holds - 1 } := by unfold dropP; rw [h]; exact if_neg h0
theorem Begun.ok {F : Fs} (h : Begun F) : FsOk F := fun k x hx => by
  obtain ⟨b1, k1, e1, s1⟩ := h.n1
  obtain ⟨b2, e2⟩ := h.n2
  obtain ⟨b3, e3⟩ := h.n3
  obtain ⟨b4, e4⟩ := h.n4
  obtain ⟨b5, k5, e5, s5⟩ := h.n5
  have hk := (h.only k).1 (by rw [hx]; rfl)
  have hcs : k = 1 ∨ k = 2 ∨ k = 3 ∨ k = 4 ∨ k = 5 := by omega
  rcases hcs with rfl | rfl | rfl | rfl | rfl
  · rw [e1] at hx; injection hx with hx; subst hx
    exact ⟨Nat.zero_le _, by show k1.sz ≤ _; omega, ⟨by show (0 : Int) ≤ 0; omega, by show (0 : Int) ≤ 1000000; omega⟩, ⟨by show (0 : Int) ≤ 0; omega, by show (0 : Int) ≤ 1000000; omega⟩⟩
  · rw [e2] at hx; injection hx with hx; subst hx
    exact ⟨by show 3 ≤ _; omega, Nat.zero_le _, ⟨by show (0 : Int) ≤ 0; omega, by show (0 : Int) ≤ 1000000; omega⟩, ⟨by show (0 : Int) ≤ 1; omega, by show (1 : Int) ≤ 1000000; omega⟩⟩
  · rw [e3] at hx; injection hx with hx; subst hx
    exact ⟨Nat.zero_le _, Nat.zero_le _, ⟨by show (0 : Int) ≤ 0; omega, by show (0 : Int) ≤ 1000000; omega⟩, ⟨by show (0 : Int) ≤ 1; omega, by show (1 : Int) ≤ 1000000; omega⟩⟩
  · rw [e4] at hx; injection hx with hx; subst hx
    exact ⟨by show 1 ≤ _; omega, Nat.zero_le _, ⟨by show (0 : Int) ≤ 0; omega, by show (0 : Int) ≤ 1000000; omega⟩, ⟨by show (0 : Int) ≤ 1; omega, by show (1 : Int) ≤ 1000000; omega⟩⟩
  · rw [e5] at hx; injection hx with hx; subst hx
    exact ⟨Nat.zero_le _, by show k5.sz ≤ _; omega, ⟨by show (0 : Int) ≤ 0; omega, by show (0 : Int) ≤ 1000000; omega⟩, ⟨by show (0 : Int) ≤ 1; omega, by show (1 : Int) ≤ 1000000; omega⟩⟩
theorem free1 : Free [] 1 := ⟨Nat.le_refl _, Nat.le_refl _, rfl, fun j h1 h2 => by omega⟩
theorem free2 (x : Hn) : Free [((1 : Int), x)] 2 := ⟨by omega, Nat.le_refl _, rfl, fun j h1 h2 => by
  have : j = 1 := by omega
  subst this; rfl⟩
theorem free3 (x y : Hn) : Free [((2 : Int), y), ((1 : Int), x)] 3 := ⟨by omega, Nat.le_refl _, rfl, fun j h1 h2 => by
  have : j = 1 ∨ j = 2 := by omega
  rcases this with rfl | rfl <;> rfl⟩
theorem read_xy : readB xyz 0 2 = ⟨#[120, 121]⟩ := by decide
theorem read_z : readB xyz 2 9 = ⟨#[122]⟩ := by decide
theorem nd1 (x : Hn) : NodupK [((1 : Int), x)] := by unfold NodupK; simp
theorem nd2 (x y : Hn) : NodupK [((2 : Int), y), ((1 : Int), x)] := by unfold NodupK; simp
theorem nd3 (x y z : Hn) : NodupK [((3 : Int), z), ((2 : Int), y), ((1 : Int), x)] := by unfold NodupK; simp
abbrev wdO (fb bp tb : Nat) : Obj := woO (pp fb) (pp bp) (pp tb)
set_option maxRecDepth 100000 in
set_option maxHeartbeats 16000000 in
theorem awake_calls (w : World) (R : Hp) (h : Sat w R) :
    Calls Tryz.prog 8 #[] w fun e w' => (e = .returned (.bool true) ∧ Sat w' R) ∧ Ran w w' := by
  have HB := Lib.hid (begun_calls w R h)
  clear h
  go_enter Tryz.func8, Tryz.ntmps8
  go_wp2_with fail
  refine HB.out.mono ?_
  rintro e w1 ⟨⟨fb, mb, tb, hm, bp, F, rfl, hF, S1⟩, R1⟩
  clear HB
  have hok := hF.ok
  obtain ⟨b2, hx⟩ := hF.n2
  have S2 := S1.alloc (wdO fb bp tb)
  have R2 := Lib.hid (Ran.new R1 (wdO fb bp tb))
  obtain ⟨wb, hwb⟩ : ∃ b, b = w1.heap.size := ⟨_, rfl⟩
  obtain ⟨w2, hw2⟩ : ∃ w2, w2 = w1.alloc (wdO fb bp tb) := ⟨_, rfl⟩
  rw [← hwb, ← hw2] at S2
  rw [← hw2] at R2
  obtain ⟨c0, c1, c2⟩ := wo_cells S2
  have S2 := S2.perm (show _ = fsHp fb mb F * (tabHp tb fb bp hm [] 0 * (Spill.poolX bp 40 3 4 0 0 0 0 * (pts wb (wdO fb bp tb) * R))) by ac_rfl)
  have HC := Lib.hid (File_calls tb fb mb bp hm 0 F [] 2 ⟨true, false, false⟩ _ 1 (by unfold I64; omega) hok hx rfl (.inl rfl) free1 (by omega) w2 _ S2)
  have Hok := Lib.hid hok
  have Hx := Lib.hid hx
  clear S1 R1 S2 hok hx hF
  go_upto_region 4 with fail
  rw [← hwb, ← hw2]
  clear hwb hw2
  go_wp2_with fail
  refine HC.out.mono ?_
  rintro e w3 ⟨⟨rfl, hb1, xb1, S⟩, Rr⟩
  have hF1 := holdP_eq Hx.out
  have hx1 : find (holdP F 2).L 2 = some ⟨b2, 2, xyz, none, 0, 1, 1⟩ := by rw [hF1, find_put F 2 2 _ (by rw [Hx.out]; rfl), if_pos rfl]; rfl
  have hok1 : FsOk (holdP F 2) := by rw [hF1]; exact Hok.out.put (by rw [Hx.out]; rfl) ⟨by show 3 ≤ _; omega, Nat.zero_le _, ⟨by show (0 : Int) ≤ 0 + 1; omega, by show (0 : Int) + 1 ≤ 1000000; omega⟩, ⟨by show (0 : Int) ≤ 1; omega, by show (1 : Int) ≤ 1000000; omega⟩⟩
  obtain ⟨F1, hF1e⟩ : ∃ F1, F1 = holdP F 2 := ⟨_, rfl⟩
  rw [← hF1e] at S hx1 hok1
  have Hx1 := Lib.hid hx1
  have Hok1 := Lib.hid hok1
  clear hF1 hx1 hok1 hF1e
  have R3 := Lib.hid (Below.trans R2.out Rr)
  have S : Sat w3 (fsHp fb mb F1 * (tabHp tb fb bp hm [((1 : Int), (⟨hb1, 1, xb1, .file 2 0 ⟨true, false, false⟩⟩ : Hn))] 1 * (Spill.poolX bp 40 3 4 0 0 0 0 * (pts wb (wdO fb bp tb) * R)))) := S
  clear c0 c1 c2 HC R2
  obtain ⟨c0, c1, c2⟩ := wo_cells (S.perm (show _ = pts wb (wdO fb bp tb) * (fsHp fb mb F1 * (tabHp tb fb bp hm [((1 : Int), (⟨hb1, 1, xb1, .file 2 0 ⟨true, false, false⟩⟩ : Hn))] 1 * (Spill.poolX bp 40 3 4 0 0 0 0 * R))) by ac_rfl))
  have HC := Lib.hid (Ref_calls tb fb bp hm 1 ([((1 : Int), (⟨hb1, 1, xb1, .file 2 0 ⟨true, false, false⟩⟩ : Hn))] : HL) 1 ⟨hb1, 1, xb1, .file 2 0 ⟨true, false, false⟩⟩ (by unfold I64; omega) rfl (by show (0 : Int) ≤ 1; omega) (by show (1 : Int) ≤ 1000000; omega) w3 _ (S.perm (show _ = tabHp tb fb bp hm [((1 : Int), (⟨hb1, 1, xb1, .file 2 0 ⟨true, false, false⟩⟩ : Hn))] 1 * (fsHp fb mb F1 * (Spill.poolX bp 40 3 4 0 0 0 0 * (pts wb (wdO fb bp tb) * R))) by ac_rfl)))
  clear S
  go_wp2_with fail
  refine HC.out.mono ?_
  rintro e w4 ⟨⟨rfl, S⟩, Rr⟩
  have S := S.perm (show _ = fsHp fb mb F1 * (tabHp tb fb bp hm _ 1 * (Spill.poolX bp 40 3 4 0 0 0 0 * (pts wb (wdO fb bp tb) * R))) by ac_rfl)
  have R4 := Lib.hid (Below.trans R3.out Rr)
  have S : Sat w4 (fsHp fb mb F1 * (tabHp tb fb bp hm [((1 : Int), (⟨hb1, 2, xb1, .file 2 0 ⟨true, false, false⟩⟩ : Hn))] 1 * (Spill.poolX bp 40 3 4 0 0 0 0 * (pts wb (wdO fb bp tb) * R)))) := S
  clear c0 c1 c2 HC R3
  obtain ⟨c0, c1, c2⟩ := wo_cells (S.perm (show _ = pts wb (wdO fb bp tb) * (fsHp fb mb F1 * (tabHp tb fb bp hm [((1 : Int), (⟨hb1, 2, xb1, .file 2 0 ⟨true, false, false⟩⟩ : Hn))] 1 * (Spill.poolX bp 40 3 4 0 0 0 0 * R))) by ac_rfl))
  have HC := Lib.hid (TRead_file tb fb mb bp hm 1 F1 ([((1 : Int), (⟨hb1, 2, xb1, .file 2 0 ⟨true, false, false⟩⟩ : Hn))] : HL) 1 2 ⟨hb1, 2, xb1, .file 2 0 ⟨true, false, false⟩⟩ 0 ⟨true, false, false⟩ _ 2 (by unfold I64; omega) rfl rfl rfl (by unfold I64; omega) (by omega) (by omega) Hok1.out Hx1.out (by show (2 : Int) ≠ 1; decide) w4 _ S)
  clear S
  go_wp2_with fail
  refine HC.out.mono ?_
  rintro e w5 ⟨⟨rfl, S⟩, Rr⟩
  rw [show readB (⟨b2, 2, xyz, none, 0, 1, 1⟩ : Nd).text 0 2 = ⟨#[120, 121]⟩ from read_xy] at S ⊢
  have R5 := Lib.hid (Below.trans R4.out Rr)
  have S : Sat w5 (fsHp fb mb F1 * (tabHp tb fb bp hm [((1 : Int), (⟨hb1, 2, xb1, .file 2 2 ⟨true, false, false⟩⟩ : Hn))] 1 * (Spill.poolX bp 40 3 4 0 0 0 0 * (pts wb (wdO fb bp tb) * R)))) := S
  clear c0 c1 c2 HC R4
  obtain ⟨c0, c1, c2⟩ := wo_cells (S.perm (show _ = pts wb (wdO fb bp tb) * (fsHp fb mb F1 * (tabHp tb fb bp hm [((1 : Int), (⟨hb1, 2, xb1, .file 2 2 ⟨true, false, false⟩⟩ : Hn))] 1 * (Spill.poolX bp 40 3 4 0 0 0 0 * R))) by ac_rfl))
  have HC := Lib.hid (Unref_more tb fb bp hm 1 ([((1 : Int), (⟨hb1, 2, xb1, .file 2 2 ⟨true, false, false⟩⟩ : Hn))] : HL) 1 ⟨hb1, 2, xb1, .file 2 2 ⟨true, false, false⟩⟩ (by unfold I64; omega) rfl (by show (2 : Int) ≤ 2; omega) (by show (2 : Int) ≤ 1000000; omega) w5 _ (S.perm (show _ = tabHp tb fb bp hm [((1 : Int), (⟨hb1, 2, xb1, .file 2 2 ⟨true, false, false⟩⟩ : Hn))] 1 * (fsHp fb mb F1 * (Spill.poolX bp 40 3 4 0 0 0 0 * (pts wb (wdO fb bp tb) * R))) by ac_rfl)))
  clear S
  go_wp2_with fail
  refine HC.out.mono ?_
  rintro e w6 ⟨⟨rfl, S⟩, Rr⟩
  have S := S.perm (show _ = fsHp fb mb F1 * (tabHp tb fb bp hm _ 1 * (Spill.poolX bp 40 3 4 0 0 0 0 * (pts wb (wdO fb bp tb) * R))) by ac_rfl)
  have R6 := Lib.hid (Below.trans R5.out Rr)
  have S : Sat w6 (fsHp fb mb F1 * (tabHp tb fb bp hm [((1 : Int), (⟨hb1, 1, xb1, .file 2 2 ⟨true, false, false⟩⟩ : Hn))] 1 * (Spill.poolX bp 40 3 4 0 0 0 0 * (pts wb (wdO fb bp tb) * R)))) := S
  clear c0 c1 c2 HC R5
  obtain ⟨c0, c1, c2⟩ := wo_cells (S.perm (show _ = pts wb (wdO fb bp tb) * (fsHp fb mb F1 * (tabHp tb fb bp hm [((1 : Int), (⟨hb1, 1, xb1, .file 2 2 ⟨true, false, false⟩⟩ : Hn))] 1 * (Spill.poolX bp 40 3 4 0 0 0 0 * R))) by ac_rfl))
  have S0 := Lib.hid S
  have HC := Lib.hid (TStat_file tb fb bp hm 1 ([((1 : Int), (⟨hb1, 1, xb1, .file 2 2 ⟨true, false, false⟩⟩ : Hn))] : HL) 1 2 ⟨hb1, 1, xb1, .file 2 2 ⟨true, false, false⟩⟩ 2 ⟨true, false, false⟩ (by unfold I64; omega) rfl rfl w6 _ (S.perm (show _ = tabHp tb fb bp hm [((1 : Int), (⟨hb1, 1, xb1, .file 2 2 ⟨true, false, false⟩⟩ : Hn))] 1 * (fsHp fb mb F1 * (Spill.poolX bp 40 3 4 0 0 0 0 * (pts wb (wdO fb bp tb) * R))) by ac_rfl)))
  clear S
  go_wp2_with fail
  refine HC.out.mono ?_
  rintro e w7 ⟨rfl, hB⟩
  have S := ((S0.out.below hB).alloc (inO 1 1 2 2 ⟨true, false, false⟩)).perm (show _ = fsHp fb mb F1 * (tabHp tb fb bp hm [((1 : Int), (⟨hb1, 1, xb1, .file 2 2 ⟨true, false, false⟩⟩ : Hn))] 1 * (Spill.poolX bp 40 3 4 0 0 0 0 * (pts w7.heap.size (inO 1 1 2 2 ⟨true, false, false⟩) * (pts wb (wdO fb bp tb) * R)))) by ac_rfl)
  have R8 := Lib.hid (Ran.new (Below.trans R6.out (below_ran hB)) (inO 1 1 2 2 ⟨true, false, false⟩))
  clear c0 c1 c2 HC R6 hB S0
  obtain ⟨c0, c1, c2⟩ := wo_cells (S.perm (show _ = pts wb (wdO fb bp tb) * (fsHp fb mb F1 * (tabHp tb fb bp hm [((1 : Int), (⟨hb1, 1, xb1, .file 2 2 ⟨true, false, false⟩⟩ : Hn))] 1 * (Spill.poolX bp 40 3 4 0 0 0 0 * (pts w7.heap.size (inO 1 1 2 2 ⟨true, false, false⟩) * R)))) by ac_rfl))
  have HC := Lib.hid (TRead_file tb fb mb bp hm 1 F1 ([((1 : Int), (⟨hb1, 1, xb1, .file 2 2 ⟨true, false, false⟩⟩ : Hn))] : HL) 1 2 ⟨hb1, 1, xb1, .file 2 2 ⟨true, false, false⟩⟩ 2 ⟨true, false, false⟩ _ 9 (by unfold I64; omega) rfl rfl rfl (by unfold I64; omega) (by omega) (by omega) Hok1.out Hx1.out (by show (2 : Int) ≠ 1; decide) _ _ S)
  clear S
  go_wp2_with fail
  refine HC.out.mono ?_
  rintro e w9 ⟨⟨rfl, S⟩, Rr⟩
  rw [show readB (⟨b2, 2, xyz, none, 0, 1, 1⟩ : Nd).text 2 9 = ⟨#[122]⟩ from read_z] at S ⊢
  have R9 := Lib.hid (Below.trans R8.out Rr)
  have S : Sat w9 (fsHp fb mb F1 * (tabHp tb fb bp hm [((1 : Int), (⟨hb1, 1, xb1, .file 2 3 ⟨true, false, false⟩⟩ : Hn))] 1 * (Spill.poolX bp 40 3 4 0 0 0 0 * (pts w7.heap.size (inO 1 1 2 2 ⟨true, false, false⟩) * (pts wb (wdO fb bp tb) * R))))) := S
  clear c0 c1 c2 HC R8
  obtain ⟨c0, c1, c2⟩ := wo_cells (S.perm (show _ = pts wb (wdO fb bp tb) * (fsHp fb mb F1 * (tabHp tb fb bp hm [((1 : Int), (⟨hb1, 1, xb1, .file 2 3 ⟨true, false, false⟩⟩ : Hn))] 1 * (Spill.poolX bp 40 3 4 0 0 0 0 * (pts w7.heap.size (inO 1 1 2 2 ⟨true, false, false⟩) * R)))) by ac_rfl))
  have HC := Lib.hid (Pipe_calls tb fb bp hm 1 0 0 0 0 ([((1 : Int), (⟨hb1, 1, xb1, .file 2 3 ⟨true, false, false⟩⟩ : Hn))] : HL) 2 3 (free2 _) (fun x => free3 _ x) (by omega) (by omega) w9 _ (S.perm (show _ = tabHp tb fb bp hm [((1 : Int), (⟨hb1, 1, xb1, .file 2 3 ⟨true, false, false⟩⟩ : Hn))] 1 * (Spill.poolX bp 40 3 4 0 0 0 0 * (fsHp fb mb F1 * (pts w7.heap.size (inO 1 1 2 2 ⟨true, false, false⟩) * (pts wb (wdO fb bp tb) * R)))) by ac_rfl)))
  clear S
  go_wp2_with fail
  refine HC.out.mono ?_
  rintro e w10 ⟨⟨rfl, bb, eb, h1, x1, h2, x2, S⟩, Rr⟩
  have R10 := Lib.hid (Below.trans R9.out Rr)
  have S : Sat w10 (tabHp tb fb bp hm [((3 : Int), (⟨h2, 1, x2, .writer bb eb⟩ : Hn)), ((2 : Int), (⟨h1, 1, x1, .reader bb eb⟩ : Hn)), ((1 : Int), (⟨hb1, 1, xb1, .file 2 3 ⟨true, false, false⟩⟩ : Hn))] 3 * (Spill.poolX bp 40 3 4 0 (0 + (Spill.cl 3 4 (0 + ([] : List UInt8).length) - Spill.gn 3 4 0)) (0 + 1) 0 * (Spill.bufX bb bp 3 4 0 [] * (pts eb (ebO 2) * (fsHp fb mb F1 * (pts w7.heap.size (inO 1 1 2 2 ⟨true, false, false⟩) * (pts wb (wdO fb bp tb) * R))))))) := S
  clear c0 c1 c2 HC R9
  obtain ⟨c0, c1, c2⟩ := wo_cells (S.perm (show _ = pts wb (wdO fb bp tb) * (tabHp tb fb bp hm [((3 : Int), (⟨h2, 1, x2, .writer bb eb⟩ : Hn)), ((2 : Int), (⟨h1, 1, x1, .reader bb eb⟩ : Hn)), ((1 : Int), (⟨hb1, 1, xb1, .file 2 3 ⟨true, false, false⟩⟩ : Hn))] 3 * (Spill.poolX bp 40 3 4 0 (0 + (Spill.cl 3 4 (0 + ([] : List UInt8).length) - Spill.gn 3 4 0)) (0 + 1) 0 * (Spill.bufX bb bp 3 4 0 [] * (pts eb (ebO 2) * (fsHp fb mb F1 * (pts w7.heap.size (inO 1 1 2 2 ⟨true, false, false⟩) * R)))))) by ac_rfl))
  have HC := Lib.hid (TWrite_writer tb fb bp hm 3 0 0 (0 + 1) 0 0 ([((3 : Int), (⟨h2, 1, x2, .writer bb eb⟩ : Hn)), ((2 : Int), (⟨h1, 1, x1, .reader bb eb⟩ : Hn)), ((1 : Int), (⟨hb1, 1, xb1, .file 2 3 ⟨true, false, false⟩⟩ : Hn))] : HL) 3 ⟨h2, 1, x2, .writer bb eb⟩ bb eb [] [97, 98] (by unfold I64; omega) rfl rfl (by decide) (by decide) (by omega) (by omega) w10 _ S)
  clear S
  go_wp2_with fail
  refine HC.out.mono ?_
  rintro e w11 ⟨⟨rfl, S⟩, Rr⟩
  have R11 := Lib.hid (Below.trans R10.out Rr)
  have S : Sat w11 (tabHp tb fb bp hm [((3 : Int), (⟨h2, 1, x2, .writer bb eb⟩ : Hn)), ((2 : Int), (⟨h1, 1, x1, .reader bb eb⟩ : Hn)), ((1 : Int), (⟨hb1, 1, xb1, .file 2 3 ⟨true, false, false⟩⟩ : Hn))] 3 * (Spill.poolX bp 40 3 4 2 (0 + (Spill.cl 3 4 (0 + ([97, 98] : List UInt8).length) - Spill.gn 3 4 0)) (0 + 1) 2 * (Spill.bufX bb bp 3 4 0 [97, 98] * (pts eb (ebO 2) * (fsHp fb mb F1 * (pts w7.heap.size (inO 1 1 2 2 ⟨true, false, false⟩) * (pts wb (wdO fb bp tb) * R))))))) := S
  clear c0 c1 c2 HC R10
  obtain ⟨c0, c1, c2⟩ := wo_cells (S.perm (show _ = pts wb (wdO fb bp tb) * (tabHp tb fb bp hm [((3 : Int), (⟨h2, 1, x2, .writer bb eb⟩ : Hn)), ((2 : Int), (⟨h1, 1, x1, .reader bb eb⟩ : Hn)), ((1 : Int), (⟨hb1, 1, xb1, .file 2 3 ⟨true, false, false⟩⟩ : Hn))] 3 * (Spill.poolX bp 40 3 4 2 (0 + (Spill.cl 3 4 (0 + ([97, 98] : List UInt8).length) - Spill.gn 3 4 0)) (0 + 1) 2 * (Spill.bufX bb bp 3 4 0 [97, 98] * (pts eb (ebO 2) * (fsHp fb mb F1 * (pts w7.heap.size (inO 1 1 2 2 ⟨true, false, false⟩) * R)))))) by ac_rfl))
  have HC := Lib.hid (TRead_reader tb fb bp hm 3 2 0 (0 + 1) 2 0 ([((3 : Int), (⟨h2, 1, x2, .writer bb eb⟩ : Hn)), ((2 : Int), (⟨h1, 1, x1, .reader bb eb⟩ : Hn)), ((1 : Int), (⟨hb1, 1, xb1, .file 2 3 ⟨true, false, false⟩⟩ : Hn))] : HL) 2 ⟨h1, 1, x1, .reader bb eb⟩ bb eb [97, 98] 1 (by unfold I64; omega) rfl rfl (by decide) (by decide) (by decide) (by decide) (by omega) (by omega) w11 _ S)
  clear S
  go_wp2_with fail
  refine HC.out.mono ?_
  rintro e w12 ⟨⟨rfl, S⟩, Rr⟩
  have R12 := Lib.hid (Below.trans R11.out Rr)
  have S : Sat w12 (tabHp tb fb bp hm [((3 : Int), (⟨h2, 1, x2, .writer bb eb⟩ : Hn)), ((2 : Int), (⟨h1, 1, x1, .reader bb eb⟩ : Hn)), ((1 : Int), (⟨hb1, 1, xb1, .file 2 3 ⟨true, false, false⟩⟩ : Hn))] 3 * (Spill.poolX bp 40 3 4 1 (0 + (Spill.cl 3 4 (1 + ([98] : List UInt8).length) - Spill.gn 3 4 1)) (0 + 1) 2 * (Spill.bufX bb bp 3 4 1 [98] * (pts eb (ebO 2) * (fsHp fb mb F1 * (pts w7.heap.size (inO 1 1 2 2 ⟨true, false, false⟩) * (pts wb (wdO fb bp tb) * R))))))) := S
  clear c0 c1 c2 HC R11
  obtain ⟨c0, c1, c2⟩ := wo_cells (S.perm (show _ = pts wb (wdO fb bp tb) * (tabHp tb fb bp hm [((3 : Int), (⟨h2, 1, x2, .writer bb eb⟩ : Hn)), ((2 : Int), (⟨h1, 1, x1, .reader bb eb⟩ : Hn)), ((1 : Int), (⟨hb1, 1, xb1, .file 2 3 ⟨true, false, false⟩⟩ : Hn))] 3 * (Spill.poolX bp 40 3 4 1 (0 + (Spill.cl 3 4 (1 + ([98] : List UInt8).length) - Spill.gn 3 4 1)) (0 + 1) 2 * (Spill.bufX bb bp 3 4 1 [98] * (pts eb (ebO 2) * (fsHp fb mb F1 * (pts w7.heap.size (inO 1 1 2 2 ⟨true, false, false⟩) * R)))))) by ac_rfl))
  have HC := Lib.hid (Unref_writer_two tb fb bp hm 3 ([((3 : Int), (⟨h2, 1, x2, .writer bb eb⟩ : Hn)), ((2 : Int), (⟨h1, 1, x1, .reader bb eb⟩ : Hn)), ((1 : Int), (⟨hb1, 1, xb1, .file 2 3 ⟨true, false, false⟩⟩ : Hn))] : HL) 3 ⟨h2, 1, x2, .writer bb eb⟩ bb eb (by unfold I64; omega) rfl rfl (nd3 _ _ _) rfl w12 _ (S.perm (show _ = tabHp tb fb bp hm [((3 : Int), (⟨h2, 1, x2, .writer bb eb⟩ : Hn)), ((2 : Int), (⟨h1, 1, x1, .reader bb eb⟩ : Hn)), ((1 : Int), (⟨hb1, 1, xb1, .file 2 3 ⟨true, false, false⟩⟩ : Hn))] 3 * (pts eb (ebO 2) * (Spill.poolX bp 40 3 4 1 (0 + (Spill.cl 3 4 (1 + ([98] : List UInt8).length) - Spill.gn 3 4 1)) (0 + 1) 2 * (Spill.bufX bb bp 3 4 1 [98] * (fsHp fb mb F1 * (pts w7.heap.size (inO 1 1 2 2 ⟨true, false, false⟩) * (pts wb (wdO fb bp tb) * R)))))) by ac_rfl)))
  clear S
  go_wp2_with fail
  refine HC.out.mono ?_
  rintro e w13 ⟨⟨rfl, S⟩, Rr⟩
  have R13 := Lib.hid (Below.trans R12.out Rr)
  have S : Sat w13 (tabHp tb fb bp hm [((2 : Int), (⟨h1, 1, x1, .reader bb eb⟩ : Hn)), ((1 : Int), (⟨hb1, 1, xb1, .file 2 3 ⟨true, false, false⟩⟩ : Hn))] 3 * (pts eb (ebO 1) * (Spill.poolX bp 40 3 4 1 (0 + (Spill.cl 3 4 (1 + ([98] : List UInt8).length) - Spill.gn 3 4 1)) (0 + 1) 2 * (Spill.bufX bb bp 3 4 1 [98] * (fsHp fb mb F1 * (pts w7.heap.size (inO 1 1 2 2 ⟨true, false, false⟩) * (pts wb (wdO fb bp tb) * R))))))) := S
  clear c0 c1 c2 HC R12
  obtain ⟨c0, c1, c2⟩ := wo_cells (S.perm (show _ = pts wb (wdO fb bp tb) * (tabHp tb fb bp hm [((2 : Int), (⟨h1, 1, x1, .reader bb eb⟩ : Hn)), ((1 : Int), (⟨hb1, 1, xb1, .file 2 3 ⟨true, false, false⟩⟩ : Hn))] 3 * (pts eb (ebO 1) * (Spill.poolX bp 40 3 4 1 (0 + (Spill.cl 3 4 (1 + ([98] : List UInt8).length) - Spill.gn 3 4 1)) (0 + 1) 2 * (Spill.bufX bb bp 3 4 1 [98] * (fsHp fb mb F1 * (pts w7.heap.size (inO 1 1 2 2 ⟨true, false, false⟩) * R)))))) by ac_rfl))
  have HBu := Lib.hid (Spill.xbuffers bp 40 3 4 1 (0 + (Spill.cl 3 4 (1 + ([98] : List UInt8).length) - Spill.gn 3 4 1)) (0 + 1) 2 _ w13 (S.perm (show _ = Spill.poolX bp 40 3 4 1 (0 + (Spill.cl 3 4 (1 + ([98] : List UInt8).length) - Spill.gn 3 4 1)) (0 + 1) 2 * (tabHp tb fb bp hm [((2 : Int), (⟨h1, 1, x1, .reader bb eb⟩ : Hn)), ((1 : Int), (⟨hb1, 1, xb1, .file 2 3 ⟨true, false, false⟩⟩ : Hn))] 3 * (pts eb (ebO 1) * (Spill.bufX bb bp 3 4 1 [98] * (fsHp fb mb F1 * (pts w7.heap.size (inO 1 1 2 2 ⟨true, false, false⟩) * (pts wb (wdO fb bp tb) * R)))))) by ac_rfl)))
  have HC := Lib.hid (Unref_reader_one tb fb bp hm 3 1 0 0 2 1 ([((2 : Int), (⟨h1, 1, x1, .reader bb eb⟩ : Hn)), ((1 : Int), (⟨hb1, 1, xb1, .file 2 3 ⟨true, false, false⟩⟩ : Hn))] : HL) 2 ⟨h1, 1, x1, .reader bb eb⟩ bb eb [98] (by unfold I64; omega) rfl rfl (nd2 _ _) rfl (by decide) (by decide) (by decide) (by omega) (by omega) (by omega) w13 _ S)
  clear S
  go_wp2_with fail
  refine HBu.out.mono ?_
  rintro e w13 ⟨rfl, rfl⟩
  go_wp2_with fail
  refine HC.out.mono ?_
  rintro e w14 ⟨⟨rfl, S⟩, Rr⟩
  clear HBu
  have R14 := Lib.hid (Below.trans R13.out Rr)
  have S : Sat w14 (tabHp tb fb bp hm [((1 : Int), (⟨hb1, 1, xb1, .file 2 3 ⟨true, false, false⟩⟩ : Hn))] 3 * (Spill.poolX bp 40 3 4 0 0 0 2 * (fsHp fb mb F1 * (pts w7.heap.size (inO 1 1 2 2 ⟨true, false, false⟩) * (pts wb (wdO fb bp tb) * R))))) := S
  clear c0 c1 c2 HC R13
  obtain ⟨c0, c1, c2⟩ := wo_cells (S.perm (show _ = pts wb (wdO fb bp tb) * (tabHp tb fb bp hm [((1 : Int), (⟨hb1, 1, xb1, .file 2 3 ⟨true, false, false⟩⟩ : Hn))] 3 * (Spill.poolX bp 40 3 4 0 0 0 2 * (fsHp fb mb F1 * (pts w7.heap.size (inO 1 1 2 2 ⟨true, false, false⟩) * R)))) by ac_rfl))
  have HC := Lib.hid (Unref_file_one tb fb mb bp hm 3 F1 ([((1 : Int), (⟨hb1, 1, xb1, .file 2 3 ⟨true, false, false⟩⟩ : Hn))] : HL) 1 2 ⟨hb1, 1, xb1, .file 2 3 ⟨true, false, false⟩⟩ 3 ⟨true, false, false⟩ _ (by unfold I64; omega) rfl rfl (nd1 _) rfl (by unfold I64; omega) Hok1.out Hx1.out (by show (1 : Int) ≤ 1; omega) w14 _ (S.perm (show _ = tabHp tb fb bp hm [((1 : Int), (⟨hb1, 1, xb1, .file 2 3 ⟨true, false, false⟩⟩ : Hn))] 3 * (fsHp fb mb F1 * (Spill.poolX bp 40 3 4 0 0 0 2 * (pts w7.heap.size (inO 1 1 2 2 ⟨true, false, false⟩) * (pts wb (wdO fb bp tb) * R)))) by ac_rfl)))
  clear S
  go_wp2_with fail
  refine HC.out.mono ?_
  rintro e w15 ⟨⟨rfl, S⟩, Rr⟩
  have hF2 := dropP_eq Hx1.out (by show (1 : Int) ≠ 0; decide)
  have hx2 : find (dropP F1 2).L 2 = some ⟨b2, 2, xyz, none, 0, 1, 0⟩ := by rw [hF2, find_put F1 2 2 _ (by rw [Hx1.out]; rfl), if_pos rfl]; rfl
  have hok2 : ∀ z, find (dropP F1 2).L 2 = some z → NdSmall z := fun z hz => by rw [hx2] at hz; injection hz with hz; rw [← hz]; exact ⟨by show 3 ≤ _; omega, Nat.zero_le _⟩
  have S := S.perm (show _ = fsHp fb mb (dropP F1 2) * (tabHp tb fb bp hm _ 3 * (Spill.poolX bp 40 3 4 0 0 0 2 * (pts w7.heap.size (inO 1 1 2 2 ⟨true, false, false⟩) * (pts wb (wdO fb bp tb) * R)))) by ac_rfl)
  have R15 := Lib.hid (Below.trans R14.out Rr)
  have S : Sat w15 (fsHp fb mb (dropP F1 2) * (tabHp tb fb bp hm [] 3 * (Spill.poolX bp 40 3 4 0 0 0 2 * (pts w7.heap.size (inO 1 1 2 2 ⟨true, false, false⟩) * (pts wb (wdO fb bp tb) * R))))) := S
  clear c0 c1 c2 HC R14
  obtain ⟨c0, c1, c2⟩ := wo_cells (S.perm (show _ = pts wb (wdO fb bp tb) * (fsHp fb mb (dropP F1 2) * (tabHp tb fb bp hm [] 3 * (Spill.poolX bp 40 3 4 0 0 0 2 * (pts w7.heap.size (inO 1 1 2 2 ⟨true, false, false⟩) * R)))) by ac_rfl))
  have HSt := Stat_calls fb mb (dropP F1 2) 2 (by unfold I64; omega) hok2 w15 _ S
  unfold statE statV at HSt
  rw [hx2] at HSt
  dsimp only at HSt
  rw [show sizeN (⟨b2, 2, xyz, none, 0, 1, 0⟩ : Nd) = 3 from rfl] at HSt
  have HC := Lib.hid HSt
  have S0 := Lib.hid S
  clear S hx2 hok2 hF2 HSt
  go_wp2_with fail
  refine HC.out.mono ?_
  rintro e w16 ⟨rfl, hB⟩
  have S := (S0.out.below hB).alloc (infoO 2 3 1 0)
  have R17 := Lib.hid (Ran.new (Below.trans R15.out (below_ran hB)) (infoO 2 3 1 0))
  clear c0 c1 c2 HC R15 hB S0
  obtain ⟨y0, y1, y2, y3⟩ := info_cells S
  have S := S.right
  obtain ⟨c0, c1, c2⟩ := wo_cells (S.perm (show _ = pts wb (wdO fb bp tb) * (fsHp fb mb (dropP F1 2) * (tabHp tb fb bp hm [] 3 * (Spill.poolX bp 40 3 4 0 0 0 2 * (pts w7.heap.size (inO 1 1 2 2 ⟨true, false, false⟩) * R)))) by ac_rfl))
  obtain ⟨x0, x1', x2', x3, x4, x5, x6⟩ := in_cells (S.perm (show _ = pts w7.heap.size (inO 1 1 2 2 ⟨true, false, false⟩) * (fsHp fb mb (dropP F1 2) * (tabHp tb fb bp hm [] 3 * (Spill.poolX bp 40 3 4 0 0 0 2 * (pts wb (wdO fb bp tb) * R)))) by ac_rfl))
  have HBu := Lib.hid (Spill.xbuffers bp 40 3 4 0 0 0 2 _ _ (S.perm (show _ = Spill.poolX bp 40 3 4 0 0 0 2 * (fsHp fb mb (dropP F1 2) * (tabHp tb fb bp hm [] 3 * (pts w7.heap.size (inO 1 1 2 2 ⟨true, false, false⟩) * (pts wb (wdO fb bp tb) * R)))) by ac_rfl)))
  have S := Lib.hid (S.perm (show _ = fsHp fb mb (dropP F1 2) * (tabHp tb fb bp hm [] 3 * (Spill.poolX bp 40 3 4 0 0 0 2 * (pts w7.heap.size (inO 1 1 2 2 ⟨true, false, false⟩) * (pts wb (wdO fb bp tb) * R)))) by ac_rfl))
  go_wp2_with fail
  refine HBu.out.mono ?_
  rintro e w17 ⟨rfl, rfl⟩
  go_wp2_with fail
  go_ret
  exact ⟨⟨rfl, S.out.right.right.right.right.right⟩, R17.out⟩
end Go.Proofs.YtljlpkeddbfpaaaGreatDoor.Hd
