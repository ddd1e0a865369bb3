/- begun walked. -/
import Derived.Test.YtljlpkeddbfpaaaGreatDoorHdS
namespace Go.Proofs.YtljlpkeddbfpaaaGreatDoor.Hd
open Go.RowKit Go.Maps Go.Proofs.YtljlpkeddbfpaaaGreatDoor Go.Proofs.YtljlpkeddbfpaaaGreatDoor.Hp
set_option linter.unusedVariables false
attribute [local go_sem] Oper.semAt_some

abbrev woO (a b c : Value) : Obj := .cells #[a, b, c] 28 (0, 0)
theorem wo_cells {w : World} {b : Nat} {x y z : Value} {S : Hp} (h : Sat w (pts b (woO x y z) * S)) : w.cell? ⟨b, 0, none⟩ = some x ∧ w.cell? ⟨b, 1, none⟩ = some y ∧ w.cell? ⟨b, 2, none⟩ = some z := by
  have hb := h.get
  refine ⟨?_, ?_, ?_⟩ <;> rw [cell_at hb] <;> rfl
theorem putM_ne (M : K.SM) (k j : ByteArray) (v : Int) (h : j ≠ k) : K.putM M k v j = M j := if_neg h
abbrev dN (d : Kd) (c : UInt8) (g : Nat) : Kd := { d with M := K.putM d.M (nm c) (g : Int), sz := d.sz + 1, n := d.n + 1 }
abbrev xN (x : Nd) (d : Kd) : Nd := { x with kids := some d }
abbrev bd1 (kb : Nat) : Kd := ⟨kb, fun _ => none, 0, 0⟩
abbrev bd2 (kb : Nat) : Kd := dN (bd1 kb) 97 2
abbrev bd3 (kb : Nat) : Kd := dN (bd2 kb) 98 3
abbrev bd4 (kb : Nat) : Kd := dN (bd3 kb) 108 4
abbrev bx2 (b kb : Nat) : Nd := xN (rootN b kb) (bd2 kb)
abbrev bx3 (b kb : Nat) : Nd := xN (bx2 b kb) (bd3 kb)
abbrev bx4 (b kb : Nat) : Nd := xN (bx3 b kb) (bd4 kb)
abbrev bF1 (b kb : Nat) : Fs := newF 8 60 b kb
abbrev bF2 (b kb b2 : Nat) : Fs := madeF (bF1 b kb) (rootN b kb) (bd1 kb) 97 2 ⟨b2, 2, xyz, none, 0, 1, 0⟩
abbrev bF3 (b kb b2 b3 : Nat) : Fs := madeF (bF2 b kb b2) (bx2 b kb) (bd2 kb) 98 3 ⟨b3, 2, ⟨#[]⟩, none, 0, 1, 0⟩
abbrev bF4 (b kb b2 b3 b4 : Nat) : Fs := madeF (bF3 b kb b2 b3) (bx3 b kb) (bd3 kb) 108 4 ⟨b4, 3, nm 97, none, 0, 1, 0⟩
abbrev bF5 (b kb b2 b3 b4 b5 k5 : Nat) : Fs := madeF (bF4 b kb b2 b3 b4) (bx4 b kb) (bd4 kb) 100 5 ⟨b5, 1, ⟨#[]⟩, some ⟨k5, fun _ => none, 0, 0⟩, 1, 1, 0⟩
theorem begun_facts (b kb b2 b3 b4 b5 k5 : Nat) : MakeOk (bF1 b kb) (rootN b kb) (bd1 kb) 97 2 xyz ∧ MakeOk (bF2 b kb b2) (bx2 b kb) (bd2 kb) 98 3 ⟨#[]⟩ ∧ MakeOk (bF3 b kb b2 b3) (bx3 b kb) (bd3 kb) 108 4 (nm 97) ∧ MakeOk (bF4 b kb b2 b3 b4) (bx4 b kb) (bd4 kb) 100 5 ⟨#[]⟩ ∧ Begun (bF5 b kb b2 b3 b4 b5 k5) := by
  obtain ⟨F1, hF⟩ : ∃ F, F = newF 8 60 b kb := ⟨_, rfl⟩
  obtain ⟨x, hx⟩ : ∃ x, x = rootN b kb := ⟨_, rfl⟩
  obtain ⟨d, hd⟩ : ∃ d : Kd, d = ⟨kb, fun _ => none, 0, 0⟩ := ⟨_, rfl⟩
  have B1 := beg_new b kb
  rw [← hF, ← hx, ← hd] at B1
  have hM1 : d.M = fun _ => none := by rw [hd]
  have ok1 : MakeOk F1 x d 97 2 xyz := B1.make (.inl rfl) (by rw [hM1]) (by decide) (by omega)
  have B2 := B1.next (by omega) 97 ⟨b2, 2, xyz, none, 0, 1, 0⟩ (by omega)
  obtain ⟨F2, hF2⟩ : ∃ F2, F2 = madeF F1 x d 97 2 ⟨b2, 2, xyz, none, 0, 1, 0⟩ := ⟨_, rfl⟩
  have f2 := find_made F1 x d 97 2 ⟨b2, 2, xyz, none, 0, 1, 0⟩ B1.root
  obtain ⟨d2, hd2⟩ : ∃ d2 : Kd, d2 = { d with M := K.putM d.M (nm 97) ((2 : Nat) : Int), sz := d.sz + 1, n := d.n + 1 } := ⟨_, rfl⟩
  rw [← hd2] at B2
  obtain ⟨x2, hx2⟩ : ∃ x2 : Nd, x2 = { x with kids := some d2 } := ⟨_, rfl⟩
  rw [← hx2, ← hF2] at B2
  rw [← hF2] at f2
  have ok2 : MakeOk F2 x2 d2 98 3 ⟨#[]⟩ := B2.make (.inr (.inl rfl)) (by rw [hd2]; exact (putM_ne d.M (nm 97) (nm 98) ((2 : Nat) : Int) (by decide)).trans (by rw [hM1])) (Nat.zero_le _) (Nat.le_of_ble_eq_true rfl)
  have B3 := B2.next (by omega) 98 ⟨b3, 2, ⟨#[]⟩, none, 0, 1, 0⟩ (by omega)
  obtain ⟨F3, hF3⟩ : ∃ F3, F3 = madeF F2 x2 d2 98 3 ⟨b3, 2, ⟨#[]⟩, none, 0, 1, 0⟩ := ⟨_, rfl⟩
  have f3 := find_made F2 x2 d2 98 3 ⟨b3, 2, ⟨#[]⟩, none, 0, 1, 0⟩ B2.root
  obtain ⟨d3, hd3⟩ : ∃ d3 : Kd, d3 = { d2 with M := K.putM d2.M (nm 98) ((3 : Nat) : Int), sz := d2.sz + 1, n := d2.n + 1 } := ⟨_, rfl⟩
  rw [← hd3] at B3
  obtain ⟨x3, hx3⟩ : ∃ x3 : Nd, x3 = { x2 with kids := some d3 } := ⟨_, rfl⟩
  rw [← hx3, ← hF3] at B3
  rw [← hF3] at f3
  have ok3 : MakeOk F3 x3 d3 108 4 (nm 97) := B3.make (.inr (.inr (.inl rfl))) (by rw [hd3]; refine (putM_ne d2.M (nm 98) (nm 108) ((3 : Nat) : Int) (by decide)).trans ?_; rw [hd2]; exact (putM_ne d.M (nm 97) (nm 108) ((2 : Nat) : Int) (by decide)).trans (by rw [hM1])) (Nat.le_of_ble_eq_true rfl) (Nat.le_of_ble_eq_true rfl)
  have B4 := B3.next (by omega) 108 ⟨b4, 3, nm 97, none, 0, 1, 0⟩ (by omega)
  obtain ⟨F4, hF4⟩ : ∃ F4, F4 = madeF F3 x3 d3 108 4 ⟨b4, 3, nm 97, none, 0, 1, 0⟩ := ⟨_, rfl⟩
  have f4 := find_made F3 x3 d3 108 4 ⟨b4, 3, nm 97, none, 0, 1, 0⟩ B3.root
  obtain ⟨d4, hd4⟩ : ∃ d4 : Kd, d4 = { d3 with M := K.putM d3.M (nm 108) ((4 : Nat) : Int), sz := d3.sz + 1, n := d3.n + 1 } := ⟨_, rfl⟩
  rw [← hd4] at B4
  obtain ⟨x4, hx4⟩ : ∃ x4 : Nd, x4 = { x3 with kids := some d4 } := ⟨_, rfl⟩
  rw [← hx4, ← hF4] at B4
  rw [← hF4] at f4
  have ok4 : MakeOk F4 x4 d4 100 5 ⟨#[]⟩ := B4.make (.inr (.inr (.inr rfl))) (by rw [hd4]; refine (putM_ne d3.M (nm 108) (nm 100) ((4 : Nat) : Int) (by decide)).trans ?_; rw [hd3]; refine (putM_ne d2.M (nm 98) (nm 100) ((3 : Nat) : Int) (by decide)).trans ?_; rw [hd2]; exact (putM_ne d.M (nm 97) (nm 100) ((2 : Nat) : Int) (by decide)).trans (by rw [hM1])) (Nat.zero_le _) (Nat.le_of_ble_eq_true rfl)
  have B5 := B4.next (by omega) 100 ⟨b5, 1, ⟨#[]⟩, some ⟨k5, fun _ => none, 0, 0⟩, 1, 1, 0⟩ (by omega)
  have f5 := find_made F4 x4 d4 100 5 ⟨b5, 1, ⟨#[]⟩, some ⟨k5, fun _ => none, 0, 0⟩, 1, 1, 0⟩ B4.root
  have key : Begun (madeF F4 x4 d4 100 5 ⟨b5, 1, ⟨#[]⟩, some ⟨k5, fun _ => none, 0, 0⟩, 1, 1, 0⟩) := ?key
  · subst hF2 hF3 hF4 hx2 hx3 hx4 hd2 hd3 hd4 hF hx hd
    exact ⟨ok1, ok2, ok3, ok4, key⟩
  have hroot : x4.b = b ∧ x4.kind = 1 ∧ x4.text = ⟨#[]⟩ ∧ x4.par = 1 ∧ x4.names = 0 ∧ x4.holds = 0 := by rw [hx4, hx3, hx2, hx]; exact ⟨rfl, rfl, rfl, rfl, rfl, rfl⟩
  refine { n2 := ⟨b2, ?_⟩, n3 := ⟨b3, ?_⟩, n4 := ⟨b4, ?_⟩, n5 := ⟨b5, ⟨k5, fun _ => none, 0, 0⟩, ?_, rfl⟩, n1 := ⟨b, { d4 with M := K.putM d4.M (nm 100) ((5 : Nat) : Int), sz := d4.sz + 1, n := d4.n + 1 }, ?_, ?_⟩, only := fun j => ?_, room := B5.room, used := B5.used }
  · rw [f5, if_neg (by omega), if_neg (by omega), f4, if_neg (by omega), if_neg (by omega), f3, if_neg (by omega), if_neg (by omega), f2, if_pos (by omega)]
  · rw [f5, if_neg (by omega), if_neg (by omega), f4, if_neg (by omega), if_neg (by omega), f3, if_pos (by omega)]
  · rw [f5, if_neg (by omega), if_neg (by omega), f4, if_pos (by omega)]
  · rw [f5, if_pos (by omega)]
  · rw [f5, if_neg (by omega), if_pos rfl]
    obtain ⟨h1, h2, h3, h4, h5, h6⟩ := hroot
    rw [Option.some.injEq, Nd.mk.injEq]
    exact ⟨h1, h2, h3, rfl, h4, h5, h6⟩
  · show d4.sz + 1 = 4
    rw [hd4, hd3, hd2, hd]
  · exact B5.full j
set_option maxRecDepth 100000 in
set_option maxHeartbeats 8000000 in
theorem begun_calls (w : World) (R : Hp) (h : Sat w R) :
    Calls Tryz.prog 9 #[] w fun e w' => (∃ fb mb tb hm bp F, e = .returned (.tuple #[.agg #[pp fb, pp bp, pp tb], .bool true]) ∧ Begun F ∧ Sat w' (fsHp fb mb F * (tabHp tb fb bp hm [] 0 * (Spill.poolX bp 40 3 4 0 0 0 0 * R)))) ∧ Ran w w' := by
  have S0 := h.alloc (woO (.pointer none) (.pointer none) (.pointer none))
  have HN := Lib.hid (New_calls 8 60 (by omega) (by omega) (by omega) (by omega) _ _ S0)
  have R0 := Lib.hid (Ran.new (Below.refl 0 w) (woO (.pointer none) (.pointer none) (.pointer none)))
  clear h S0
  go_enter Tryz.func9, Tryz.ntmps9
  go_wp2_with fail
  refine HN.out.mono ?_
  rintro e w1 ⟨⟨fb, mb, b, kb, rfl, S1⟩, R1⟩
  have R1 := Lib.hid (Below.trans R0.out R1)
  have HP := Lib.hid (Spill.xnew 40 3 4 w1 _ S1 (by omega) (by omega) (by omega) (by omega))
  clear S1 R0 HN
  go_wp2_with fail
  refine HP.out.mono ?_
  rintro e w2 ⟨bp, rfl, S2, R2⟩
  have R2 := Lib.hid (Below.trans R1.out R2)
  have HM := Lib.hid (Make_calls fb mb (bF1 b kb) (rootN b kb) (bd1 kb) 97 2 xyz 2 (.inl rfl) (begun_facts b kb 0 0 0 0 0).1 w2 _ (S2.perm (show _ = fsHp fb mb (bF1 b kb) * (pts w.heap.size (woO (.pointer none) (.pointer none) (.pointer none)) * (Spill.poolX bp 40 3 4 0 0 0 0 * R)) by ac_rfl)))
  clear S2 R1 HP
  go_wp2_with fail
  refine HM.out.mono ?_
  rintro e w3 ⟨⟨rfl, b2, S3⟩, R3⟩
  have R3 := Lib.hid (Below.trans R2.out R3)
  have HM2 := Lib.hid (Make_calls fb mb (bF2 b kb b2) (bx2 b kb) (bd2 kb) 98 3 ⟨#[]⟩ 2 (.inl rfl) (begun_facts b kb b2 0 0 0 0).2.1 w3 _ S3)
  clear S3 R2 HM
  go_wp2_with fail
  refine HM2.out.mono ?_
  rintro e w4 ⟨⟨rfl, b3, S4⟩, R4⟩
  have R4 := Lib.hid (Below.trans R3.out R4)
  have HM3 := Lib.hid (Make_calls fb mb (bF3 b kb b2 b3) (bx3 b kb) (bd3 kb) 108 4 (nm 97) 3 (.inr rfl) (begun_facts b kb b2 b3 0 0 0).2.2.1 w4 _ S4)
  clear S4 R3 HM2
  go_wp2_with fail
  refine HM3.out.mono ?_
  rintro e w5 ⟨⟨rfl, b4, S5⟩, R5⟩
  have R5 := Lib.hid (Below.trans R4.out R5)
  have HM4 := Lib.hid (MakeD_calls fb mb (bF4 b kb b2 b3 b4) (bx4 b kb) (bd4 kb) 100 5 (begun_facts b kb b2 b3 b4 0 0).2.2.2.1 w5 _ S5)
  clear S5 R4 HM3
  go_wp2_with fail
  refine HM4.out.mono ?_
  rintro e w6 ⟨⟨rfl, b5, k5, S6⟩, R6⟩
  have R6 := Lib.hid (Below.trans R5.out R6)
  have HB := Lib.hid (begun_facts b kb b2 b3 b4 b5 k5).2.2.2.2
  obtain ⟨F, hF⟩ : ∃ F, F = bF5 b kb b2 b3 b4 b5 k5 := ⟨_, rfl⟩
  have S6 : Sat w6 (fsHp fb mb F * (pts w.heap.size (woO (.pointer none) (.pointer none) (.pointer none)) * (Spill.poolX bp 40 3 4 0 0 0 0 * R))) := by rw [hF]; exact S6
  have HB : Hid (Begun F) := Lib.hid (by rw [hF]; exact HB.out)
  have HN2 := Lib.hid (HNew_calls fb bp w6 _ S6)
  clear S6 R5 HM4 hF
  go_wp2_with fail
  refine HN2.out.mono ?_
  rintro e w7 ⟨⟨tb, hm, rfl, S7⟩, R7⟩
  have R7 := Lib.hid (Below.trans R6.out R7)
  have S8 := S7.perm (show _ = pts w.heap.size (woO (.pointer none) (.pointer none) (.pointer none)) * (fsHp fb mb F * (tabHp tb fb bp hm [] 0 * (Spill.poolX bp 40 3 4 0 0 0 0 * R))) by ac_rfl)
  obtain ⟨z0, z1, z2⟩ := wo_cells S8
  have f0 : ∀ i, w7.frozen? ⟨w.heap.size, i, none⟩ = false := fun i => free_at S8.get i
  have S9 := ((S8.set (i := 0) (pp fb)).set (i := 1) (pp bp)).set (i := 2) (pp tb)
  obtain ⟨r0, r1, r2⟩ := wo_cells (x := pp fb) (y := pp bp) (z := pp tb) S9
  have S9 := Lib.hid S9.right
  clear S7 S8 R6 HN2
  go_wp2_with fail
  refine bodyPost_ret (v := .tuple #[.agg #[pp fb, pp bp, pp tb], .bool true]) (by simp [results, Tryz.results9, go_sem, r0, r1, r2]) rfl ?_
  exact ⟨⟨fb, mb, tb, hm, bp, F, rfl, HB.out, S9.out⟩, Ran.set (Ran.set (Ran.set R7.out _ _) _ _) _ _⟩
end Go.Proofs.YtljlpkeddbfpaaaGreatDoor.Hd
