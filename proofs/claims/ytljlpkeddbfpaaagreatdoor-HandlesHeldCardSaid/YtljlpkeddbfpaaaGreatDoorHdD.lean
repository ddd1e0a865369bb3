/- Hold, Drop, Read of a tree walked. -/
import Derived.Test.YtljlpkeddbfpaaaGreatDoorHdC
namespace Go.Proofs.YtljlpkeddbfpaaaGreatDoor.Hd
open Go.RowKit Go.Maps Go.Proofs.YtljlpkeddbfpaaaGreatDoor Go.Proofs.YtljlpkeddbfpaaaGreatDoor.Hp
set_option linter.unusedVariables false
attribute [local go_sem] Oper.semAt_some

structure NdOk (x : Nd) : Prop where
  text : x.text.size ≤ 1000000
  kids : ksz x.kids ≤ 1000000
  holds : 0 ≤ x.holds ∧ x.holds ≤ 1000000
  names : 0 ≤ x.names ∧ x.names ≤ 1000000
def FsOk (F : Fs) : Prop := ∀ k x, find F.L k = some x → NdOk x
theorem FsOk.small {F : Fs} (h : FsOk F) (k : Int) : ∀ x, find F.L k = some x → NdSmall x := fun x hx => ⟨(h k x hx).text, (h k x hx).kids⟩
def Fs.put (F : Fs) (k : Int) (x : Nd) : Fs := { F with L := upd F.L k x }
def holdP (F : Fs) (k : Int) : Fs := match find F.L k with
  | none => F
  | some x => F.put k { x with holds := x.holds + 1 }
theorem below_ran {w w' : World} {B : Nat} (h : Below B w w') : Ran w w' := h.mono (Nat.zero_le _)
set_option maxRecDepth 100000 in
set_option maxHeartbeats 8000000 in
theorem Hold_calls (fb mb : Nat) (F : Fs) (k : Int) (hk : I64 k) (hs : FsOk F) (w : World) (R : Hp) (h : Sat w (fsHp fb mb F * R)) :
    Calls Tryz.prog 36 #[pp fb, .int .i64 k] w fun e w' => (e = .returned (.int .i64 (statE F k)) ∧ Sat w' (fsHp fb mb (holdP F k) * R)) ∧ Ran w w' := by
  have HS := Stat_calls fb mb F k hk (hs.small k) w R h
  unfold statE statV at HS
  unfold statE holdP
  cases hx : find F.L k with
  | none =>
    rw [hx] at HS
    have HS := Lib.hid HS
    have H0 := Lib.hid h
    clear h hx hs
    go_enter Tryz.func36, Tryz.ntmps36
    go_wp2_with fail
    refine HS.out.mono ?_
    rintro e w1 ⟨rfl, hB⟩
    have S1 := Lib.hid (H0.out.below hB)
    have R1 := Lib.hid (below_ran hB)
    clear hB HS
    go_wp2_with fail
    go_ret
    exact ⟨⟨rfl, S1.out.old _⟩, Ran.new R1.out _⟩
  | some x =>
    rw [hx] at HS
    have HS := Lib.hid HS
    have H0 := Lib.hid h
    have hh := (hs k x hx).holds
    obtain ⟨hh1, hh2⟩ := hh
    have Hx := Lib.hid hx
    clear h hs hx
    go_enter Tryz.func36, Tryz.ntmps36
    go_wp2_with fail
    refine HS.out.mono ?_
    rintro e w1 ⟨rfl, hB⟩
    have S1 := (H0.out.below hB).old (infoO x.kind (sizeN x) x.names x.holds)
    have R1 := Lib.hid (Ran.new (below_ran hB) (infoO x.kind (sizeN x) x.names x.holds))
    obtain ⟨c0, c1, c2, c3⟩ := fs_cells S1
    have hl := fs_look S1 k hk
    rw [show blk F.L k = some x.b by unfold blk; rw [Hx.out]; rfl] at hl
    unfold pv at hl
    obtain ⟨X, S2, back⟩ := fs_node S1 Hx.out
    obtain ⟨d0, d1, d2, d3, d4, d5⟩ := nd_cells S2
    have f0 : ∀ i, (w1.alloc (infoO x.kind (sizeN x) x.names x.holds)).frozen? ⟨x.b, i, none⟩ = false := fun i => free_at S2.get i
    have S3 := Lib.hid (back _ { x with holds := x.holds + 1 } (F.put k { x with holds := x.holds + 1 }) R rfl rfl rfl (S2.set (i := 5) (.int .i64 (x.holds + 1))))
    clear hB HS S1 S2 back
    go_wp2_with fail
    go_ret
    exact ⟨⟨rfl, S3.out⟩, R1.out.set _ _⟩
def dropE (F : Fs) (k : Int) : Int := match find F.L k with
  | none => 10
  | some x => if x.holds = 0 then 1 else 0
def dropP (F : Fs) (k : Int) : Fs := match find F.L k with
  | none => F
  | some x => if x.holds = 0 then F else F.put k { x with holds := x.holds - 1 }
set_option maxRecDepth 100000 in
set_option maxHeartbeats 8000000 in
/-- sweep at a node that has names. -/
theorem sweep_calls (fb mb : Nat) (F : Fs) (k : Int) (x : Nd) (hk : I64 k) (hx : find F.L k = some x) (hn : 1 ≤ x.names) (w : World) (R : Hp) (h : Sat w (fsHp fb mb F * R)) :
    Calls Tryz.prog 210 #[pp fb, .int .i64 k] w fun e w' => e = .returned (.tuple #[]) ∧ w = w' := by
  obtain ⟨c0, c1, c2, c3⟩ := fs_cells h
  have hl := fs_look h k hk
  rw [show blk F.L k = some x.b by unfold blk; rw [hx]; rfl] at hl
  unfold pv at hl
  obtain ⟨d0, d1, d2, d3, d4, d5⟩ := fs_at h hx
  have hn0 : ¬ x.names = 0 := by omega
  have hnb : (x.names == 0) = false := by simp [hn0]
  clear h hx
  by_cases hk1 : k = 1
  · subst hk1
    go_enter Tryz.func210, Tryz.ntmps210
    go_wp2_with fail
    go_end0
    exact ⟨rfl, rfl⟩
  · have hkb : (k == 1) = false := by simp [hk1]
    go_enter Tryz.func210, Tryz.ntmps210
    go_wp2_with fail
    go_end0
    exact ⟨rfl, rfl⟩
set_option maxRecDepth 100000 in
set_option maxHeartbeats 8000000 in
/-- Drop at a node that has names. -/
theorem Drop_calls (fb mb : Nat) (F : Fs) (k : Int) (x : Nd) (hk : I64 k) (hs : FsOk F) (hx : find F.L k = some x) (hn : 1 ≤ x.names) (w : World) (R : Hp) (h : Sat w (fsHp fb mb F * R)) :
    Calls Tryz.prog 209 #[pp fb, .int .i64 k] w fun e w' => (e = .returned (.int .i64 (dropE F k)) ∧ Sat w' (fsHp fb mb (dropP F k) * R)) ∧ Ran w w' := by
  have HS := Stat_calls fb mb F k hk (hs.small k) w R h
  unfold statE statV at HS
  unfold dropE dropP
  rw [hx] at HS
  rw [hx]
  have HS := Lib.hid HS
  have H0 := Lib.hid h
  have hh := (hs k x hx).holds
  obtain ⟨hh1, hh2⟩ := hh
  have Hx := Lib.hid hx
  dsimp only
  by_cases h0 : x.holds = 0
  · rw [if_pos h0, if_pos h0]
    have h0b : (x.holds == 0) = true := by simp [h0]
    clear h hs hx
    go_enter Tryz.func209, Tryz.ntmps209
    go_wp2_with fail
    refine HS.out.mono ?_
    rintro e w1 ⟨rfl, hB⟩
    have S1 := (H0.out.below hB).alloc (infoO x.kind (sizeN x) x.names x.holds)
    have R1 := Lib.hid (Ran.new (below_ran hB) (infoO x.kind (sizeN x) x.names x.holds))
    obtain ⟨r0, r1, r2, r3⟩ := info_cells S1
    rw [h0] at r3 S1 r0 r1 r2
    have S1 := Lib.hid S1.right
    rw [h0] at R1 ⊢
    clear hB HS h0 h0b
    go_wp2_with fail
    go_ret
    exact ⟨⟨rfl, S1.out⟩, R1.out⟩
  · rw [if_neg h0, if_neg h0]
    have h0b : (x.holds == 0) = false := by simp [h0]
    clear h hs hx
    go_enter Tryz.func209, Tryz.ntmps209
    go_wp2_with fail
    refine HS.out.mono ?_
    rintro e w1 ⟨rfl, hB⟩
    have S0 := (H0.out.below hB).alloc (infoO x.kind (sizeN x) x.names x.holds)
    have R1 := Lib.hid (Ran.new (below_ran hB) (infoO x.kind (sizeN x) x.names x.holds))
    obtain ⟨r0, r1, r2, r3⟩ := info_cells S0
    have S1 := S0.right
    obtain ⟨c0, c1, c2, c3⟩ := fs_cells S1
    have hl := fs_look S1 k hk
    rw [show blk F.L k = some x.b by unfold blk; rw [Hx.out]; rfl] at hl
    unfold pv at hl
    obtain ⟨X, S2, back⟩ := fs_node S1 Hx.out
    obtain ⟨d0, d1, d2, d3, d4, d5⟩ := nd_cells S2
    have f0 : ∀ i, (w1.alloc (infoO x.kind (sizeN x) x.names x.holds)).frozen? ⟨x.b, i, none⟩ = false := fun i => free_at S2.get i
    have S3 := back _ { x with holds := x.holds - 1 } (F.put k { x with holds := x.holds - 1 }) R rfl rfl rfl (S2.set (i := 5) (.int .i64 (x.holds - 1)))
    have HW := Lib.hid (sweep_calls fb mb (F.put k { x with holds := x.holds - 1 }) k { x with holds := x.holds - 1 } hk (by show find (upd F.L k _) k = _; rw [find_upd F.L k k _ (by rw [Hx.out]; rfl), if_pos rfl]) hn _ R S3)
    have S3 := Lib.hid S3
    clear hB HS S1 S2 back S0
    go_wp2_with fail
    refine HW.out.mono ?_
    rintro e w2 ⟨rfl, rfl⟩
    go_wp2_with fail
    go_ret
    exact ⟨⟨rfl, S3.out⟩, R1.out.set _ _⟩
end Go.Proofs.YtljlpkeddbfpaaaGreatDoor.Hd
