/- Cut of a tree walked, where it cuts. -/
import Derived.Test.YtljlpkeddbfpaaaGreatDoorHdF
namespace Go.Proofs.YtljlpkeddbfpaaaGreatDoor.Hd
open Go.RowKit Go.Maps Go.Proofs.YtljlpkeddbfpaaaGreatDoor Go.Proofs.YtljlpkeddbfpaaaGreatDoor.Hp
set_option linter.unusedVariables false
attribute [local go_sem] Oper.semAt_some

def cutP (F : Fs) (k : Int) (x : Nd) (n : Nat) : Fs := { F.put k { x with text := x.text.extract 0 n } with used := F.used - ((x.text.size : Int) - (n : Int)) }
set_option maxRecDepth 100000 in
set_option maxHeartbeats 4000000 in
theorem Cut_calls (fb mb : Nat) (F : Fs) (k : Int) (n : Nat) (x : Nd) (hk : I64 k) (hs : FsOk F) (hx : find F.L k = some x) (h2 : x.kind = 2) (hn : n ≤ x.text.size) (hu : 0 ≤ F.used ∧ F.used ≤ 1000000000) (w : World) (R : Hp) (h : Sat w (fsHp fb mb F * R)) :
    Calls Tryz.prog 13 #[pp fb, .int .i64 k, .int .i64 n] w fun e w' => (e = .returned (.int .i64 0) ∧ Sat w' (fsHp fb mb (cutP F k x n) * R)) ∧ Ran w w' := by
  have HT := text_calls fb mb F k hk w R h
  have hd1 : x.kind ≠ 1 := by omega
  rw [(textE_ok hx hd1).1, (textE_ok hx hd1).2] at HT
  unfold pv at HT
  have HT := Lib.hid HT
  have h1 := (hs k x hx).text
  obtain ⟨c0, c1, c2, c3⟩ := fs_cells h
  have hxx := fs_at h hx
  rw [h2] at hxx
  obtain ⟨d0, d1, -⟩ := hxx
  have Sf := h.perm (show _ = pts fb (fsO F mb) * (pmap mb (blk F.L) F.L.length F.n * nds F.L * R) by unfold fsHp; ac_rfl)
  have f0 : ∀ i, w.frozen? ⟨fb, i, none⟩ = false := fun i => free_at Sf.get i
  have S1 := (used_back (u := F.used - ((x.text.size : Int) - (n : Int))) h).drew
  obtain ⟨X, S2, back⟩ := fs_node S1 hx
  obtain ⟨-, g1, -⟩ := nd_cells S2
  have f1 : ∀ i, w.frozen? ⟨x.b, i, none⟩ = false := fun i => by
    obtain ⟨X2, S2b, -⟩ := fs_node h hx
    exact free_at S2b.get i
  have S3 := Lib.hid (back _ { x with text := x.text.extract 0 n } (cutP F k x n) R rfl rfl rfl (S2.set (i := 1) (.string (x.text.extract 0 n))))
  have hnI : (n : Int) ≤ (x.text.size : Int) := by omega
  have hn0 : (0 : Int) ≤ (n : Int) := by omega
  have h1I : (x.text.size : Int) ≤ 1000000 := by omega
  obtain ⟨u0, u1⟩ := hu
  clear h hx hs h2 hd1 Sf S1 S2 back
  go_enter Tryz.func13, Tryz.ntmps13
  go_wp2_with fail
  refine HT.out.mono ?_
  rintro e w1 ⟨rfl, rfl⟩
  go_upto_region 6 with fail
  go_still_tail 14, (by kernel_rfl)
  go_wp2_with fail
  go_ret
  exact ⟨⟨rfl, S3.out⟩, Ran.set (Ran.drewN (Ran.set (Below.refl 0 w) _ _) 1) _ _⟩
end Go.Proofs.YtljlpkeddbfpaaaGreatDoor.Hd
