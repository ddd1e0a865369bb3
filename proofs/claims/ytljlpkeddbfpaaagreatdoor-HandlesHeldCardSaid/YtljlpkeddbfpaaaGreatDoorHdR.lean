/- nodes.New, handles.New walked. -/
import Derived.Test.YtljlpkeddbfpaaaGreatDoorHdQ
namespace Go.Proofs.YtljlpkeddbfpaaaGreatDoor.Hd
open Go.RowKit Go.Maps Go.Proofs.YtljlpkeddbfpaaaGreatDoor Go.Proofs.YtljlpkeddbfpaaaGreatDoor.Hp
set_option linter.unusedVariables false
attribute [local go_sem] Oper.semAt_some

/-- The root, when it is new. -/
def rootN (b kb : Nat) : Nd := ⟨b, 1, ⟨#[]⟩, some ⟨kb, fun _ => none, 0, 0⟩, 1, 0, 0⟩
def newF (most room : Int) (b kb : Nat) : Fs := ⟨most, room, 0, [((1 : Int), rootN b kb)], 1⟩
set_option maxRecDepth 100000 in
set_option maxHeartbeats 8000000 in
theorem New_calls (most room : Int) (h1 : 1 ≤ most) (h2 : most ≤ 1024) (h3 : 0 ≤ room) (h4 : room ≤ 1048576) (w : World) (R : Hp) (h : Sat w R) :
    Calls Tryz.prog 29 #[.int .i64 most, .int .i64 room] w fun e w' => (∃ fb mb b kb, e = .returned (.tuple #[pp fb, .int .i64 0]) ∧ Sat w' (fsHp fb mb (newF most room b kb) * R)) ∧ Ran w w' := by
  have hmk1 : ∀ W : World, (Instr.makeMap 101 none).run Tryz.prog W = .ok (.map (some W.heap.size)) (W.alloc (.map #[] 0)) := fun W => rfl
  have hmk2 : ∀ W : World, (Instr.makeMap 98 none).run Tryz.prog W = .ok (.map (some W.heap.size)) (W.alloc (.map #[] 0)) := fun W => rfl
  have S1 := pmap_made h
  have S2 := K.smap_made S1
  rw [World.size_alloc] at S2
  have S3 := S2.alloc (ndO (rootN (w.heap.size + 1 + 1) (w.heap.size + 1)))
  rw [World.size_alloc, World.size_alloc] at S3
  have S4 := S3.perm (show _ = pmap w.heap.size (fun _ => none) 0 0 * (pts (w.heap.size + 1 + 1) (ndO (rootN (w.heap.size + 1 + 1) (w.heap.size + 1))) * (K.smap (w.heap.size + 1) (fun _ => none) 0 0 * R)) by ac_rfl)
  obtain ⟨w3, hrun, S5, R5⟩ := pmap_put Tryz.underlying101 S4 (by unfold maxLen; omega) 1 (by unfold I64; omega) rfl (w.heap.size + 1 + 1)
  have S6 := Lib.hid ((S5.alloc (fsO (newF most room (w.heap.size + 1 + 1) (w.heap.size + 1)) w.heap.size)).perm (show _ = fsHp w3.heap.size w.heap.size (newF most room (w.heap.size + 1 + 1) (w.heap.size + 1)) * R by
    unfold fsHp
    rw [show blk (newF most room (w.heap.size + 1 + 1) (w.heap.size + 1)).L = putP (fun _ => none) 1 (w.heap.size + 1 + 1) by
      unfold newF; dsimp only; rw [blk_cons]; rfl]
    show _ = pts w3.heap.size (fsO (newF most room (w.heap.size + 1 + 1) (w.heap.size + 1)) w.heap.size) * (pmap w.heap.size (putP (fun _ => none) 1 (w.heap.size + 1 + 1)) (0 + 1) (0 + 1) * ((pts (w.heap.size + 1 + 1) (ndO (rootN (w.heap.size + 1 + 1) (w.heap.size + 1))) * K.smap (w.heap.size + 1) (fun _ => none) 0 0) * emp)) * R
    rw [sep_emp]
    ac_rfl))
  have R6 := Lib.hid (Ran.new (Below.trans (Ran.new (Ran.new (Ran.new (Below.refl 0 w) (.map #[] 0)) (.map #[] 0)) (ndO (rootN (w.heap.size + 1 + 1) (w.heap.size + 1)))) R5) (fsO (newF most room (w.heap.size + 1 + 1) (w.heap.size + 1)) w.heap.size))
  unfold ndO rootN kv at hrun
  dsimp only at hrun
  clear h S1 S2 S3 S4 S5 R5
  go_enter Tryz.func29, Tryz.ntmps29
  go_wp2_with fail
  go_ret2
  exact ⟨⟨w3.heap.size, w.heap.size, w.heap.size + 1 + 1, w.heap.size + 1, rfl, S6.out⟩, R6.out⟩
set_option maxRecDepth 100000 in
set_option maxHeartbeats 4000000 in
theorem HNew_calls (fb pb : Nat) (w : World) (R : Hp) (h : Sat w R) :
    Calls Tryz.prog 30 #[pp fb, pp pb] w fun e w' => (∃ tb hm, e = .returned (.tuple #[pp tb, .int .i64 0]) ∧ Sat w' (tabHp tb fb pb hm [] 0 * R)) ∧ Ran w w' := by
  have hmk1 : ∀ W : World, (Instr.makeMap 79 none).run Tryz.prog W = .ok (.map (some W.heap.size)) (W.alloc (.map #[] 0)) := fun W => rfl
  have S1 := pmap_made h
  have S2 := S1.alloc (tbO fb pb w.heap.size)
  rw [World.size_alloc] at S2
  have S3 := Lib.hid (S2.perm (show _ = tabHp (w.heap.size + 1) fb pb w.heap.size [] 0 * R by
    unfold tabHp
    show _ = pts (w.heap.size + 1) (tbO fb pb w.heap.size) * (pmap w.heap.size (fun _ => none) 0 0 * emp) * R
    rw [sep_emp]
    ac_rfl))
  have R3 := Lib.hid (Ran.new (Ran.new (Below.refl 0 w) (.map #[] 0)) (tbO fb pb w.heap.size))
  clear h S1 S2
  go_enter Tryz.func30, Tryz.ntmps30
  go_wp2_with fail
  go_ret2
  exact ⟨⟨w.heap.size + 1, w.heap.size, rfl, S3.out⟩, R3.out⟩
end Go.Proofs.YtljlpkeddbfpaaaGreatDoor.Hd
