/- A map of a log: note walked. -/
import Derived.Test.YtibgpkcklneloaaUnG
namespace Go.Proofs.Ytibgpkcklneloaa.Undo
open Go.RowKit Go.Proofs.Ytibgpkcklneloaa Go.Proofs.Ytibgpkcklneloaa.Hp
set_option linter.unusedVariables false
attribute [local go_sem] Oper.semAt_some

section
variable {w : World} {A B C D E F G H I J R : Hp}
theorem pull1 (h : Sat w (A * (B * R))) : Sat w (B * (A * R)) := h.perm (by ac_rfl)
theorem pull2 (h : Sat w (A * (B * (C * R)))) : Sat w (C * (A * (B * R))) := h.perm (by ac_rfl)
theorem pull3 (h : Sat w (A * (B * (C * (D * R))))) : Sat w (D * (A * (B * (C * R)))) := h.perm (by ac_rfl)
theorem pull4 (h : Sat w (A * (B * (C * (D * (E * R)))))) : Sat w (E * (A * (B * (C * (D * R))))) := h.perm (by ac_rfl)
theorem pull5 (h : Sat w (A * (B * (C * (D * (E * (F * R))))))) : Sat w (F * (A * (B * (C * (D * (E * R)))))) := h.perm (by ac_rfl)
theorem pull6 (h : Sat w (A * (B * (C * (D * (E * (F * (G * R)))))))) : Sat w (G * (A * (B * (C * (D * (E * (F * R))))))) := h.perm (by ac_rfl)
theorem pull7 (h : Sat w (A * (B * (C * (D * (E * (F * (G * (H * R))))))))) : Sat w (H * (A * (B * (C * (D * (E * (F * (G * R)))))))) := h.perm (by ac_rfl)
theorem pull8 (h : Sat w (A * (B * (C * (D * (E * (F * (G * (H * (I * R)))))))))) : Sat w (I * (A * (B * (C * (D * (E * (F * (G * (H * R))))))))) := h.perm (by ac_rfl)
end
/-- What the map's note lays: a note with its cells, or none. -/
def NoteSays (lb mb : Nat) (most nest : Int) (fs : List Value) (ms : List Nat) (k : ByteArray) (B : Nat) (M : ByteArray → Option Int) (R : Hp) (e : Ending) (w' : World) : Prop :=
  ∃ isb wasb mbx kbx, e = .returned (.int .i64 (nE most fs ms)) ∧ LogAt w' lb most nest (nF most fs ms (.func (.func 54) #[] (noteC isb wasb mbx kbx))) ms (noteB isb wasb mbx kbx mb k (M k) * (MapAt mb (some ⟨lb, 0, none⟩) B M * R))
set_option maxRecDepth 100000 in
set_option maxHeartbeats 4000000 in
theorem mnote_calls (lb mb : Nat) (most nest : Int) (fs : List Value) (ms : List Nat) (k : ByteArray) (B : Nat) (M : ByteArray → Option Int) (w : World) (R : Hp) (hk : k.size ≤ maxLen) (hb : fs.length ≤ 1000000000) (hms : ms.length ≤ 1000000)
    (h : LogAt w lb most nest fs ms (MapAt mb (some ⟨lb, 0, none⟩) B M * R)) :
    Calls Try.prog 43 #[.pointer (some ⟨mb, 0, none⟩), .string k] w fun e w' => NoteSays lb mb most nest fs ms k B M R e w' ∧ Ran w w' := by
  obtain ⟨np, nc, qp, qc, HL⟩ := h
  obtain ⟨mp, n, hn, hM, HS⟩ := mapAt_out (HL.perm (show _ = MapAt mb (some ⟨lb, 0, none⟩) B M * (pts lb (logO most nest np fs.length nc qp ms.length qc) * (notes np fs.length nc fs * (marksA qp qc ms * R))) by ac_rfl))
  have HA := (HS.alloc (mO mb)).alloc (kO k)
  have hsz1 : (w.alloc (mO mb)).heap.size = w.heap.size + 1 := World.size_alloc _ _
  rw [hsz1] at HA
  have HD := HA.drew
  obtain ⟨w1, hw1⟩ : ∃ w1, w1 = ((w.alloc (mO mb)).alloc (kO k)).drew := ⟨_, rfl⟩
  rw [← hw1] at HD
  have R1 : Ran w w1 := by rw [hw1]; exact Below.drew (Ran.new (Ran.new (Below.refl 0 w) _) _) 
  have hb1 : ∀ W, Below w1.heap.size w1 W → (Instr.lookup 85 (.map (some mp)) (.string k) true).run Try.prog W = .ok (.tuple #[.int .i64 ((M k).getD 0), .bool (M k).isSome]) W ∧ W.cell? ⟨mb, 1, none⟩ = some (.map (some mp)) ∧ W.cell? ⟨w.heap.size, 0, none⟩ = some (.pointer (some ⟨mb, 0, none⟩)) ∧ W.cell? ⟨w.heap.size + 1, 0, none⟩ = some (.string k) := by
    intro W hW
    have h2 := HD.below hW
    refine ⟨run_look (pull3 h2) k hk, (map_cells (pull2 h2)).2, one_cell (pull1 h2), one_cell h2⟩
  have hlog : ∀ W, Sat W (pts mb (mapO (some ⟨lb, 0, none⟩) mp) * R) → True := fun _ _ => trivial
  have HB1 := Lib.hid hb1
  have HHD := Lib.hid HD
  have hbl : Hid (fs.length ≤ 1000000000 ∧ ms.length ≤ 1000000 ∧ n ≤ B ∧ WfM M) := Lib.hid ⟨hb, hms, hn, hM⟩
  have hls : w.heap.size + 2 = w1.heap.size := by rw [hw1]; show _ = ((w.alloc (mO mb)).alloc (kO k)).heap.size; rw [World.size_alloc, hsz1]
  obtain ⟨d0, d1, d2, d3⟩ := hb1 w1 (Below.refl _ _)
  clear HA HD hb1 HS HL hb hms hn hM hlog
  go_enter Try.func43, Try.ntmps43
  go_wp2_with fail
  refine Go.Proofs.Ytibgpkcklneloaa.region_tree (S := (fun w' => (Instr.lookup 85 (.map (some mp)) (.string k) true).run Try.prog w' = .ok (.tuple #[.int .i64 ((M k).getD 0), .bool (M k).isSome]) w' ∧ w'.cell? ⟨mb, 1, none⟩ = some (.map (some mp)) ∧ w'.cell? ⟨w.heap.size, 0, none⟩ = some (.pointer (some ⟨mb, 0, none⟩)) ∧ w'.cell? ⟨w.heap.size + 1, 0, none⟩ = some (.string k))) (.take 0 (.take 1 (.take 2 (.take 3 (.take 4 (.take 5 (.take 6 (.take 7 (.take 8 (.fork 9 (.step 10 (.step 11 (.step 12 (.nil)))) 10 (.step 9 (.step 11 (.step 12 (.nil)))))))))))))) (by kernel_rfl) (by kernel_rfl) (by kernel_rfl) ?_ ?_
  · ((try dsimp only); (first | done | ((try rw [← hw1]); refine HB1.out _ ?_; (first | exact Below.refl _ _ | exact Below.alloc (Below.refl _ _) (Nat.le_refl _) _ | exact Below.alloc (Below.alloc (Below.refl _ _) (Nat.le_refl _) _) (by rw [World.size_alloc]; exact Nat.le_succ _) _))))
  simp only [Go.Proofs.Ytibgpkcklneloaa.Plan.ops, List.getElem?_toArray, List.getElem?_cons_zero, List.getElem?_cons_succ]
  rw [← hw1]; clear hw1 hls hsz1 d0 d1 d2 d3
  ((first | ((refine Go.Proofs.Ytibgpkcklneloaa.tree_yes (v := ?_) (by rfl) ?_ ?_); rotate_left; (focus (intro w hSw; (try dsimp only at hSw); go_simp; try (with_reducible rfl)))) | (refine Go.Proofs.Ytibgpkcklneloaa.tree_no (by rfl) ?_)); (try simp only [Act.put, List.setIfInBounds_toArray, List.set_cons_zero, List.set_cons_succ]))
  ((first | ((refine Go.Proofs.Ytibgpkcklneloaa.tree_yes (v := ?_) (by rfl) ?_ ?_); rotate_left; (focus (intro w hSw; (try dsimp only at hSw); go_simp; try (with_reducible rfl)))) | (refine Go.Proofs.Ytibgpkcklneloaa.tree_no (by rfl) ?_)); (try simp only [Act.put, List.setIfInBounds_toArray, List.set_cons_zero, List.set_cons_succ]))
  ((first | ((refine Go.Proofs.Ytibgpkcklneloaa.tree_yes (v := ?_) (by rfl) ?_ ?_); rotate_left; (focus (intro w hSw; (try dsimp only at hSw); go_simp; try (with_reducible rfl)))) | (refine Go.Proofs.Ytibgpkcklneloaa.tree_no (by rfl) ?_)); (try simp only [Act.put, List.setIfInBounds_toArray, List.set_cons_zero, List.set_cons_succ]))
  ((first | ((refine Go.Proofs.Ytibgpkcklneloaa.tree_yes (v := ?_) (by rfl) ?_ ?_); rotate_left; (focus (intro w hSw; (try dsimp only at hSw); go_simp; try (with_reducible rfl)))) | (refine Go.Proofs.Ytibgpkcklneloaa.tree_no (by rfl) ?_)); (try simp only [Act.put, List.setIfInBounds_toArray, List.set_cons_zero, List.set_cons_succ]))
  ((first | ((refine Go.Proofs.Ytibgpkcklneloaa.tree_yes (v := ?_) (by rfl) ?_ ?_); rotate_left; (focus (intro w hSw; (try dsimp only at hSw); go_simp; try (with_reducible rfl)))) | (refine Go.Proofs.Ytibgpkcklneloaa.tree_no (by rfl) ?_)); (try simp only [Act.put, List.setIfInBounds_toArray, List.set_cons_zero, List.set_cons_succ]))
  ((first | ((refine Go.Proofs.Ytibgpkcklneloaa.tree_yes (v := ?_) (by rfl) ?_ ?_); rotate_left; (focus (intro w hSw; (try dsimp only at hSw); go_simp; try (with_reducible rfl)))) | (refine Go.Proofs.Ytibgpkcklneloaa.tree_no (by rfl) ?_)); (try simp only [Act.put, List.setIfInBounds_toArray, List.set_cons_zero, List.set_cons_succ]))
  ((first | ((refine Go.Proofs.Ytibgpkcklneloaa.tree_yes (v := ?_) (by rfl) ?_ ?_); rotate_left; (focus (intro w hSw; (try dsimp only at hSw); go_simp; try (with_reducible rfl)))) | (refine Go.Proofs.Ytibgpkcklneloaa.tree_no (by rfl) ?_)); (try simp only [Act.put, List.setIfInBounds_toArray, List.set_cons_zero, List.set_cons_succ]))
  ((first | ((refine Go.Proofs.Ytibgpkcklneloaa.tree_yes (v := ?_) (by rfl) ?_ ?_); rotate_left; (focus (intro w hSw; (try dsimp only at hSw); go_simp; try (with_reducible rfl)))) | (refine Go.Proofs.Ytibgpkcklneloaa.tree_no (by rfl) ?_)); (try simp only [Act.put, List.setIfInBounds_toArray, List.set_cons_zero, List.set_cons_succ]))
  ((first | ((refine Go.Proofs.Ytibgpkcklneloaa.tree_yes (v := ?_) (by rfl) ?_ ?_); rotate_left; (focus (intro w hSw; (try dsimp only at hSw); go_simp; try (with_reducible rfl)))) | (refine Go.Proofs.Ytibgpkcklneloaa.tree_no (by rfl) ?_)); (try simp only [Act.put, List.setIfInBounds_toArray, List.set_cons_zero, List.set_cons_succ]))
  refine Go.Proofs.Ytibgpkcklneloaa.tree_fork (fun K hK => ?_) (fun K hK => ?_)
  focus
    ((first | (fail) | (go_simp; (fail); (try go_wp2_with fail)) | go_simp); (refine hK.out _ _ ?_ (fun hHeld => ?_)); (focus ((try dsimp only); (first | done | ((try rw [← hw1]); refine HB1.out _ ?_; (first | exact Below.refl _ _ | exact Below.alloc (Below.refl _ _) (Nat.le_refl _) _ | exact Below.alloc (Below.alloc (Below.refl _ _) (Nat.le_refl _) _) (by rw [World.size_alloc]; exact Nat.le_succ _) _))))); clear hK K; (try simp only [Act.put, List.setIfInBounds_toArray, List.set_cons_zero, List.set_cons_succ]))
    ((refine Go.Proofs.Ytibgpkcklneloaa.tree_step (fun K hK => ?_)); (first | (fail) | (go_simp; (fail); (try go_wp2_with fail)) | go_simp); (refine hK.out _ _ ?_ (fun hHeld => ?_)); (focus ((try dsimp only); (first | done | ((try rw [← hw1]); refine HB1.out _ ?_; (first | exact Below.refl _ _ | exact Below.alloc (Below.refl _ _) (Nat.le_refl _) _ | exact Below.alloc (Below.alloc (Below.refl _ _) (Nat.le_refl _) _) (by rw [World.size_alloc]; exact Nat.le_succ _) _))))); clear hK K; (try simp only [Act.put, List.setIfInBounds_toArray, List.set_cons_zero, List.set_cons_succ]))
    ((refine Go.Proofs.Ytibgpkcklneloaa.tree_step (fun K hK => ?_)); (first | (fail) | (go_simp; (fail); (try go_wp2_with fail)) | go_simp); (refine hK.out _ _ ?_ (fun hHeld => ?_)); (focus ((try dsimp only); (first | done | ((try rw [← hw1]); refine HB1.out _ ?_; (first | exact Below.refl _ _ | exact Below.alloc (Below.refl _ _) (Nat.le_refl _) _ | exact Below.alloc (Below.alloc (Below.refl _ _) (Nat.le_refl _) _) (by rw [World.size_alloc]; exact Nat.le_succ _) _))))); clear hK K; (try simp only [Act.put, List.setIfInBounds_toArray, List.set_cons_zero, List.set_cons_succ]))
    ((refine Go.Proofs.Ytibgpkcklneloaa.tree_step (fun K hK => ?_)); (first | (fail) | (go_simp; (fail); (try go_wp2_with fail)) | go_simp); (refine hK.out _ _ ?_ (fun hHeld => ?_)); (focus ((try dsimp only); (first | done | ((try rw [← hw1]); refine HB1.out _ ?_; (first | exact Below.refl _ _ | exact Below.alloc (Below.refl _ _) (Nat.le_refl _) _ | exact Below.alloc (Below.alloc (Below.refl _ _) (Nat.le_refl _) _) (by rw [World.size_alloc]; exact Nat.le_succ _) _))))); clear hK K; (try simp only [Act.put, List.setIfInBounds_toArray, List.set_cons_zero, List.set_cons_succ]))
    refine Go.Proofs.Ytibgpkcklneloaa.tree_done ?_
  rotate_left 1
  focus
    ((first | (fail) | (go_simp; (fail); (try go_wp2_with fail)) | go_simp); (refine hK.out _ _ ?_ (fun hHeld => ?_)); (focus ((try dsimp only); (first | done | ((try rw [← hw1]); refine HB1.out _ ?_; (first | exact Below.refl _ _ | exact Below.alloc (Below.refl _ _) (Nat.le_refl _) _ | exact Below.alloc (Below.alloc (Below.refl _ _) (Nat.le_refl _) _) (by rw [World.size_alloc]; exact Nat.le_succ _) _))))); clear hK K; (try simp only [Act.put, List.setIfInBounds_toArray, List.set_cons_zero, List.set_cons_succ]))
    ((refine Go.Proofs.Ytibgpkcklneloaa.tree_step (fun K hK => ?_)); (first | (fail) | (go_simp; (fail); (try go_wp2_with fail)) | go_simp); (refine hK.out _ _ ?_ (fun hHeld => ?_)); (focus ((try dsimp only); (first | done | ((try rw [← hw1]); refine HB1.out _ ?_; (first | exact Below.refl _ _ | exact Below.alloc (Below.refl _ _) (Nat.le_refl _) _ | exact Below.alloc (Below.alloc (Below.refl _ _) (Nat.le_refl _) _) (by rw [World.size_alloc]; exact Nat.le_succ _) _))))); clear hK K; (try simp only [Act.put, List.setIfInBounds_toArray, List.set_cons_zero, List.set_cons_succ]))
    ((refine Go.Proofs.Ytibgpkcklneloaa.tree_step (fun K hK => ?_)); (first | (fail) | (go_simp; (fail); (try go_wp2_with fail)) | go_simp); (refine hK.out _ _ ?_ (fun hHeld => ?_)); (focus ((try dsimp only); (first | done | ((try rw [← hw1]); refine HB1.out _ ?_; (first | exact Below.refl _ _ | exact Below.alloc (Below.refl _ _) (Nat.le_refl _) _ | exact Below.alloc (Below.alloc (Below.refl _ _) (Nat.le_refl _) _) (by rw [World.size_alloc]; exact Nat.le_succ _) _))))); clear hK K; (try simp only [Act.put, List.setIfInBounds_toArray, List.set_cons_zero, List.set_cons_succ]))
    ((refine Go.Proofs.Ytibgpkcklneloaa.tree_step (fun K hK => ?_)); (first | (fail) | (go_simp; (fail); (try go_wp2_with fail)) | go_simp); (refine hK.out _ _ ?_ (fun hHeld => ?_)); (focus ((try dsimp only); (first | done | ((try rw [← hw1]); refine HB1.out _ ?_; (first | exact Below.refl _ _ | exact Below.alloc (Below.refl _ _) (Nat.le_refl _) _ | exact Below.alloc (Below.alloc (Below.refl _ _) (Nat.le_refl _) _) (by rw [World.size_alloc]; exact Nat.le_succ _) _))))); clear hK K; (try simp only [Act.put, List.setIfInBounds_toArray, List.set_cons_zero, List.set_cons_succ]))
    refine Go.Proofs.Ytibgpkcklneloaa.tree_done ?_
  all_goals
    (first
      | (have HS2 := (HHD.out.alloc (wasO (M k))).alloc (isO (M k)); rw [World.size_alloc] at HS2
         obtain ⟨w2, hw2⟩ : ∃ w2, w2 = (w1.alloc (wasO (M k))).alloc (isO (M k)) := ⟨_, rfl⟩
         rw [← hw2] at HS2; rw [← hw2]
         have HS3 := HS2
         have R2 : Ran w w2 := by rw [hw2]; exact Ran.new (Ran.new R1 _) _
         obtain ⟨isb, hisb⟩ : ∃ b, b = w1.heap.size + 1 := ⟨_, rfl⟩
         obtain ⟨wasb, hwasb⟩ : ∃ b, b = w1.heap.size := ⟨_, rfl⟩
         rw [← hisb, ← hwasb] at HS3; rw [← hisb, ← hwasb])
      | (have HS2 := (HHD.out.alloc (isO (M k))).alloc (wasO (M k)); rw [World.size_alloc] at HS2
         obtain ⟨w2, hw2⟩ : ∃ w2, w2 = (w1.alloc (isO (M k))).alloc (wasO (M k)) := ⟨_, rfl⟩
         rw [← hw2] at HS2; rw [← hw2]
         have HS3 := pull1 HS2
         have R2 : Ran w w2 := by rw [hw2]; exact Ran.new (Ran.new R1 _) _
         obtain ⟨wasb, hwasb⟩ : ∃ b, b = w1.heap.size + 1 := ⟨_, rfl⟩
         obtain ⟨isb, hisb⟩ : ∃ b, b = w1.heap.size := ⟨_, rfl⟩
         rw [← hwasb, ← hisb] at HS3; rw [← hwasb, ← hisb]))
    clear hisb hwasb hw2 HS2
    have HN : LogAt w2 lb most nest fs ms (noteB isb wasb w.heap.size (w.heap.size + 1) mb k (M k) * (MapAt mb (some ⟨lb, 0, none⟩) B M * R)) := by
      refine ⟨np, nc, qp, qc, ?_⟩
      have h5 := mapAt_in (pull4 (HS3.perm (show _ = pts isb (isO (M k)) * (pts wasb (wasO (M k)) * (pts w.heap.size (mO mb) * (pts (w.heap.size + 1) (kO k) * (pts mb (mapO (some ⟨lb, 0, none⟩) mp) * (mapHp mp n M * (pts lb (logO most nest np fs.length nc qp ms.length qc) * (notes np fs.length nc fs * (marksA qp qc ms * R)))))))) by ac_rfl) |>.perm (show _ = pts isb (isO (M k)) * (pts wasb (wasO (M k)) * (pts w.heap.size (mO mb) * (pts (w.heap.size + 1) (kO k) * (pts mb (mapO (some ⟨lb, 0, none⟩) mp) * (mapHp mp n M * (pts lb (logO most nest np fs.length nc qp ms.length qc) * (notes np fs.length nc fs * (marksA qp qc ms * R)))))))) from rfl)) |>.perm (show _ = pts mb (mapO (some ⟨lb, 0, none⟩) mp) * (mapHp mp n M * (pts isb (isO (M k)) * (pts wasb (wasO (M k)) * (pts w.heap.size (mO mb) * (pts (w.heap.size + 1) (kO k) * (pts lb (logO most nest np fs.length nc qp ms.length qc) * (notes np fs.length nc fs * (marksA qp qc ms * R)))))))) by ac_rfl)) hbl.out.2.2.1 hbl.out.2.2.2
      unfold noteB
      exact h5.perm (by ac_rfl)
    obtain ⟨x0, x1⟩ := map_cells (pull4 HS3)
    have x2 := one_cell (pull3 HS3)
    have hcall := note_any lb most nest fs ms 54 (noteC isb wasb w.heap.size (w.heap.size + 1)) w2 _ HN hbl.out.1 hbl.out.2.1
    have Hcall := Lib.hid hcall
    clear hcall HN HS3 HB1 HHD hbl
    go_wp2_with fail
    refine Hcall.out.mono ?_
    rintro e w3 ⟨rfl, hL, hr⟩
    go_wp2_with fail
    go_ret
    exact ⟨⟨isb, wasb, _, _, rfl, hL⟩, Below.trans R2 hr⟩
end Go.Proofs.Ytibgpkcklneloaa.Undo
