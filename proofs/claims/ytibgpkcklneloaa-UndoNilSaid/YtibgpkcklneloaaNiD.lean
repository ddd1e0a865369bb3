/- Nil logs, maps and cells; what a map notes in no log, and in a log without marks. -/
import Derived.Test.YtibgpkcklneloaaNiC
namespace Go.Proofs.Ytibgpkcklneloaa.Undo
open Go.RowKit Go.ChangeMaps Go.Proofs.Ytibgpkcklneloaa Go.Proofs.Ytibgpkcklneloaa.Hp
set_option linter.unusedVariables false
attribute [local go_sem] Oper.semAt_some

set_option maxRecDepth 100000 in
theorem nmark_calls  (w : World) : Calls Try.prog 10 #[.pointer none] w fun e w' => e = .returned (.tuple #[.int .i64 0, .int .i64 2]) ∧ w = w' := by
  go_enter Try.func10, Try.ntmps10
  go_wp2_with fail
  go_ret2
  exact ⟨rfl, rfl⟩
set_option maxRecDepth 100000 in
theorem nundo_calls  (w : World) : Calls Try.prog 13 #[.pointer none] w fun e w' => e = .returned (.int .i64 2) ∧ w = w' := by
  go_enter Try.func13, Try.ntmps13
  go_wp2_with fail
  go_ret
  exact ⟨rfl, rfl⟩
set_option maxRecDepth 100000 in
theorem nnote_calls (fn : Nat) (cs : Array Value) (w : World) : Calls Try.prog 11 #[.pointer none, .func (.func fn) #[] cs] w fun e w' => e = .returned (.int .i64 2) ∧ w = w' := by
  go_enter Try.func11, Try.ntmps11
  go_wp2_with fail
  go_ret
  exact ⟨rfl, rfl⟩
set_option maxRecDepth 100000 in
theorem nmarks_calls  (w : World) : Calls Try.prog 20 #[.pointer none] w fun e w' => e = .returned (.int .i64 0) ∧ w = w' := by
  go_enter Try.func20, Try.ntmps20
  go_wp2_with fail
  go_ret
  exact ⟨rfl, rfl⟩
set_option maxRecDepth 100000 in
theorem nlen_calls  (w : World) : Calls Try.prog 21 #[.pointer none] w fun e w' => e = .returned (.int .i64 0) ∧ w = w' := by
  go_enter Try.func21, Try.ntmps21
  go_wp2_with fail
  go_ret
  exact ⟨rfl, rfl⟩
set_option maxRecDepth 100000 in
theorem nget_calls (k : ByteArray) (w : World) : Calls Try.prog 22 #[.pointer none, .string k] w fun e w' => e = .returned (.tuple #[.int .i64 0, .bool false]) ∧ w = w' := by
  go_enter Try.func22, Try.ntmps22
  go_wp2_with fail
  go_ret2
  exact ⟨rfl, rfl⟩
set_option maxRecDepth 100000 in
theorem nset_calls (k : ByteArray) (v : Int) (w : World) : Calls Try.prog 28 #[.pointer none, .string k, .int .i64 v] w fun e w' => e = .returned (.int .i64 2) ∧ w = w' := by
  go_enter Try.func28, Try.ntmps28
  go_wp2_with fail
  go_ret
  exact ⟨rfl, rfl⟩
set_option maxRecDepth 100000 in
theorem ndel_calls (k : ByteArray) (w : World) : Calls Try.prog 29 #[.pointer none, .string k] w fun e w' => e = .returned (.int .i64 2) ∧ w = w' := by
  go_enter Try.func29, Try.ntmps29
  go_wp2_with fail
  go_ret
  exact ⟨rfl, rfl⟩
set_option maxRecDepth 100000 in
theorem nkeys_calls  (w : World) : Calls Try.prog 30 #[.pointer none] w fun e w' => e = .returned (.slice none 0 0) ∧ w = w' := by
  go_enter Try.func30, Try.ntmps30
  go_wp2_with fail
  go_ret
  exact ⟨rfl, rfl⟩
set_option maxRecDepth 100000 in
theorem ncset_calls (k : ByteArray) (w : World) : Calls Try.prog 31 #[.pointer none, .string k] w fun e w' => e = .returned (.int .i64 2) ∧ Below w.heap.size w w' := by
  go_enter Try.func31, Try.ntmps31
  go_wp2_with fail
  go_ret
  exact ⟨rfl, (Below.refl _ _).alloc (Nat.le_refl _) _⟩
set_option maxRecDepth 100000 in
theorem ncget_calls  (w : World) : Calls Try.prog 32 #[.pointer none] w fun e w' => e = .returned (.string { data := #[] }) ∧ w = w' := by
  go_enter Try.func32, Try.ntmps32
  go_wp2_with fail
  go_ret
  exact ⟨rfl, rfl⟩
set_option maxRecDepth 100000 in
set_option maxHeartbeats 4000000 in
theorem mnote0_calls (m : Nat) (k : ByteArray) (B : Nat) (M : ByteArray → Option Int) (w : World) (S : Hp) (hk : k.size ≤ maxLen) (h : Sat w (MapAt m none B M * S)) :
    Calls Try.prog 43 #[.pointer (some ⟨m, 0, none⟩), .string k] w fun e w' => e = .returned (.int .i64 2) ∧ Sat w' (MapAt m none B M * S) ∧ Ran w w' := by
  obtain ⟨mp, n, hn, hM, HS⟩ := mapAt_out h
  have HA := (HS.alloc (mO m)).alloc (kO k)
  have hsz1 : (w.alloc (mO m)).heap.size = w.heap.size + 1 := World.size_alloc _ _
  rw [hsz1] at HA
  have HD := HA.drew
  obtain ⟨w1, hw1⟩ : ∃ w1, w1 = ((w.alloc (mO m)).alloc (kO k)).drew := ⟨_, rfl⟩
  rw [← hw1] at HD
  have R1 : Ran w w1 := by rw [hw1]; exact Below.drew (Ran.new (Ran.new (Below.refl 0 w) _) _)
  have hb1 : ∀ W, Below w1.heap.size w1 W → (Instr.lookup 85 (.map (some mp)) (.string k) true).run Try.prog W = .ok (.tuple #[.int .i64 ((M k).getD 0), .bool (M k).isSome]) W ∧ W.cell? ⟨m, 1, none⟩ = some (.map (some mp)) ∧ W.cell? ⟨w.heap.size, 0, none⟩ = some (.pointer (some ⟨m, 0, none⟩)) ∧ W.cell? ⟨w.heap.size + 1, 0, none⟩ = some (.string k) := by
    intro W hW
    have h2 := HD.below hW
    have h3 := h2.right.right
    exact ⟨run_look (pull1 h3) k hk, (map_cells h3).2, one_cell (pull1 h2), one_cell h2⟩
  have HB1 := Lib.hid hb1
  have HHD := Lib.hid HD.right.right
  have HHB := Lib.hid HD
  obtain ⟨d0, d1, d2, d3⟩ := hb1 w1 (Below.refl _ _)
  clear HA HD hb1 HS
  go_enter Try.func43, Try.ntmps43
  go_wp2_with fail
  refine Go.Proofs.Ytibgpkcklneloaa.region_tree (S := (fun w' => (Instr.lookup 85 (.map (some mp)) (.string k) true).run Try.prog w' = .ok (.tuple #[.int .i64 ((M k).getD 0), .bool (M k).isSome]) w' ∧ w'.cell? ⟨m, 1, none⟩ = some (.map (some mp)) ∧ w'.cell? ⟨w.heap.size, 0, none⟩ = some (.pointer (some ⟨m, 0, none⟩)) ∧ w'.cell? ⟨w.heap.size + 1, 0, none⟩ = some (.string k))) (.take 0 (.take 1 (.take 2 (.take 3 (.take 4 (.take 5 (.take 6 (.take 7 (.take 8 (.fork 9 (.step 10 (.step 11 (.step 12 (.nil)))) 10 (.step 9 (.step 11 (.step 12 (.nil)))))))))))))) (by kernel_rfl) (by kernel_rfl) (by kernel_rfl) ?_ ?_
  · ((try dsimp only); (first | done | ((try rw [← hw1]); refine HB1.out _ ?_; (first | exact Below.refl _ _ | exact Below.alloc (Below.refl _ _) (Nat.le_refl _) _ | exact Below.alloc (Below.alloc (Below.refl _ _) (Nat.le_refl _) _) (by rw [World.size_alloc]; exact Nat.le_succ _) _))))
  simp only [Go.Proofs.Ytibgpkcklneloaa.Plan.ops, List.getElem?_toArray, List.getElem?_cons_zero, List.getElem?_cons_succ]
  rw [← hw1]; clear hw1 hsz1 d0 d1 d2 d3
  ((first | ((refine Go.Proofs.Ytibgpkcklneloaa.tree_yes (v := ?_) (by rfl) ?_ ?_); rotate_left; (focus (intro w hSw; (try dsimp only at hSw); go_simp; try (with_reducible rfl)))) | (refine Go.Proofs.Ytibgpkcklneloaa.tree_no (by rfl) ?_)); (try simp only [Act.put, List.setIfInBounds_toArray, List.set_cons_zero, List.set_cons_succ]))
  ((first | ((refine Go.Proofs.Ytibgpkcklneloaa.tree_yes (v := ?_) (by rfl) ?_ ?_); rotate_left; (focus (intro w hSw; (try dsimp only at hSw); go_simp; try (with_reducible rfl)))) | (refine Go.Proofs.Ytibgpkcklneloaa.tree_no (by rfl) ?_)); (try simp only [Act.put, List.setIfInBounds_toArray, List.set_cons_zero, List.set_cons_succ]))
  ((first | ((refine Go.Proofs.Ytibgpkcklneloaa.tree_yes (v := ?_) (by rfl) ?_ ?_); rotate_left; (focus (intro w hSw; (try dsimp only at hSw); go_simp; try (with_reducible rfl)))) | (refine Go.Proofs.Ytibgpkcklneloaa.tree_no (by rfl) ?_)); (try simp only [Act.put, List.setIfInBounds_toArray, List.set_cons_zero, List.set_cons_succ]))
  ((first | ((refine Go.Proofs.Ytibgpkcklneloaa.tree_yes (v := ?_) (by rfl) ?_ ?_); rotate_left; (focus (intro w hSw; (try dsimp only at hSw); go_simp; try (with_reducible rfl)))) | (refine Go.Proofs.Ytibgpkcklneloaa.tree_no (by rfl) ?_)); (try simp only [Act.put, List.setIfInBounds_toArray, List.set_cons_zero, List.set_cons_succ]))
  ((first | ((refine Go.Proofs.Ytibgpkcklneloaa.tree_yes (v := ?_) (by rfl) ?_ ?_); rotate_left; (focus (intro w hSw; (try dsimp only at hSw); go_simp; try (with_reducible rfl)))) | (refine Go.Proofs.Ytibgpkcklneloaa.tree_no (by rfl) ?_)); (try simp only [Act.put, List.setIfInBounds_toArray, List.set_cons_zero, List.set_cons_succ]))
  ((first | ((refine Go.Proofs.Ytibgpkcklneloaa.tree_yes (v := ?_) (by rfl) ?_ ?_); rotate_left; (focus (intro w hSw; (try dsimp only at hSw); go_simp; try (with_reducible rfl)))) | (refine Go.Proofs.Ytibgpkcklneloaa.tree_no (by rfl) ?_)); (try simp only [Act.put, List.setIfInBounds_toArray, List.set_cons_zero, List.set_cons_succ]))
  ((first | ((refine Go.Proofs.Ytibgpkcklneloaa.tree_yes (v := ?_) (by rfl) ?_ ?_); rotate_left; (focus (intro w hSw; (try dsimp only at hSw); go_simp; try (with_reducible rfl)))) | (refine Go.Proofs.Ytibgpkcklneloaa.tree_no (by rfl) ?_)); (try simp only [Act.put, List.setIfInBounds_toArray, List.set_cons_zero, List.set_cons_succ]))
  ((first | ((refine Go.Proofs.Ytibgpkcklneloaa.tree_yes (v := ?_) (by rfl) ?_ ?_); rotate_left; (focus (intro w hSw; (try dsimp only at hSw); go_simp; try (with_reducible rfl)))) | (refine Go.Proofs.Ytibgpkcklneloaa.tree_no (by rfl) ?_)); (try simp only [Act.put, List.setIfInBounds_toArray, List.set_cons_zero, List.set_cons_succ]))
  ((first | ((refine Go.Proofs.Ytibgpkcklneloaa.tree_yes (v := ?_) (by rfl) ?_ ?_); rotate_left; (focus (intro w hSw; (try dsimp only at hSw); go_simp; try (with_reducible rfl)))) | (refine Go.Proofs.Ytibgpkcklneloaa.tree_no (by rfl) ?_)); (try simp only [Act.put, List.setIfInBounds_toArray, List.set_cons_zero, List.set_cons_succ]))
  refine Go.Proofs.Ytibgpkcklneloaa.tree_fork (fun K hK => ?_) (fun K hK => ?_)
  focus
    ((first | (fail) | (go_simp; (fail); (try go_wp2_with fail)) | go_simp); (refine hK.out _ _ ?_ (fun hHeld => ?_)); (focus ((try dsimp only); (first | done | ((try rw [← hw1]); refine HB1.out _ ?_; (first | exact Below.refl _ _ | exact Below.alloc (Below.refl _ _) (Nat.le_refl _) _ | exact Below.alloc (Below.alloc (Below.refl _ _) (Nat.le_refl _) _) (by rw [World.size_alloc]; exact Nat.le_succ _) _))))); clear hK K; (try simp only [Act.put, List.setIfInBounds_toArray, List.set_cons_zero, List.set_cons_succ]))
    ((refine Go.Proofs.Ytibgpkcklneloaa.tree_step (fun K hK => ?_)); (first | (fail) | (go_simp; (fail); (try go_wp2_with fail)) | go_simp); (refine hK.out _ _ ?_ (fun hHeld => ?_)); (focus ((try dsimp only); (first | done | ((try rw [← hw1]); refine HB1.out _ ?_; (first | exact Below.refl _ _ | exact Below.alloc (Below.refl _ _) (Nat.le_refl _) _ | exact Below.alloc (Below.alloc (Below.refl _ _) (Nat.le_refl _) _) (by rw [World.size_alloc]; exact Nat.le_succ _) _))))); clear hK K; (try simp only [Act.put, List.setIfInBounds_toArray, List.set_cons_zero, List.set_cons_succ]))
    ((refine Go.Proofs.Ytibgpkcklneloaa.tree_step (fun K hK => ?_)); (first | (fail) | (go_simp; (fail); (try go_wp2_with fail)) | go_simp); (refine hK.out _ _ ?_ (fun hHeld => ?_)); (focus ((try dsimp only); (first | done | ((try rw [← hw1]); refine HB1.out _ ?_; (first | exact Below.refl _ _ | exact Below.alloc (Below.refl _ _) (Nat.le_refl _) _ | exact Below.alloc (Below.alloc (Below.refl _ _) (Nat.le_refl _) _) (by rw [World.size_alloc]; exact Nat.le_succ _) _))))); clear hK K; (try simp only [Act.put, List.setIfInBounds_toArray, List.set_cons_zero, List.set_cons_succ]))
    ((refine Go.Proofs.Ytibgpkcklneloaa.tree_step (fun K hK => ?_)); (first | (fail) | (go_simp; (fail); (try go_wp2_with fail)) | go_simp); (refine hK.out _ _ ?_ (fun hHeld => ?_)); (focus ((try dsimp only); (first | done | ((try rw [← hw1]); refine HB1.out _ ?_; (first | exact Below.refl _ _ | exact Below.alloc (Below.refl _ _) (Nat.le_refl _) _ | exact Below.alloc (Below.alloc (Below.refl _ _) (Nat.le_refl _) _) (by rw [World.size_alloc]; exact Nat.le_succ _) _))))); clear hK K; (try simp only [Act.put, List.setIfInBounds_toArray, List.set_cons_zero, List.set_cons_succ]))
    refine Go.Proofs.Ytibgpkcklneloaa.tree_done ?_
  rotate_left 1
  focus
    ((first | (fail) | (go_simp; (fail); (try go_wp2_with fail)) | go_simp); (refine hK.out _ _ ?_ (fun hHeld => ?_)); (focus ((try dsimp only); (first | done | ((try rw [← hw1]); refine HB1.out _ ?_; (first | exact Below.refl _ _ | exact Below.alloc (Below.refl _ _) (Nat.le_refl _) _ | exact Below.alloc (Below.alloc (Below.refl _ _) (Nat.le_refl _) _) (by rw [World.size_alloc]; exact Nat.le_succ _) _))))); clear hK K; (try simp only [Act.put, List.setIfInBounds_toArray, List.set_cons_zero, List.set_cons_succ]))
    ((refine Go.Proofs.Ytibgpkcklneloaa.tree_step (fun K hK => ?_)); (first | (fail) | (go_simp; (fail); (try go_wp2_with fail)) | go_simp); (refine hK.out _ _ ?_ (fun hHeld => ?_)); (focus ((try dsimp only); (first | done | ((try rw [← hw1]); refine HB1.out _ ?_; (first | exact Below.refl _ _ | exact Below.alloc (Below.refl _ _) (Nat.le_refl _) _ | exact Below.alloc (Below.alloc (Below.refl _ _) (Nat.le_refl _) _) (by rw [World.size_alloc]; exact Nat.le_succ _) _))))); clear hK K; (try simp only [Act.put, List.setIfInBounds_toArray, List.set_cons_zero, List.set_cons_succ]))
    ((refine Go.Proofs.Ytibgpkcklneloaa.tree_step (fun K hK => ?_)); (first | (fail) | (go_simp; (fail); (try go_wp2_with fail)) | go_simp); (refine hK.out _ _ ?_ (fun hHeld => ?_)); (focus ((try dsimp only); (first | done | ((try rw [← hw1]); refine HB1.out _ ?_; (first | exact Below.refl _ _ | exact Below.alloc (Below.refl _ _) (Nat.le_refl _) _ | exact Below.alloc (Below.alloc (Below.refl _ _) (Nat.le_refl _) _) (by rw [World.size_alloc]; exact Nat.le_succ _) _))))); clear hK K; (try simp only [Act.put, List.setIfInBounds_toArray, List.set_cons_zero, List.set_cons_succ]))
    ((refine Go.Proofs.Ytibgpkcklneloaa.tree_step (fun K hK => ?_)); (first | (fail) | (go_simp; (fail); (try go_wp2_with fail)) | go_simp); (refine hK.out _ _ ?_ (fun hHeld => ?_)); (focus ((try dsimp only); (first | done | ((try rw [← hw1]); refine HB1.out _ ?_; (first | exact Below.refl _ _ | exact Below.alloc (Below.refl _ _) (Nat.le_refl _) _ | exact Below.alloc (Below.alloc (Below.refl _ _) (Nat.le_refl _) _) (by rw [World.size_alloc]; exact Nat.le_succ _) _))))); clear hK K; (try simp only [Act.put, List.setIfInBounds_toArray, List.set_cons_zero, List.set_cons_succ]))
    refine Go.Proofs.Ytibgpkcklneloaa.tree_done ?_
  all_goals
    (first
      | (obtain ⟨w2, hw2⟩ : ∃ w2, w2 = (w1.alloc (wasO (M k))).alloc (isO (M k)) := ⟨_, rfl⟩
         rw [← hw2]
         have hb2 : Below w1.heap.size w1 w2 := by rw [hw2]; exact Below.alloc (Below.alloc (Below.refl _ _) (Nat.le_refl _) _) (by rw [World.size_alloc]; exact Nat.le_succ _) _)
      | (obtain ⟨w2, hw2⟩ : ∃ w2, w2 = (w1.alloc (isO (M k))).alloc (wasO (M k)) := ⟨_, rfl⟩
         rw [← hw2]
         have hb2 : Below w1.heap.size w1 w2 := by rw [hw2]; exact Below.alloc (Below.alloc (Below.refl _ _) (Nat.le_refl _) _) (by rw [World.size_alloc]; exact Nat.le_succ _) _))
    clear hw2
    have HF := Lib.hid (HHD.out.below hb2)
    have R2 : Ran w w2 := Ran.below R1 hb2
    have h3 := HF.out
    have x0 := (map_cells h3).1
    have x2 := one_cell (pull1 (HHB.out.below hb2))
    clear h3 HB1 HHD HHB hb2
    go_wp2_with fail
    refine (nnote_calls 54 _ w2).mono ?_
    rintro e w3 ⟨rfl, rfl⟩
    go_wp2_with fail
    go_ret
    exact ⟨rfl, mapAt_in (HF.out) hn hM, R2⟩
abbrev mapF (lb : Option Addr) (mb : Nat) : Obj := .cells #[.pointer lb, .map (some mb)] 97 (0, 0)
theorem mapF_cells {w : World} {m mb : Nat} {lb : Option Addr} {S : Hp} (h : Sat w (pts m (mapF lb mb) * S)) : w.cell? ⟨m, 0, none⟩ = some (.pointer lb) ∧ w.cell? ⟨m, 1, none⟩ = some (.map (some mb)) :=
  ⟨by rw [cell_at h.get]; rfl, by rw [cell_at h.get]; rfl⟩
theorem fcheck (b : Bool) (x : Nat) (w : World) : (Instr.checkKey b 10000 62 (fV x)).run Try.prog w = .ok () w := by
  show (Instr.checkKey b (9999 + 1) 62 (fV x)).run Try.prog w = _
  rw [Instr.checkKey]
  simp only [Sem.run_bind, run_underlying Try.underlying62, Result.andThen]
  rfl
theorem fequal (x : Nat) (w : World) : (Op.equal 62 (fV x) (fV x)).run Try.prog w = .ok (Op.floatEq .f64 x x) w := by
  show (Op.equalIn (9999 + 1) 62 (fV x) (fV x)).run Try.prog w = _
  rw [Op.equalIn]
  simp only [Sem.run_bind, run_underlying Try.underlying62, Result.andThen]
  rfl
theorem ffind_nil (x : Nat) (w : World) : (Instr.findKey 62 (fV x) []).run Try.prog w = .ok none w := by
  unfold Instr.findKey
  simp only [Sem.run_bind, run_underlying Try.underlying62, Result.andThen]
  rfl
theorem ffind_one (x : Nat) (w : World) (hx : Op.floatEq .f64 x x = true) : (Instr.findKey 62 (fV x) [⟨fV x, .int .i64 1, 0⟩]).run Try.prog w = .ok (some (0, .int .i64 1)) w := by
  have he := fequal x w
  rw [hx] at he
  unfold Instr.findKey
  simp only [Sem.run_bind, run_underlying Try.underlying62, Result.andThen]
  show (Instr.findAsking 62 (fV x) [⟨fV x, .int .i64 1, 0⟩] 0).run Try.prog w = _
  rw [Instr.findAsking]
  simp only [Sem.run_bind, he, Result.andThen]
  rfl
theorem flook_none {w : World} {mb : Nat} {S : Hp} (h : Sat w (fMap mb none * S)) (x : Nat) : (Instr.lookup 95 (.map (some mb)) (fV x) true).run Try.prog w = .ok (.tuple #[.int .i64 0, .bool false]) w := by
  have hz := zeroInt w
  have hg := MapKept.run_getObj_map (P := Try.prog) h.get
  simp only [fEs] at hg
  simp only [Instr.lookup, Sem.run_bind, run_underlying Try.underlying95, Result.andThen, hg, fcheck, Sem.run_pure, ffind_nil, hz]
  rfl
theorem flook_some {w : World} {mb : Nat} {S : Hp} (x : Nat) (h : Sat w (fMap mb (some x) * S)) (hx : Op.floatEq .f64 x x = true) : (Instr.lookup 95 (.map (some mb)) (fV x) true).run Try.prog w = .ok (.tuple #[.int .i64 1, .bool true]) w := by
  have hg := MapKept.run_getObj_map (P := Try.prog) h.get
  simp only [fEs] at hg
  have hf := ffind_one x w hx
  simp only [Instr.lookup, Sem.run_bind, run_underlying Try.underlying95, Result.andThen, hg, fcheck, Sem.run_pure, hf]
  rfl
theorem fput_run {w : World} {mb : Nat} {S : Hp} (x : Nat) (h : Sat w (fMap mb none * S)) : (Instr.mapUpdate 95 (.map (some mb)) (fV x) (.int .i64 1)).run Try.prog w = .ok () (setBlock w mb (.map #[⟨fV x, .int .i64 1, 0⟩] 1)) := by
  have hb := h.get
  have hs : (setObj mb (.map #[⟨fV x, .int .i64 1, 0⟩] 1)).run Try.prog w = .ok () (setBlock w mb (.map #[⟨fV x, .int .i64 1, 0⟩] 1)) := by simp [setObj, Sem.run, hb, setBlock]
  have hg := MapKept.run_getObj_map (P := Try.prog) h.get
  simp only [fEs] at hg
  simp only [Instr.mapUpdate, Sem.run_bind, run_underlying Try.underlying95, Result.andThen, hg, fcheck, ffind_nil]
  exact hs
theorem fneq_run (x : Nat) (w : World) : (binOp .neq 62 (fV x) (fV x)).run Try.prog w = .ok (.bool (!Op.floatEq .f64 x x)) w := by
  simp only [binOp]
  rfl
theorem feql_run (x : Nat) (w : World) : (binOp .eql 62 (fV x) (fV x)).run Try.prog w = .ok (.bool (Op.floatEq .f64 x x)) w := by
  simp only [binOp]
  rfl
set_option maxRecDepth 100000 in
set_option maxHeartbeats 4000000 in
theorem fnote_calls (lb m mb : Nat) (x : Nat) (w : World) (R : Hp) (h : LogAt w lb 5 5 [] [] (pts m (mapF (some ⟨lb, 0, none⟩) mb) * (fMap mb none * R))) :
    Calls Try.prog 48 #[.pointer (some ⟨m, 0, none⟩), fV x] w fun e w' => e = .returned (.int .i64 0) ∧ LogAt w' lb 5 5 [] [] (pts m (mapF (some ⟨lb, 0, none⟩) mb) * (fMap mb none * R)) ∧ Ran w w' := by
  obtain ⟨np, nc, qp, qc, HL⟩ := h
  obtain ⟨S, hS⟩ : ∃ S, S = pts lb (logO 5 5 np ([] : List Value).length nc qp ([] : List Nat).length qc) * (notes np ([] : List Value).length nc [] * (marksA qp qc [] * R)) := ⟨_, rfl⟩
  have HS : Sat w (pts m (mapF (some ⟨lb, 0, none⟩) mb) * (fMap mb none * S)) := HL.perm (by rw [hS]; ac_rfl)
  have hback : ∀ W, Sat W (pts m (mapF (some ⟨lb, 0, none⟩) mb) * (fMap mb none * S)) → LogAt W lb 5 5 [] [] (pts m (mapF (some ⟨lb, 0, none⟩) mb) * (fMap mb none * R)) := fun W hW => ⟨np, nc, qp, qc, hW.perm (by rw [hS]; ac_rfl)⟩
  have Hback := Lib.hid hback
  clear hback hS HL
  have HA := (HS.alloc (.cells #[.pointer (some ⟨m, 0, none⟩)] 70 (0, 0))).alloc (.cells #[fV x] 62 (0, 0))
  have hsz1 : (w.alloc (.cells #[.pointer (some ⟨m, 0, none⟩)] 70 (0, 0))).heap.size = w.heap.size + 1 := World.size_alloc _ _
  rw [hsz1] at HA
  have HD := HA.drew
  obtain ⟨w1, hw1⟩ : ∃ w1, w1 = ((w.alloc (.cells #[.pointer (some ⟨m, 0, none⟩)] 70 (0, 0))).alloc (.cells #[fV x] 62 (0, 0))).drew := ⟨_, rfl⟩
  rw [← hw1] at HD
  have R1 : Ran w w1 := by rw [hw1]; exact Below.drew (Ran.new (Ran.new (Below.refl 0 w) _) _)
  have hb1 : ∀ W, Below w1.heap.size w1 W → (Instr.lookup 95 (.map (some mb)) (fV x) true).run Try.prog W = .ok (.tuple #[.int .i64 0, .bool false]) W ∧ W.cell? ⟨m, 1, none⟩ = some (.map (some mb)) ∧ W.cell? ⟨w.heap.size, 0, none⟩ = some (.pointer (some ⟨m, 0, none⟩)) ∧ W.cell? ⟨w.heap.size + 1, 0, none⟩ = some (fV x) := by
    intro W hW
    have h2 := HD.below hW
    have h3 := h2.right.right
    exact ⟨flook_none (pull1 h3) x, (mapF_cells h3).2, one_cell (pull1 h2), one_cell h2⟩
  have HB1 := Lib.hid hb1
  have HHD := Lib.hid HD.right.right
  have HHB := Lib.hid HD
  obtain ⟨d0, d1, d2, d3⟩ := hb1 w1 (Below.refl _ _)
  clear HA HD hb1 HS
  go_enter Try.func48, Try.ntmps48
  go_wp2_with fail
  refine Go.Proofs.Ytibgpkcklneloaa.region_tree (S := (fun w' => (Instr.lookup 95 (.map (some mb)) (fV x) true).run Try.prog w' = .ok (.tuple #[.int .i64 0, .bool false]) w' ∧ w'.cell? ⟨m, 1, none⟩ = some (.map (some mb)) ∧ w'.cell? ⟨w.heap.size, 0, none⟩ = some (.pointer (some ⟨m, 0, none⟩)) ∧ w'.cell? ⟨w.heap.size + 1, 0, none⟩ = some (fV x))) (.take 0 (.take 1 (.take 2 (.take 3 (.take 4 (.take 5 (.take 6 (.take 7 (.take 8 (.fork 9 (.step 10 (.step 11 (.step 12 (.nil)))) 10 (.step 9 (.step 11 (.step 12 (.nil)))))))))))))) (by kernel_rfl) (by kernel_rfl) (by kernel_rfl) ?_ ?_
  · ((try dsimp only); (first | done | ((try rw [← hw1]); refine HB1.out _ ?_; (first | exact Below.refl _ _ | exact Below.alloc (Below.refl _ _) (Nat.le_refl _) _ | exact Below.alloc (Below.alloc (Below.refl _ _) (Nat.le_refl _) _) (by rw [World.size_alloc]; exact Nat.le_succ _) _))))
  simp only [Go.Proofs.Ytibgpkcklneloaa.Plan.ops, List.getElem?_toArray, List.getElem?_cons_zero, List.getElem?_cons_succ]
  rw [← hw1]; clear hw1 hsz1 d0 d1 d2 d3
  ((first | ((refine Go.Proofs.Ytibgpkcklneloaa.tree_yes (v := ?_) (by rfl) ?_ ?_); rotate_left; (focus (intro w hSw; (try dsimp only at hSw); go_simp; try (with_reducible rfl)))) | (refine Go.Proofs.Ytibgpkcklneloaa.tree_no (by rfl) ?_)); (try simp only [Act.put, List.setIfInBounds_toArray, List.set_cons_zero, List.set_cons_succ]))
  ((first | ((refine Go.Proofs.Ytibgpkcklneloaa.tree_yes (v := ?_) (by rfl) ?_ ?_); rotate_left; (focus (intro w hSw; (try dsimp only at hSw); go_simp; try (with_reducible rfl)))) | (refine Go.Proofs.Ytibgpkcklneloaa.tree_no (by rfl) ?_)); (try simp only [Act.put, List.setIfInBounds_toArray, List.set_cons_zero, List.set_cons_succ]))
  ((first | ((refine Go.Proofs.Ytibgpkcklneloaa.tree_yes (v := ?_) (by rfl) ?_ ?_); rotate_left; (focus (intro w hSw; (try dsimp only at hSw); go_simp; try (with_reducible rfl)))) | (refine Go.Proofs.Ytibgpkcklneloaa.tree_no (by rfl) ?_)); (try simp only [Act.put, List.setIfInBounds_toArray, List.set_cons_zero, List.set_cons_succ]))
  ((first | ((refine Go.Proofs.Ytibgpkcklneloaa.tree_yes (v := ?_) (by rfl) ?_ ?_); rotate_left; (focus (intro w hSw; (try dsimp only at hSw); go_simp; try (with_reducible rfl)))) | (refine Go.Proofs.Ytibgpkcklneloaa.tree_no (by rfl) ?_)); (try simp only [Act.put, List.setIfInBounds_toArray, List.set_cons_zero, List.set_cons_succ]))
  ((first | ((refine Go.Proofs.Ytibgpkcklneloaa.tree_yes (v := ?_) (by rfl) ?_ ?_); rotate_left; (focus (intro w hSw; (try dsimp only at hSw); go_simp; try (with_reducible rfl)))) | (refine Go.Proofs.Ytibgpkcklneloaa.tree_no (by rfl) ?_)); (try simp only [Act.put, List.setIfInBounds_toArray, List.set_cons_zero, List.set_cons_succ]))
  ((first | ((refine Go.Proofs.Ytibgpkcklneloaa.tree_yes (v := ?_) (by rfl) ?_ ?_); rotate_left; (focus (intro w hSw; (try dsimp only at hSw); go_simp; try (with_reducible rfl)))) | (refine Go.Proofs.Ytibgpkcklneloaa.tree_no (by rfl) ?_)); (try simp only [Act.put, List.setIfInBounds_toArray, List.set_cons_zero, List.set_cons_succ]))
  ((first | ((refine Go.Proofs.Ytibgpkcklneloaa.tree_yes (v := ?_) (by rfl) ?_ ?_); rotate_left; (focus (intro w hSw; (try dsimp only at hSw); go_simp; try (with_reducible rfl)))) | (refine Go.Proofs.Ytibgpkcklneloaa.tree_no (by rfl) ?_)); (try simp only [Act.put, List.setIfInBounds_toArray, List.set_cons_zero, List.set_cons_succ]))
  ((first | ((refine Go.Proofs.Ytibgpkcklneloaa.tree_yes (v := ?_) (by rfl) ?_ ?_); rotate_left; (focus (intro w hSw; (try dsimp only at hSw); go_simp; try (with_reducible rfl)))) | (refine Go.Proofs.Ytibgpkcklneloaa.tree_no (by rfl) ?_)); (try simp only [Act.put, List.setIfInBounds_toArray, List.set_cons_zero, List.set_cons_succ]))
  ((first | ((refine Go.Proofs.Ytibgpkcklneloaa.tree_yes (v := ?_) (by rfl) ?_ ?_); rotate_left; (focus (intro w hSw; (try dsimp only at hSw); go_simp; try (with_reducible rfl)))) | (refine Go.Proofs.Ytibgpkcklneloaa.tree_no (by rfl) ?_)); (try simp only [Act.put, List.setIfInBounds_toArray, List.set_cons_zero, List.set_cons_succ]))
  refine Go.Proofs.Ytibgpkcklneloaa.tree_fork (fun K hK => ?_) (fun K hK => ?_)
  focus
    ((first | (fail) | (go_simp; (fail); (try go_wp2_with fail)) | go_simp); (refine hK.out _ _ ?_ (fun hHeld => ?_)); (focus ((try dsimp only); (first | done | ((try rw [← hw1]); refine HB1.out _ ?_; (first | exact Below.refl _ _ | exact Below.alloc (Below.refl _ _) (Nat.le_refl _) _ | exact Below.alloc (Below.alloc (Below.refl _ _) (Nat.le_refl _) _) (by rw [World.size_alloc]; exact Nat.le_succ _) _))))); clear hK K; (try simp only [Act.put, List.setIfInBounds_toArray, List.set_cons_zero, List.set_cons_succ]))
    ((refine Go.Proofs.Ytibgpkcklneloaa.tree_step (fun K hK => ?_)); (first | (fail) | (go_simp; (fail); (try go_wp2_with fail)) | go_simp); (refine hK.out _ _ ?_ (fun hHeld => ?_)); (focus ((try dsimp only); (first | done | ((try rw [← hw1]); refine HB1.out _ ?_; (first | exact Below.refl _ _ | exact Below.alloc (Below.refl _ _) (Nat.le_refl _) _ | exact Below.alloc (Below.alloc (Below.refl _ _) (Nat.le_refl _) _) (by rw [World.size_alloc]; exact Nat.le_succ _) _))))); clear hK K; (try simp only [Act.put, List.setIfInBounds_toArray, List.set_cons_zero, List.set_cons_succ]))
    ((refine Go.Proofs.Ytibgpkcklneloaa.tree_step (fun K hK => ?_)); (first | (fail) | (go_simp; (fail); (try go_wp2_with fail)) | go_simp); (refine hK.out _ _ ?_ (fun hHeld => ?_)); (focus ((try dsimp only); (first | done | ((try rw [← hw1]); refine HB1.out _ ?_; (first | exact Below.refl _ _ | exact Below.alloc (Below.refl _ _) (Nat.le_refl _) _ | exact Below.alloc (Below.alloc (Below.refl _ _) (Nat.le_refl _) _) (by rw [World.size_alloc]; exact Nat.le_succ _) _))))); clear hK K; (try simp only [Act.put, List.setIfInBounds_toArray, List.set_cons_zero, List.set_cons_succ]))
    ((refine Go.Proofs.Ytibgpkcklneloaa.tree_step (fun K hK => ?_)); (first | (fail) | (go_simp; (fail); (try go_wp2_with fail)) | go_simp); (refine hK.out _ _ ?_ (fun hHeld => ?_)); (focus ((try dsimp only); (first | done | ((try rw [← hw1]); refine HB1.out _ ?_; (first | exact Below.refl _ _ | exact Below.alloc (Below.refl _ _) (Nat.le_refl _) _ | exact Below.alloc (Below.alloc (Below.refl _ _) (Nat.le_refl _) _) (by rw [World.size_alloc]; exact Nat.le_succ _) _))))); clear hK K; (try simp only [Act.put, List.setIfInBounds_toArray, List.set_cons_zero, List.set_cons_succ]))
    refine Go.Proofs.Ytibgpkcklneloaa.tree_done ?_
  rotate_left 1
  focus
    ((first | (fail) | (go_simp; (fail); (try go_wp2_with fail)) | go_simp); (refine hK.out _ _ ?_ (fun hHeld => ?_)); (focus ((try dsimp only); (first | done | ((try rw [← hw1]); refine HB1.out _ ?_; (first | exact Below.refl _ _ | exact Below.alloc (Below.refl _ _) (Nat.le_refl _) _ | exact Below.alloc (Below.alloc (Below.refl _ _) (Nat.le_refl _) _) (by rw [World.size_alloc]; exact Nat.le_succ _) _))))); clear hK K; (try simp only [Act.put, List.setIfInBounds_toArray, List.set_cons_zero, List.set_cons_succ]))
    ((refine Go.Proofs.Ytibgpkcklneloaa.tree_step (fun K hK => ?_)); (first | (fail) | (go_simp; (fail); (try go_wp2_with fail)) | go_simp); (refine hK.out _ _ ?_ (fun hHeld => ?_)); (focus ((try dsimp only); (first | done | ((try rw [← hw1]); refine HB1.out _ ?_; (first | exact Below.refl _ _ | exact Below.alloc (Below.refl _ _) (Nat.le_refl _) _ | exact Below.alloc (Below.alloc (Below.refl _ _) (Nat.le_refl _) _) (by rw [World.size_alloc]; exact Nat.le_succ _) _))))); clear hK K; (try simp only [Act.put, List.setIfInBounds_toArray, List.set_cons_zero, List.set_cons_succ]))
    ((refine Go.Proofs.Ytibgpkcklneloaa.tree_step (fun K hK => ?_)); (first | (fail) | (go_simp; (fail); (try go_wp2_with fail)) | go_simp); (refine hK.out _ _ ?_ (fun hHeld => ?_)); (focus ((try dsimp only); (first | done | ((try rw [← hw1]); refine HB1.out _ ?_; (first | exact Below.refl _ _ | exact Below.alloc (Below.refl _ _) (Nat.le_refl _) _ | exact Below.alloc (Below.alloc (Below.refl _ _) (Nat.le_refl _) _) (by rw [World.size_alloc]; exact Nat.le_succ _) _))))); clear hK K; (try simp only [Act.put, List.setIfInBounds_toArray, List.set_cons_zero, List.set_cons_succ]))
    ((refine Go.Proofs.Ytibgpkcklneloaa.tree_step (fun K hK => ?_)); (first | (fail) | (go_simp; (fail); (try go_wp2_with fail)) | go_simp); (refine hK.out _ _ ?_ (fun hHeld => ?_)); (focus ((try dsimp only); (first | done | ((try rw [← hw1]); refine HB1.out _ ?_; (first | exact Below.refl _ _ | exact Below.alloc (Below.refl _ _) (Nat.le_refl _) _ | exact Below.alloc (Below.alloc (Below.refl _ _) (Nat.le_refl _) _) (by rw [World.size_alloc]; exact Nat.le_succ _) _))))); clear hK K; (try simp only [Act.put, List.setIfInBounds_toArray, List.set_cons_zero, List.set_cons_succ]))
    refine Go.Proofs.Ytibgpkcklneloaa.tree_done ?_
  all_goals
    (first
      | (obtain ⟨w2, hw2⟩ : ∃ w2, w2 = (w1.alloc (.cells #[.int .i64 0] 3 (0, 0))).alloc (.cells #[.bool false] 4 (0, 0)) := ⟨_, rfl⟩
         rw [← hw2]
         have hb2 : Below w1.heap.size w1 w2 := by rw [hw2]; exact Below.alloc (Below.alloc (Below.refl _ _) (Nat.le_refl _) _) (by rw [World.size_alloc]; exact Nat.le_succ _) _)
      | (obtain ⟨w2, hw2⟩ : ∃ w2, w2 = (w1.alloc (.cells #[.bool false] 4 (0, 0))).alloc (.cells #[.int .i64 0] 3 (0, 0)) := ⟨_, rfl⟩
         rw [← hw2]
         have hb2 : Below w1.heap.size w1 w2 := by rw [hw2]; exact Below.alloc (Below.alloc (Below.refl _ _) (Nat.le_refl _) _) (by rw [World.size_alloc]; exact Nat.le_succ _) _))
    clear hw2
    have HF := Lib.hid (HHD.out.below hb2)
    have R2 : Ran w w2 := Ran.below R1 hb2
    have h3 := HF.out
    have x0 := (mapF_cells h3).1
    have x2 := one_cell (pull1 (HHB.out.below hb2))
    clear h3 HB1 HHD HHB hb2
    go_wp2_with fail
    refine (note_idle lb 5 5 [] 58 _ w2 _ (Hback.out w2 HF.out)).mono ?_
    rintro e w3 ⟨rfl, rfl⟩
    go_wp2_with fail
    go_ret
    exact ⟨rfl, Hback.out _ HF.out, R2⟩
end Go.Proofs.Ytibgpkcklneloaa.Undo
