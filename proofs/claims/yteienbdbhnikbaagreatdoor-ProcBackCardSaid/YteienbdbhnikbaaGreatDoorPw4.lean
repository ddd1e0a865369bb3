/- HandlesPlays, part 4 of 31: the texts PrG PrH, joined by a program. -/
import Derived.Test.YteienbdbhnikbaaGreatDoorPw3
namespace Go.Proofs.YteienbdbhnikbaaGreatDoor.Pr
open Go.RowKit Go.Proofs.YteienbdbhnikbaaGreatDoor Go.Proofs.YteienbdbhnikbaaGreatDoor.Hp
set_option linter.unusedVariables false
attribute [local go_sem] Oper.semAt_some
attribute [local go_sem] run_store_func

theorem pc_same {w : World} {p : Pc} {S : Hp} (h : Sat w (pcHp p * S)) (k : Nat) (v : Value) (hv : w.cell? ⟨p.pb, k, none⟩ = some v) : Sat (w.setCell ⟨p.pb, k, none⟩ v) (pcHp p * S) := by
  rw [pc_at h] at hv
  have h1 := (h.perm (show _ = pts p.pb (.cells (pcL p).toArray 89 (0, 0)) * ((pts p.fx (.cells #[pp p.fb] 26 (0, 0)) * pts p.tx (.cells #[pp p.tb] 28 (0, 0))) * S) by unfold pcHp pcO; ac_rfl)).setL (i := k) v
  have e : (pcL p).set k v = pcL p := by
    obtain ⟨hk, he⟩ := List.getElem?_eq_some_iff.1 hv
    rw [← he]
    exact List.set_getElem_self hk
  rw [e] at h1
  exact h1.perm (by unfold pcHp pcO; ac_rfl)
theorem slot_len (p : Pc) (i : Nat) (s : Sl) : (p.slot i s).fds.length = p.fds.length := List.length_set ..
set_option maxRecDepth 100000 in
set_option maxHeartbeats 4000000 in
theorem back_calls (p : Pc) (i sb wb : Nat) (s : Sl) (D E : Hp) (w : World) (R : Hp) (hi : i < 16) (h16 : p.fds.length = 16)
    (HD : ∀ W S, Sat W (D * (pcHp p * S)) → Calls Tryz.prog 51 #[.int .i64 (p.fds[i]'(by omega)).has, pp p.tx] W fun e w' => e = .returned (.tuple #[]) ∧ (Sat w' (E * (pcHp p * S)) ∧ Ran W w'))
    (h : Sat w (D * (noteHp p.pb i p.tx sb wb s * (pcHp p * R)))) :
    Calls Tryz.prog 76 #[pp sb, pp wb] w fun e w' => (e = .returned (.tuple #[]) ∧ Sat w' (E * (noteHp p.pb i p.tx sb wb s * (pcHp (p.slot i s) * R)))) ∧ Ran w w' := by
  obtain ⟨x, hx⟩ : ∃ x, x = (p.fds[i]'(by omega)).has := ⟨_, rfl⟩
  rw [← hx] at HD
  have HC := Lib.hid (fun (W : World) (X : Hp) (hW : Sat W (X * (noteHp p.pb i p.tx sb wb s * (pcHp p * R)))) => (by
    have h2 := hW.perm (show _ = pcHp p * (X * (noteHp p.pb i p.tx sb wb s * R)) by ac_rfl)
    have h3 := hW.perm (show _ = pts sb (.cells #[slP p.pb i] 90 (0, 0)) * (pts wb (wasO s p.tx) * (X * (pcHp p * R))) by unfold noteHp; ac_rfl)
    obtain ⟨c0, c1, c2, c3⟩ := pc_fd h2 i (by omega)
    rw [← hx] at c0
    exact ⟨by rw [cell_at h3.get]; rfl, c0, c1, c2, c3, fun k => pc_free h2 k, by rw [cell_at h3.right.get]; rfl, by rw [cell_at h3.right.get]; rfl, by rw [cell_at h3.right.get]; rfl, by rw [cell_at h3.right.get]; rfl⟩ : W.cell? ⟨sb, 0, none⟩ = some (slP p.pb i) ∧ W.cell? ⟨p.pb, 3 + i * 4, none⟩ = some (.int .i64 x) ∧ W.cell? ⟨p.pb, 3 + i * 4 + 1, none⟩ = some (.int .i64 (p.fds[i]'(by omega)).mark) ∧ W.cell? ⟨p.pb, 3 + i * 4 + 2, none⟩ = some (.func (.func 49) #[] #[pp p.tx]) ∧ W.cell? ⟨p.pb, 3 + i * 4 + 3, none⟩ = some (.func (.func 51) #[] #[pp p.tx]) ∧ (∀ k, W.frozen? ⟨p.pb, k, none⟩ = false) ∧ W.cell? ⟨wb, 0, none⟩ = some (.int .i64 s.has) ∧ W.cell? ⟨wb, 1, none⟩ = some (.int .i64 s.mark) ∧ W.cell? ⟨wb, 2, none⟩ = some (.func (.func 49) #[] #[pp p.tx]) ∧ W.cell? ⟨wb, 3, none⟩ = some (.func (.func 51) #[] #[pp p.tx])))
  have hil : i < p.fds.length := by omega
  obtain ⟨mk, hmk⟩ : ∃ k, k = (p.fds[i]'(by omega)).mark := ⟨_, rfl⟩
  rw [← hmk] at HC
  obtain ⟨z0, c0, c1, c2, c3, -, -⟩ := HC.out w.drew D h.drew
  have HDw := Lib.hid (HD w.drew _ (h.drew.perm (show _ = D * (pcHp p * (noteHp p.pb i p.tx sb wb s * R)) by ac_rfl)))
  have R0 := Lib.hid (Below.drew (Below.refl 0 w) : Ran w w.drew)
  clear h HD hx hmk
  go_enter Tryz.func76, Tryz.ntmps76
  go_upto_region 0 with fail
  refine region_plan (S := (fun w' => w'.cell? ⟨sb, 0, none⟩ = some (slP p.pb i) ∧ w'.cell? ⟨p.pb, 3 + i * 4, none⟩ = some (.int .i64 x) ∧ w'.cell? ⟨p.pb, 3 + i * 4 + 3, none⟩ = some (.func (.func 51) #[] #[pp p.tx]))) [(0, true), (1, true), (2, true), (3, true), (4, true), (5, true), (6, true), (7, true), (8, false)] (by kernel_rfl) (by kernel_rfl) (by kernel_rfl) ?_ ?_
  · ((try dsimp only); (first | done | (first | exact ⟨z0, c0, c3⟩ | exact ⟨y0, d0, d3⟩)))
  simp only [planOps, List.map_cons, List.map_nil, List.getElem?_toArray, List.getElem?_cons_zero, List.getElem?_cons_succ]
  repeat (first
    | ((refine plan_yes (v := ?_) (by rfl) ?_ ?_); rotate_left; (focus (intro w hSw; (try dsimp only at hSw); go_simp; try (with_reducible rfl))); (try simp only [Act.put, List.setIfInBounds_toArray, List.set_cons_zero, List.set_cons_succ]))
    | ((refine plan_no (by rfl) ?_); (try simp only [Act.put, List.setIfInBounds_toArray, List.set_cons_zero, List.set_cons_succ]))
    | ((refine plan_step (fun K hK => ?_)); (first | ((refine HDw.out.mono ?_; rintro e w4 ⟨rfl, S4, R4⟩; have hS4 := S4.perm (show _ = E * (noteHp p.pb i p.tx sb wb s * (pcHp p * R)) by ac_rfl); obtain ⟨y0, d0, d1, d2, d3, fz, n0, n1, n2, n3⟩ := HC.out w4 E hS4; have S5 := Lib.hid S4; have R5 := Lib.hid (Below.trans R0.out R4); clear S4 hS4 R4)) | (go_simp; ((refine HDw.out.mono ?_; rintro e w4 ⟨rfl, S4, R4⟩; have hS4 := S4.perm (show _ = E * (noteHp p.pb i p.tx sb wb s * (pcHp p * R)) by ac_rfl); obtain ⟨y0, d0, d1, d2, d3, fz, n0, n1, n2, n3⟩ := HC.out w4 E hS4; have S5 := Lib.hid S4; have R5 := Lib.hid (Below.trans R0.out R4); clear S4 hS4 R4)); (try go_wp2_with fail)) | go_simp); (refine hK.out _ _ ?_ (fun hHeld => ?_)); (focus ((try dsimp only); (first | done | (first | exact ⟨z0, c0, c3⟩ | exact ⟨y0, d0, d3⟩)))); clear hK K; (try simp only [Act.put, List.setIfInBounds_toArray, List.set_cons_zero, List.set_cons_succ])))
  refine plan_done ?_
  have f0 := fz (3 + i * 4)
  have f1 := fz (3 + i * 4 + 1)
  have f2 := fz (3 + i * 4 + 2)
  have f3 := fz (3 + i * 4 + 3)
  have h6 := pc_slot (S5.out.perm (show _ = pcHp p * (E * (noteHp p.pb i p.tx sb wb s * R)) by ac_rfl)) i s hil
  obtain ⟨-, -, g2, -⟩ := pc_fd h6 i (by rw [slot_len]; exact hil)
  have h7 := pc_same h6 (3 + i * 4 + 2) _ g2
  obtain ⟨-, -, -, g3⟩ := pc_fd h7 i (by rw [slot_len]; exact hil)
  have h8 := (pc_same h7 (3 + i * 4 + 3) _ g3).perm (show _ = E * (noteHp p.pb i p.tx sb wb s * (pcHp (p.slot i s) * R)) by ac_rfl)
  have R8 := Ran.set (Ran.set (Ran.set (Ran.set R5.out ⟨p.pb, 3 + i * 4, none⟩ (.int .i64 s.has)) ⟨p.pb, 3 + i * 4 + 1, none⟩ (.int .i64 s.mark)) ⟨p.pb, 3 + i * 4 + 2, none⟩ (fRef p.tx)) ⟨p.pb, 3 + i * 4 + 3, none⟩ (fUnref p.tx)
  have hA := Lib.hid (And.intro h8 R8)
  clear S5 R5 h6 g2 h7 g3 h8 R8 fz z0 c0 c1 c2 c3
  go_wp2_with fail
  go_end0
  exact ⟨⟨rfl, hA.out.1⟩, hA.out.2⟩
end Go.Proofs.YteienbdbhnikbaaGreatDoor.Pr

namespace Go.Proofs.YteienbdbhnikbaaGreatDoor.Pr
open Go.RowKit Go.Proofs.YteienbdbhnikbaaGreatDoor Go.Proofs.YteienbdbhnikbaaGreatDoor.Hp
set_option linter.unusedVariables false
attribute [local go_sem] Oper.semAt_some
attribute [local go_sem] run_store_func

abbrev slD (pb : Nat) : Value := .pointer (some ⟨pb, 67, none⟩)
def Pc.dirHas (p : Pc) (n : Int) : Pc := { p with dir := { p.dir with has := n } }
def Pc.dirSlot (p : Pc) (s : Sl) : Pc := { p with dir := s }
theorem pc_dir {w : World} {p : Pc} {S : Hp} (h : Sat w (pcHp p * S)) (h16 : p.fds.length = 16) : w.cell? ⟨p.pb, 67, none⟩ = some (.int .i64 p.dir.has) ∧ w.cell? ⟨p.pb, 68, none⟩ = some (.int .i64 p.dir.mark) ∧ w.cell? ⟨p.pb, 69, none⟩ = some (fHold p.fx) ∧ w.cell? ⟨p.pb, 70, none⟩ = some (fDrop p.fx) := by
  obtain ⟨c0, c1, c2, c3, c4, c5, c6, c7⟩ := pc_tail h h16
  exact ⟨c0, c1, c2, c3⟩
theorem pcL_dirA (p : Pc) (h16 : p.fds.length = 16) (j : Nat) (v : Value) : (pcL p).set (67 + j) v = [pp p.fb, pp p.tb, pp p.lb] ++ (p.fds.flatMap (slC (fRef p.tx) (fUnref p.tx)) ++ (slC (fHold p.fx) (fDrop p.fx) p.dir ++ slC fNone fNone p.mask).set j v) := by
  unfold pcL
  rw [List.set_append_right _ _ (by show 3 ≤ _; omega)]
  rw [show 67 + j - [pp p.fb, pp p.tb, pp p.lb].length = 64 + j by show 67 + j - 3 = _; omega]
  rw [List.set_append_right _ _ (by rw [sl_flat, h16]; omega)]
  rw [show 64 + j - (p.fds.flatMap (slC (fRef p.tx) (fUnref p.tx))).length = j by rw [sl_flat, h16]; omega]
theorem pcL_dirHas (p : Pc) (n : Int) (h16 : p.fds.length = 16) : (pcL p).set 67 (.int .i64 n) = pcL (p.dirHas n) := by
  rw [show 67 = 67 + 0 from rfl, pcL_dirA p h16]
  rfl
theorem pcL_dirSlot (p : Pc) (s : Sl) (h16 : p.fds.length = 16) : ((pcL p).set 67 (.int .i64 s.has)).set 68 (.int .i64 s.mark) = pcL (p.dirSlot s) := by
  rw [pcL_dirHas p s.has h16, show 68 = 67 + 1 from rfl, pcL_dirA (p.dirHas s.has) h16]
  rfl
theorem pc_dirHas {w : World} {p : Pc} {S : Hp} (h : Sat w (pcHp p * S)) (n : Int) (h16 : p.fds.length = 16) : Sat (w.setCell ⟨p.pb, 67, none⟩ (.int .i64 n)) (pcHp (p.dirHas n) * S) := by
  have h1 := (h.perm (show _ = pts p.pb (.cells (pcL p).toArray 89 (0, 0)) * ((pts p.fx (.cells #[pp p.fb] 26 (0, 0)) * pts p.tx (.cells #[pp p.tb] 28 (0, 0))) * S) by unfold pcHp pcO; ac_rfl)).setL (i := 67) (.int .i64 n)
  rw [pcL_dirHas p n h16] at h1
  exact h1.perm (by unfold pcHp pcO; show pts p.pb (.cells (pcL (p.dirHas n)).toArray 89 (0, 0)) * _ = pts p.pb (.cells (pcL (p.dirHas n)).toArray 89 (0, 0)) * (pts p.fx (.cells #[pp p.fb] 26 (0, 0)) * pts p.tx (.cells #[pp p.tb] 28 (0, 0))) * S; ac_rfl)
theorem pc_dirSlot {w : World} {p : Pc} {S : Hp} (h : Sat w (pcHp p * S)) (s : Sl) (h16 : p.fds.length = 16) : Sat ((w.setCell ⟨p.pb, 67, none⟩ (.int .i64 s.has)).setCell ⟨p.pb, 68, none⟩ (.int .i64 s.mark)) (pcHp (p.dirSlot s) * S) := by
  have h1 := ((h.perm (show _ = pts p.pb (.cells (pcL p).toArray 89 (0, 0)) * ((pts p.fx (.cells #[pp p.fb] 26 (0, 0)) * pts p.tx (.cells #[pp p.tb] 28 (0, 0))) * S) by unfold pcHp pcO; ac_rfl)).setL (i := 67) (.int .i64 s.has)).setL (i := 68) (.int .i64 s.mark)
  rw [pcL_dirSlot p s h16] at h1
  exact h1.perm (by unfold pcHp pcO; show pts p.pb (.cells (pcL (p.dirSlot s)).toArray 89 (0, 0)) * _ = pts p.pb (.cells (pcL (p.dirSlot s)).toArray 89 (0, 0)) * (pts p.fx (.cells #[pp p.fb] 26 (0, 0)) * pts p.tx (.cells #[pp p.tb] 28 (0, 0))) * S; ac_rfl)
abbrev wasD (s : Sl) (fx : Nat) : Obj := .cells #[.int .i64 s.has, .int .i64 s.mark, .func (.func 45) #[] #[pp fx], .func (.func 47) #[] #[pp fx]] 86 (0, 0)
def noteD (pb fx sb wb : Nat) (s : Sl) : Hp := pts sb (.cells #[slD pb] 90 (0, 0)) * pts wb (wasD s fx)
set_option maxRecDepth 100000 in
set_option maxHeartbeats 4000000 in
theorem dir_now (p : Pc) (n m : Int) (A B C : Hp) (w : World) (R : Hp) (h16 : p.fds.length = 16) (hm : m ≤ p.dir.mark)
    (HMk : ∀ W S, Sat W (A * S) → Calls Tryz.prog 17 #[pp p.lb] W fun e w' => e = .returned (.int .i64 m) ∧ W = w')
    (HT : ∀ W S, Sat W (A * (pcHp p * S)) → Calls Tryz.prog 45 #[.int .i64 n, pp p.fx] W fun e w' => e = .returned (.tuple #[]) ∧ (Sat w' (B * (pcHp p * S)) ∧ Ran W w'))
    (HD : ∀ W S, Sat W (B * (pcHp p * S)) → Calls Tryz.prog 47 #[.int .i64 p.dir.has, pp p.fx] W fun e w' => e = .returned (.tuple #[]) ∧ (Sat w' (C * (pcHp p * S)) ∧ Ran W w'))
    (h : Sat w (A * (pcHp p * R))) :
    Calls Tryz.prog 56 #[pp p.pb, slD p.pb, .int .i64 n] w fun e w' => (e = .returned (.int .i64 0) ∧ Sat w' (C * (pcHp (p.dirHas n) * R))) ∧ Ran w w' := by
  have S1 := h.alloc (.cells #[slD p.pb] 90 (0, 0))
  have R1 := Ran.new (Below.refl 0 w) (.cells #[slD p.pb] 90 (0, 0))
  obtain ⟨sb, hsb⟩ : ∃ x, x = w.heap.size := ⟨_, rfl⟩
  obtain ⟨w1, hw1⟩ : ∃ w1, w1 = w.alloc (.cells #[slD p.pb] 90 (0, 0)) := ⟨_, rfl⟩
  rw [← hw1, ← hsb] at S1
  rw [← hw1] at R1
  obtain ⟨x, hx⟩ : ∃ x, x = p.dir.has := ⟨_, rfl⟩
  rw [← hx] at HD
  have HC := Lib.hid (fun (W : World) (X : Hp) (hW : Sat W (pts sb (.cells #[slD p.pb] 90 (0, 0)) * (X * (pcHp p * R)))) => (by
    have h2 := hW.perm (show _ = pcHp p * (pts sb (.cells #[slD p.pb] 90 (0, 0)) * (X * R)) by ac_rfl)
    obtain ⟨c0, c1, c2, c3⟩ := pc_dir h2 h16
    obtain ⟨a0, a1, a2⟩ := pc_heads h2
    rw [← hx] at c0
    exact ⟨by rw [cell_at hW.get]; rfl, c0, c1, c2, c3, a2, fun k => pc_free h2 k⟩ : W.cell? ⟨sb, 0, none⟩ = some (slD p.pb) ∧ W.cell? ⟨p.pb, 67, none⟩ = some (.int .i64 x) ∧ W.cell? ⟨p.pb, 68, none⟩ = some (.int .i64 p.dir.mark) ∧ W.cell? ⟨p.pb, 69, none⟩ = some (.func (.func 45) #[] #[pp p.fx]) ∧ W.cell? ⟨p.pb, 70, none⟩ = some (.func (.func 47) #[] #[pp p.fx]) ∧ W.cell? ⟨p.pb, 2, none⟩ = some (pp p.lb) ∧ ∀ k, W.frozen? ⟨p.pb, k, none⟩ = false))
  obtain ⟨mk, hmk⟩ : ∃ k, k = p.dir.mark := ⟨_, rfl⟩
  rw [← hmk] at hm HC
  obtain ⟨z0, c0, c1, c2, c3, a2, -⟩ := HC.out w1 A S1
  have HMw := Lib.hid (HMk w1 _ (S1.perm (show _ = A * (pts sb (.cells #[slD p.pb] 90 (0, 0)) * (pcHp p * R)) by ac_rfl)))
  have HTw := Lib.hid (HT w1 _ (S1.perm (show _ = A * (pcHp p * (pts sb (.cells #[slD p.pb] 90 (0, 0)) * R)) by ac_rfl)))
  have HDh := Lib.hid HD
  have R1 := Lib.hid R1
  clear h S1 HMk HT HD hx hmk
  go_enter Tryz.func56, Tryz.ntmps56
  go_upto_region 1 with fail
  rw [← hw1, ← hsb]
  clear hw1 hsb
  go_wp2_with fail
  refine HMw.out.mono ?_
  rintro e w2 ⟨rfl, rfl⟩
  clear HMw
  go_wp2_with fail
  refine HTw.out.mono ?_
  rintro e w3 ⟨rfl, S3, R3⟩
  have hS3 := S3.perm (show _ = pts sb (.cells #[slD p.pb] 90 (0, 0)) * (B * (pcHp p * R)) by ac_rfl)
  clear z0 c0 c1 c2 c3 a2
  obtain ⟨z0, c0, c1, c2, c3, a2, -⟩ := HC.out w3.drew B hS3.drew
  have HDw := Lib.hid (HDh.out w3.drew _ S3.drew)
  have R3 := Lib.hid (Below.drew (Below.trans R1.out R3))
  clear S3 hS3 HTw HDh R1
  go_upto_region 4 with fail
  refine region_plan (S := (fun w' => w'.cell? ⟨sb, 0, none⟩ = some (slD p.pb) ∧ w'.cell? ⟨p.pb, 67, none⟩ = some (.int .i64 x) ∧ w'.cell? ⟨p.pb, 70, none⟩ = some (.func (.func 47) #[] #[pp p.fx]))) [(0, true), (1, true), (2, true), (3, true), (4, true), (5, true), (6, true), (7, true), (8, false)] (by kernel_rfl) (by kernel_rfl) (by kernel_rfl) ?_ ?_
  · ((try dsimp only); (first | done | (first | exact ⟨z0, c0, c3⟩ | exact ⟨y0, d0, d3⟩)))
  simp only [planOps, List.map_cons, List.map_nil, List.getElem?_toArray, List.getElem?_cons_zero, List.getElem?_cons_succ]
  repeat (first
    | ((refine plan_yes (v := ?_) (by rfl) ?_ ?_); rotate_left; (focus (intro w hSw; (try dsimp only at hSw); go_simp; try (with_reducible rfl))); (try simp only [Act.put, List.setIfInBounds_toArray, List.set_cons_zero, List.set_cons_succ]))
    | ((refine plan_no (by rfl) ?_); (try simp only [Act.put, List.setIfInBounds_toArray, List.set_cons_zero, List.set_cons_succ]))
    | ((refine plan_step (fun K hK => ?_)); (first | ((refine HDw.out.mono ?_; rintro e w4 ⟨rfl, S4, R4⟩; have hS4 := S4.perm (show _ = pts sb (.cells #[slD p.pb] 90 (0, 0)) * (C * (pcHp p * R)) by ac_rfl); obtain ⟨y0, d0, d1, d2, d3, -, fz⟩ := HC.out w4 C hS4; have fz0 := fz (67); have hA := Lib.hid (And.intro ((pc_dirHas (S4.perm (show _ = pcHp p * (C * (pts sb (.cells #[slD p.pb] 90 (0, 0)) * R)) by ac_rfl)) n h16).perm (show _ = pts sb (.cells #[slD p.pb] 90 (0, 0)) * (C * (pcHp (p.dirHas n) * R)) by ac_rfl)) (Ran.set (Below.trans R3.out R4) ⟨p.pb, 67, none⟩ (.int .i64 n))); clear S4 hS4 R4 fz)) | (go_simp; ((refine HDw.out.mono ?_; rintro e w4 ⟨rfl, S4, R4⟩; have hS4 := S4.perm (show _ = pts sb (.cells #[slD p.pb] 90 (0, 0)) * (C * (pcHp p * R)) by ac_rfl); obtain ⟨y0, d0, d1, d2, d3, -, fz⟩ := HC.out w4 C hS4; have fz0 := fz (67); have hA := Lib.hid (And.intro ((pc_dirHas (S4.perm (show _ = pcHp p * (C * (pts sb (.cells #[slD p.pb] 90 (0, 0)) * R)) by ac_rfl)) n h16).perm (show _ = pts sb (.cells #[slD p.pb] 90 (0, 0)) * (C * (pcHp (p.dirHas n) * R)) by ac_rfl)) (Ran.set (Below.trans R3.out R4) ⟨p.pb, 67, none⟩ (.int .i64 n))); clear S4 hS4 R4 fz)); (try go_wp2_with fail)) | go_simp); (refine hK.out _ _ ?_ (fun hHeld => ?_)); (focus ((try dsimp only); (first | done | (first | exact ⟨z0, c0, c3⟩ | exact ⟨y0, d0, d3⟩)))); clear hK K; (try simp only [Act.put, List.setIfInBounds_toArray, List.set_cons_zero, List.set_cons_succ])))
  refine plan_done ?_
  go_wp2_with fail
  go_ret
  exact ⟨⟨rfl, hA.out.1.right⟩, hA.out.2⟩
set_option maxRecDepth 100000 in
set_option maxHeartbeats 4000000 in
theorem dir_noted (p : Pc) (n m : Int) (A : Hp) (B C : Nat → Nat → Hp) (w : World) (R : Hp) (h16 : p.fds.length = 16) (hm : p.dir.mark < m)
    (HMk : ∀ W S, Sat W (A * S) → Calls Tryz.prog 17 #[pp p.lb] W fun e w' => e = .returned (.int .i64 m) ∧ W = w')
    (HN : ∀ sb wb W S, Sat W (A * S) → Calls Tryz.prog 75 #[pp p.lb, .func (.func 76) #[] #[pp sb, pp wb]] W fun e w' => e = .returned (.int .i64 0) ∧ (Sat w' (B sb wb * S) ∧ Ran W w'))
    (HT : ∀ sb wb W S, Sat W (B sb wb * (pcHp p * S)) → Calls Tryz.prog 45 #[.int .i64 n, pp p.fx] W fun e w' => e = .returned (.tuple #[]) ∧ (Sat w' (C sb wb * (pcHp p * S)) ∧ Ran W w'))
    (h : Sat w (A * (pcHp p * R))) :
    Calls Tryz.prog 56 #[pp p.pb, slD p.pb, .int .i64 n] w fun e w' => (e = .returned (.int .i64 0) ∧ ∃ sb wb, Sat w' (C sb wb * (noteD p.pb p.fx sb wb p.dir * (pcHp (p.dirSlot ⟨n, m⟩) * R)))) ∧ Ran w w' := by
  have S1 := h.alloc (.cells #[slD p.pb] 90 (0, 0))
  have R1 := Ran.new (Below.refl 0 w) (.cells #[slD p.pb] 90 (0, 0))
  obtain ⟨sb, hsb⟩ : ∃ x, x = w.heap.size := ⟨_, rfl⟩
  obtain ⟨w1, hw1⟩ : ∃ w1, w1 = w.alloc (.cells #[slD p.pb] 90 (0, 0)) := ⟨_, rfl⟩
  rw [← hw1, ← hsb] at S1
  rw [← hw1] at R1
  obtain ⟨sl, hsl⟩ : ∃ s, s = p.dir := ⟨_, rfl⟩
  rw [← hsl] at hm ⊢
  have HC := Lib.hid (fun (W : World) (X : Hp) (hW : Sat W (pts sb (.cells #[slD p.pb] 90 (0, 0)) * (X * (pcHp p * R)))) => (by
    have h2 := hW.perm (show _ = pcHp p * (pts sb (.cells #[slD p.pb] 90 (0, 0)) * (X * R)) by ac_rfl)
    obtain ⟨c0, c1, c2, c3⟩ := pc_dir h2 h16
    obtain ⟨a0, a1, a2⟩ := pc_heads h2
    rw [← hsl] at c0 c1
    exact ⟨by rw [cell_at hW.get]; rfl, c0, c1, c2, c3, a2, fun k => pc_free h2 k⟩ : W.cell? ⟨sb, 0, none⟩ = some (slD p.pb) ∧ W.cell? ⟨p.pb, 67, none⟩ = some (.int .i64 sl.has) ∧ W.cell? ⟨p.pb, 68, none⟩ = some (.int .i64 sl.mark) ∧ W.cell? ⟨p.pb, 69, none⟩ = some (.func (.func 45) #[] #[pp p.fx]) ∧ W.cell? ⟨p.pb, 70, none⟩ = some (.func (.func 47) #[] #[pp p.fx]) ∧ W.cell? ⟨p.pb, 2, none⟩ = some (pp p.lb) ∧ ∀ k, W.frozen? ⟨p.pb, k, none⟩ = false))
  obtain ⟨sh, sm⟩ := sl
  dsimp only at hm HC
  obtain ⟨z0, c0, c1, c2, c3, a2, -⟩ := HC.out w1 A S1
  have HMw := Lib.hid (HMk w1 _ (S1.perm (show _ = A * (pts sb (.cells #[slD p.pb] 90 (0, 0)) * (pcHp p * R)) by ac_rfl)))
  have S2 := S1.alloc (wasD ⟨sh, sm⟩ p.fx)
  have R2 := Ran.new R1 (wasD ⟨sh, sm⟩ p.fx)
  obtain ⟨wb, hwb⟩ : ∃ x, x = w1.heap.size := ⟨_, rfl⟩
  obtain ⟨w2, hw2⟩ : ∃ w2, w2 = w1.alloc (wasD ⟨sh, sm⟩ p.fx) := ⟨_, rfl⟩
  rw [← hw2, ← hwb] at S2
  rw [← hw2] at R2
  obtain ⟨y0, d0, d1, d2, d3, b2, -⟩ := HC.out w2 (A * pts wb (wasD ⟨sh, sm⟩ p.fx)) (S2.perm (by ac_rfl))
  have HNw := Lib.hid (HN sb wb w2 _ (S2.perm (show _ = A * (pts wb (wasD ⟨sh, sm⟩ p.fx) * (pts sb (.cells #[slD p.pb] 90 (0, 0)) * (pcHp p * R))) by ac_rfl)))
  have HTh := Lib.hid (HT sb wb)
  have R2 := Lib.hid R2
  have Hsl := Lib.hid hsl
  clear h S1 HMk HT HN S2 R1 hsl
  go_enter Tryz.func56, Tryz.ntmps56
  go_upto_region 1 with fail
  rw [← hw1, ← hsb]
  clear hw1 hsb
  go_wp2_with fail
  refine HMw.out.mono ?_
  rintro e w3 ⟨rfl, rfl⟩
  clear HMw
  go_upto_region 8 with fail
  rw [← hw2, ← hwb]
  clear hw2 hwb z0 c0 c1 c2 c3 a2
  go_wp2_with fail
  refine HNw.out.mono ?_
  rintro e w4 ⟨rfl, S4, R4⟩
  clear y0 d0 d1 d2 d3 b2
  obtain ⟨z0, c0, c1, c2, c3, a2, -⟩ := HC.out w4 (B sb wb * pts wb (wasD ⟨sh, sm⟩ p.fx)) (S4.perm (by ac_rfl))
  have HTw := Lib.hid (HTh.out w4 _ (S4.perm (show _ = B sb wb * (pcHp p * (pts wb (wasD ⟨sh, sm⟩ p.fx) * (pts sb (.cells #[slD p.pb] 90 (0, 0)) * R))) by ac_rfl)))
  have R4 := Lib.hid (Below.trans R2.out R4)
  clear S4 HNw HTh R2
  go_wp2_with fail
  refine HTw.out.mono ?_
  rintro e w5 ⟨rfl, S5, R5⟩
  clear z0 c0 c1 c2 c3 a2
  obtain ⟨z0, c0, c1, -, -, -, fz⟩ := HC.out w5.drew (C sb wb * pts wb (wasD ⟨sh, sm⟩ p.fx)) (S5.drew.perm (by ac_rfl))
  have fz0 := fz (67)
  have fz1 := fz (68)
  have e0 : w5.cell? ⟨p.pb, 67, none⟩ = some (.int .i64 sh) := c0
  have e1 : w5.cell? ⟨p.pb, 68, none⟩ = some (.int .i64 sm) := c1
  have gz0 : w5.frozen? ⟨p.pb, 67, none⟩ = false := fz0
  have gz1 : w5.frozen? ⟨p.pb, 68, none⟩ = false := fz1
  have S6 := pc_dirSlot (S5.drew.perm (show _ = pcHp p * (C sb wb * (pts wb (wasD ⟨sh, sm⟩ p.fx) * (pts sb (.cells #[slD p.pb] 90 (0, 0)) * R))) by ac_rfl)) ⟨n, m⟩ h16
  have S6 := S6.perm (show _ = C sb wb * (noteD p.pb p.fx sb wb ⟨sh, sm⟩ * (pcHp (p.dirSlot ⟨n, m⟩) * R)) by unfold noteD; ac_rfl)
  have R6 := Ran.set (Ran.set (Below.drew (Below.trans R4.out R5)) ⟨p.pb, 67, none⟩ (.int .i64 n)) ⟨p.pb, 68, none⟩ (.int .i64 m)
  have y1 : (w5.drew.setCell ⟨p.pb, 67, none⟩ (.int .i64 n)).cell? ⟨sb, 0, none⟩ = some (slD p.pb) := by
    have h7 := (pc_dirHas (S5.drew.perm (show _ = pcHp p * (C sb wb * (pts wb (wasD ⟨sh, sm⟩ p.fx) * (pts sb (.cells #[slD p.pb] 90 (0, 0)) * R))) by ac_rfl)) n h16).perm (show _ = pts sb (.cells #[slD p.pb] 90 (0, 0)) * (C sb wb * (pts wb (wasD ⟨sh, sm⟩ p.fx) * (pcHp (p.dirHas n) * R))) by ac_rfl)
    rw [cell_at h7.get]; rfl
  have y2 : ((w5.drew.setCell ⟨p.pb, 67, none⟩ (.int .i64 n)).setCell ⟨p.pb, 68, none⟩ (.int .i64 m)).cell? ⟨sb, 0, none⟩ = some (slD p.pb) := by
    have h7 := S6.perm (show _ = pts sb (.cells #[slD p.pb] 90 (0, 0)) * (C sb wb * (pts wb (wasD ⟨sh, sm⟩ p.fx) * (pcHp (p.dirSlot ⟨n, m⟩) * R))) by unfold noteD; ac_rfl)
    rw [cell_at h7.get]; rfl
  have hA := Lib.hid (And.intro S6 R6)
  clear S5 R5 R4 S6 R6 HTw fz
  go_upto_region 12 with fail
  refine region_plan (S := (fun w' => w'.cell? ⟨sb, 0, none⟩ = some (slD p.pb))) [(0, true), (1, true), (2, true), (3, true), (4, true), (5, true), (6, false), (7, true), (8, true), (9, false)] (by kernel_rfl) (by kernel_rfl) (by kernel_rfl) ?_ ?_
  · ((try dsimp only); (first | done | (first | exact z0 | exact y1 | exact y2)))
  simp only [planOps, List.map_cons, List.map_nil, List.getElem?_toArray, List.getElem?_cons_zero, List.getElem?_cons_succ]
  repeat (first
    | ((refine plan_yes (v := ?_) (by rfl) ?_ ?_); rotate_left; (focus (intro w hSw; (try dsimp only at hSw); go_simp; try (with_reducible rfl))); (try simp only [Act.put, List.setIfInBounds_toArray, List.set_cons_zero, List.set_cons_succ]))
    | ((refine plan_no (by rfl) ?_); (try simp only [Act.put, List.setIfInBounds_toArray, List.set_cons_zero, List.set_cons_succ]))
    | ((refine plan_step (fun K hK => ?_)); (first | (fail) | (go_simp; (fail); (try go_wp2_with fail)) | go_simp); (refine hK.out _ _ ?_ (fun hHeld => ?_)); (focus ((try dsimp only); (first | done | (first | exact z0 | exact y1 | exact y2)))); clear hK K; (try simp only [Act.put, List.setIfInBounds_toArray, List.set_cons_zero, List.set_cons_succ])))
  refine plan_done ?_
  go_wp2_with fail
  go_ret
  exact ⟨⟨rfl, sb, wb, hA.out.1⟩, hA.out.2⟩
set_option maxRecDepth 100000 in
set_option maxHeartbeats 4000000 in
theorem dir_back (p : Pc) (sb wb : Nat) (s : Sl) (D E : Hp) (w : World) (R : Hp) (h16 : p.fds.length = 16)
    (HD : ∀ W S, Sat W (D * (pcHp p * S)) → Calls Tryz.prog 47 #[.int .i64 p.dir.has, pp p.fx] W fun e w' => e = .returned (.tuple #[]) ∧ (Sat w' (E * (pcHp p * S)) ∧ Ran W w'))
    (h : Sat w (D * (noteD p.pb p.fx sb wb s * (pcHp p * R)))) :
    Calls Tryz.prog 76 #[pp sb, pp wb] w fun e w' => (e = .returned (.tuple #[]) ∧ Sat w' (E * (noteD p.pb p.fx sb wb s * (pcHp (p.dirSlot s) * R)))) ∧ Ran w w' := by
  obtain ⟨x, hx⟩ : ∃ x, x = p.dir.has := ⟨_, rfl⟩
  rw [← hx] at HD
  have HC := Lib.hid (fun (W : World) (X : Hp) (hW : Sat W (X * (noteD p.pb p.fx sb wb s * (pcHp p * R)))) => (by
    have h2 := hW.perm (show _ = pcHp p * (X * (noteD p.pb p.fx sb wb s * R)) by ac_rfl)
    have h3 := hW.perm (show _ = pts sb (.cells #[slD p.pb] 90 (0, 0)) * (pts wb (wasD s p.fx) * (X * (pcHp p * R))) by unfold noteD; ac_rfl)
    obtain ⟨c0, c1, c2, c3⟩ := pc_dir h2 h16
    rw [← hx] at c0
    exact ⟨by rw [cell_at h3.get]; rfl, c0, c1, c2, c3, fun k => pc_free h2 k, by rw [cell_at h3.right.get]; rfl, by rw [cell_at h3.right.get]; rfl, by rw [cell_at h3.right.get]; rfl, by rw [cell_at h3.right.get]; rfl⟩ : W.cell? ⟨sb, 0, none⟩ = some (slD p.pb) ∧ W.cell? ⟨p.pb, 67, none⟩ = some (.int .i64 x) ∧ W.cell? ⟨p.pb, 68, none⟩ = some (.int .i64 p.dir.mark) ∧ W.cell? ⟨p.pb, 69, none⟩ = some (.func (.func 45) #[] #[pp p.fx]) ∧ W.cell? ⟨p.pb, 70, none⟩ = some (.func (.func 47) #[] #[pp p.fx]) ∧ (∀ k, W.frozen? ⟨p.pb, k, none⟩ = false) ∧ W.cell? ⟨wb, 0, none⟩ = some (.int .i64 s.has) ∧ W.cell? ⟨wb, 1, none⟩ = some (.int .i64 s.mark) ∧ W.cell? ⟨wb, 2, none⟩ = some (.func (.func 45) #[] #[pp p.fx]) ∧ W.cell? ⟨wb, 3, none⟩ = some (.func (.func 47) #[] #[pp p.fx])))
  obtain ⟨mk, hmk⟩ : ∃ k, k = p.dir.mark := ⟨_, rfl⟩
  rw [← hmk] at HC
  obtain ⟨z0, c0, c1, c2, c3, -, -⟩ := HC.out w.drew D h.drew
  have HDw := Lib.hid (HD w.drew _ (h.drew.perm (show _ = D * (pcHp p * (noteD p.pb p.fx sb wb s * R)) by ac_rfl)))
  have R0 := Lib.hid (Below.drew (Below.refl 0 w) : Ran w w.drew)
  clear h HD hx hmk
  go_enter Tryz.func76, Tryz.ntmps76
  go_upto_region 0 with fail
  refine region_plan (S := (fun w' => w'.cell? ⟨sb, 0, none⟩ = some (slD p.pb) ∧ w'.cell? ⟨p.pb, 67, none⟩ = some (.int .i64 x) ∧ w'.cell? ⟨p.pb, 70, none⟩ = some (.func (.func 47) #[] #[pp p.fx]))) [(0, true), (1, true), (2, true), (3, true), (4, true), (5, true), (6, true), (7, true), (8, false)] (by kernel_rfl) (by kernel_rfl) (by kernel_rfl) ?_ ?_
  · ((try dsimp only); (first | done | (first | exact ⟨z0, c0, c3⟩ | exact ⟨y0, d0, d3⟩)))
  simp only [planOps, List.map_cons, List.map_nil, List.getElem?_toArray, List.getElem?_cons_zero, List.getElem?_cons_succ]
  repeat (first
    | ((refine plan_yes (v := ?_) (by rfl) ?_ ?_); rotate_left; (focus (intro w hSw; (try dsimp only at hSw); go_simp; try (with_reducible rfl))); (try simp only [Act.put, List.setIfInBounds_toArray, List.set_cons_zero, List.set_cons_succ]))
    | ((refine plan_no (by rfl) ?_); (try simp only [Act.put, List.setIfInBounds_toArray, List.set_cons_zero, List.set_cons_succ]))
    | ((refine plan_step (fun K hK => ?_)); (first | ((refine HDw.out.mono ?_; rintro e w4 ⟨rfl, S4, R4⟩; have hS4 := S4.perm (show _ = E * (noteD p.pb p.fx sb wb s * (pcHp p * R)) by ac_rfl); obtain ⟨y0, d0, d1, d2, d3, fz, n0, n1, n2, n3⟩ := HC.out w4 E hS4; have S5 := Lib.hid S4; have R5 := Lib.hid (Below.trans R0.out R4); clear S4 hS4 R4)) | (go_simp; ((refine HDw.out.mono ?_; rintro e w4 ⟨rfl, S4, R4⟩; have hS4 := S4.perm (show _ = E * (noteD p.pb p.fx sb wb s * (pcHp p * R)) by ac_rfl); obtain ⟨y0, d0, d1, d2, d3, fz, n0, n1, n2, n3⟩ := HC.out w4 E hS4; have S5 := Lib.hid S4; have R5 := Lib.hid (Below.trans R0.out R4); clear S4 hS4 R4)); (try go_wp2_with fail)) | go_simp); (refine hK.out _ _ ?_ (fun hHeld => ?_)); (focus ((try dsimp only); (first | done | (first | exact ⟨z0, c0, c3⟩ | exact ⟨y0, d0, d3⟩)))); clear hK K; (try simp only [Act.put, List.setIfInBounds_toArray, List.set_cons_zero, List.set_cons_succ])))
  refine plan_done ?_
  have f0 := fz (67)
  have f1 := fz (68)
  have f2 := fz (69)
  have f3 := fz (70)
  have h6 := pc_dirSlot (S5.out.perm (show _ = pcHp p * (E * (noteD p.pb p.fx sb wb s * R)) by ac_rfl)) s h16
  obtain ⟨-, -, g2, -⟩ := pc_dir h6 h16
  have h7 := pc_same h6 (69) _ g2
  obtain ⟨-, -, -, g3⟩ := pc_dir h7 h16
  have h8 := (pc_same h7 (70) _ g3).perm (show _ = E * (noteD p.pb p.fx sb wb s * (pcHp (p.dirSlot s) * R)) by ac_rfl)
  have R8 := Ran.set (Ran.set (Ran.set (Ran.set R5.out ⟨p.pb, 67, none⟩ (.int .i64 s.has)) ⟨p.pb, 68, none⟩ (.int .i64 s.mark)) ⟨p.pb, 69, none⟩ (fHold p.fx)) ⟨p.pb, 70, none⟩ (fDrop p.fx)
  have hA := Lib.hid (And.intro h8 R8)
  clear S5 R5 h6 g2 h7 g3 h8 R8 fz z0 c0 c1 c2 c3
  go_wp2_with fail
  go_end0
  exact ⟨⟨rfl, hA.out.1⟩, hA.out.2⟩
end Go.Proofs.YteienbdbhnikbaaGreatDoor.Pr

