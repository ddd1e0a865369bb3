/- now walked: the pairs of a map, rising, and the cell. -/
import Derived.Test.YtibgpkcklneloaaUnR
namespace Go.Proofs.Ytibgpkcklneloaa.Undo
open Go.RowKit Go.Proofs.Ytibgpkcklneloaa Go.Proofs.Ytibgpkcklneloaa.Hp
set_option linter.unusedVariables false
attribute [local go_sem] Oper.semAt_some

abbrev stO (p : Option Addr) (n cap : Nat) (c : ByteArray) : Obj := .cells #[.slice p n cap, .string c] 51 (0, 0)
abbrev prArr (p : Option Addr) (cap : Nat) (L : List Pr) : Hp := arr 84 2 p L.length cap (prCells L)
def NowSays (lb mb cb : Nat) (most nest : Int) (m : Mach) (N : Nat) (R : Hp) (e : Ending) (w' : World) : Prop :=
  ∃ p cap L, e = .returned (.agg #[.slice p (List.length L) cap, .string m.s.c]) ∧ PairsOf m.s.M L ∧ ThingsM w' lb mb cb most nest m N (prArr p cap L * R)
def NwRel (lb mb cb : Nat) (most nest : Int) (m : Mach) (N : Nat) (ks : List ByteArray) (R0 : Hp) (xb : Nat) (w : World) (g : Nat) (jv : Value) (wr : World) : Prop :=
  ∃ (j : Nat) (p : Option Addr) (cap : Nat), j + g = ks.length ∧ jv = .int .i64 (j : Int) ∧ ThingsM wr lb mb cb most nest m N (arr 84 2 p j cap (prCells ((pairs m.s.M ks).take j)) * (pts xb (stO p j cap m.s.c) * R0)) ∧ Ran w wr
theorem Things.opens {w : World} {lb mb cb : Nat} {most nest : Int} {hist : List St} {ms : List Nat} {N : Nat} {s : St} {R : Hp} (h : Things w lb mb cb most nest hist ms N s R) :
    ∃ X : Hp, Sat w (X * R) ∧ ∀ w' R', Sat w' (X * R') → Things w' lb mb cb most nest hist ms N s R' := by
  obtain ⟨rs, B, h0, h1, h2, h3, np, nc, qp, qc, HS⟩ := h
  refine ⟨pts lb (logO most nest np (rs.map Rec.val).length nc qp ms.length qc) * (notes np (rs.map Rec.val).length nc (rs.map Rec.val) * (marksA qp qc ms * (all (Rec.own mb cb) rs * (MapAt mb (some ⟨lb, 0, none⟩) B s.M * CellAt cb (some ⟨lb, 0, none⟩) s.c)))), HS.perm (by unfold CellAt; ac_rfl), fun w' R' hs => ⟨rs, B, h0, h1, h2, h3, np, nc, qp, qc, hs.perm (by unfold CellAt; ac_rfl)⟩⟩
theorem Things.drew {w : World} {lb mb cb : Nat} {most nest : Int} {hist : List St} {ms : List Nat} {N : Nat} {s : St} {R : Hp} (h : Things w lb mb cb most nest hist ms N s R) : Things w.drew lb mb cb most nest hist ms N s R := by
  obtain ⟨X, h1, h2⟩ := h.opens
  exact h2 _ _ h1.drew
theorem Things.drewN {w : World} {lb mb cb : Nat} {most nest : Int} {hist : List St} {ms : List Nat} {N : Nat} {s : St} {R : Hp} (h : Things w lb mb cb most nest hist ms N s R) (n : Nat) : Things (w.drewN n) lb mb cb most nest hist ms N s R := by
  obtain ⟨X, h1, h2⟩ := h.opens
  exact h2 _ _ (h1.drewN n)
theorem pairs_take (M : ByteArray → Option Int) (ks : List ByteArray) (j : Nat) (hj : j < ks.length) : (pairs M ks).take (j + 1) = (pairs M ks).take j ++ [(ks[j], (M ks[j]).getD 0)] := by
  unfold pairs
  rw [← List.map_take, ← List.map_take, List.take_succ_eq_append_getElem hj, List.map_append]
  rfl
theorem key_cell {w : World} {kp : Option Addr} {kc : Nat} {ks : List ByteArray} {S : Hp} (h : Sat w (arr 9 1 kp ks.length kc (ks.map sv) * S)) (j : Nat) (hj : j < ks.length) : ∃ kb ko, kp = some ⟨kb, ko, none⟩ := h.arr_addr (by have := h.arr_len.2.1; omega)
theorem key_at {w : World} {kb ko kc : Nat} {ks : List ByteArray} {S : Hp} (h : Sat w (arr 9 1 (some ⟨kb, ko, none⟩) ks.length kc (ks.map sv) * S)) (j : Nat) (hj : j < ks.length) : w.cell? ⟨kb, ko + j, none⟩ = some (.string ks[j]) := by
  rw [h.arr_cell j (by rw [List.length_map]; exact hj), List.getElem_map]
theorem st_cells {w : World} {xb : Nat} {p : Option Addr} {n cap : Nat} {c : ByteArray} {S : Hp} (h : Sat w (pts xb (stO p n cap c) * S)) : w.cell? ⟨xb, 0, none⟩ = some (.slice p n cap) ∧ w.cell? ⟨xb, 1, none⟩ = some (.string c) ∧ ∀ i, w.frozen? ⟨xb, i, none⟩ = false :=
  ⟨by rw [cell_at h.get]; rfl, by rw [cell_at h.get]; rfl, fun i => free_at h.get i⟩
set_option maxRecDepth 100000 in
set_option maxHeartbeats 8000000 in
theorem now_calls (lb mb cb : Nat) (most nest : Int) (m : Mach) (N : Nat) (w : World) (R : Hp) (hN : N ≤ 1000) (h : ThingsM w lb mb cb most nest m N R) (hkl : ∀ ks, KeysOf m.s.M ks → ks.length ≤ 1000000 ∧ ∀ k ∈ ks, k.size ≤ maxLen) :
    Calls Try.prog 24 #[thingsV lb mb cb] w fun e w' => NowSays lb mb cb most nest m N R e w' ∧ Ran w w' := by
  have H2 := (Things.alloc h (tO lb mb cb)).alloc (stO none 0 0 ⟨#[]⟩)
  rw [World.size_alloc] at H2
  obtain ⟨t0, t1, t2⟩ := t_cells (pull1 H2.rest)
  have R2 : Ran w ((w.alloc (tO lb mb cb)).alloc (stO none 0 0 ⟨#[]⟩)) := Ran.new (Ran.new (Below.refl 0 w) _) _
  obtain ⟨w2, hw2⟩ : ∃ w2, w2 = (w.alloc (tO lb mb cb)).alloc (stO none 0 0 ⟨#[]⟩) := ⟨_, rfl⟩
  rw [← hw2] at H2 t0 t1 t2 R2
  have HT := Lib.hid H2
  unfold thingsV
  clear H2 h
  go_enter Try.func24, Try.ntmps24
  go_upto_region 1 with fail
  rw [← hw2]
  clear hw2
  go_wp2_with fail
  refine (cget_things lb mb cb most nest m.hist m.ms N m.s w2 _ HT.out).mono ?_
  rintro e w9 ⟨rfl, rfl⟩
  have H3 := Things.alloc HT.out (stO none 0 0 m.s.c)
  have t1 := (t_cells (pull2 H3.rest)).2.1
  obtain ⟨w3, hw3⟩ : ∃ w3, w3 = w2.alloc (stO none 0 0 m.s.c) := ⟨_, rfl⟩
  rw [← hw3] at H3 t1
  obtain ⟨xb, hxb⟩ : ∃ b, b = w2.heap.size := ⟨_, rfl⟩
  rw [← hxb] at H3
  have R3 : Ran w w3 := by rw [hw3]; exact Ran.new R2 _
  have H3 := Lib.hid H3
  go_upto_region 2 with fail
  rw [← hw3, ← hxb]
  clear hw3 hxb HT t0 t2 R2
  go_wp2_with fail
  refine (keys_things lb mb cb most nest m N w3 _ (by omega) H3.out).mono ?_
  rintro e w4 ⟨⟨kp, kc, ks, rfl, hks, HT4⟩, R4⟩
  have R5 := Below.trans R3 R4
  obtain ⟨hkl1, hkl2⟩ := hkl ks hks
  have HT5 : ThingsM w4 lb mb cb most nest m N (prArr none 0 ((pairs m.s.M ks).take 0) * (pts xb (stO none 0 0 m.s.c) * (arr 9 1 kp ks.length kc (ks.map sv) * (pts (w.heap.size + 1) (stO none 0 0 ⟨#[]⟩) * (pts w.heap.size (tO lb mb cb) * R))))) := by
    refine Things.perm HT4 ?_
    show _ = arr 84 2 none 0 0 [] * _
    rw [arr_nil, emp_sep]
    ac_rfl
  have Hks := Lib.hid hks
  have HT5 := Lib.hid HT5
  clear hkl hks HT4 H3 t1 R3 R4
  go_wp2_with fail
  go_loopg [5] (ks.length) (NwRel lb mb cb most nest m N ks (arr 9 1 kp ks.length kc (ks.map sv) * (pts (w.heap.size + 1) (stO none 0 0 ⟨#[]⟩) * (pts w.heap.size (tO lb mb cb) * R))) xb w)
  case atStart => exact ⟨0, none, 0, by omega, rfl, HT5.out, R5⟩
  case round =>
    clear HT5 R5
    obtain ⟨j, p, cap, hg, rfl, HT, HR⟩ := hrel
    have hj0 : (0 : Int) ≤ j := by omega
    obtain ⟨f1, f2, ft⟩ := t_cells (pull4 HT.rest)
    by_cases hj : j < ks.length
    · have hjl : (j : Int) < (ks.length : Int) := by omega
      obtain ⟨kb, ko, rfl⟩ := key_cell (pull2 HT.rest) j hj
      have kc0 := key_at (pull2 HT.rest) j hj
      have hks2 := hkl2 ks[j] (List.getElem_mem hj)
      have htk := pairs_take m.s.M ks j hj
      have Hkc := Lib.hid (fun (W : World) (S : Hp) (hs : Sat W (arr 9 1 (some ⟨kb, ko, none⟩) ks.length kc (ks.map sv) * S)) => key_at hs j hj)
      have hcall := get_things lb mb cb most nest m.hist m.ms N m.s ks[j] wr.drew _ hks2 (Things.drew HT)
      generalize ks[j] = k at *
      obtain ⟨v, hv⟩ : ∃ v, v = (m.s.M k).getD 0 := ⟨_, rfl⟩
      rw [← hv] at hcall htk
      have Htk := Lib.hid htk
      have Hv := Lib.hid hv
      obtain ⟨bb, hbb⟩ : ∃ v, v = (m.s.M k).isSome := ⟨_, rfl⟩
      rw [← hbb] at hcall
      have Hcall := Lib.hid hcall
      have Hg := Lib.hid hg
      have HT0 := Lib.hid HT
      clear hcall htk hv hbb HT hg hkl2
      go_wp2_with fail
      refine Go.Proofs.Ytibgpkcklneloaa.region_plan (S := (fun w' => w'.cell? ⟨w.heap.size, 1, none⟩ = some (.pointer (some ⟨mb, 0, none⟩)) ∧ w'.cell? ⟨kb, ko + j, none⟩ = some (.string k))) [(0, true), (1, true), (2, true), (3, true), (4, true), (5, true), (6, false), (7, true), (8, true), (9, true), (10, true), (11, true)] (by kernel_rfl) (by kernel_rfl) (by kernel_rfl) ?_ ?_
      · ((try dsimp only); (first | done | (exact ⟨f2, kc0⟩)))
      simp only [Go.Proofs.Ytibgpkcklneloaa.planOps, List.map_cons, List.map_nil, List.getElem?_toArray, List.getElem?_cons_zero, List.getElem?_cons_succ]
      repeat (first
        | ((refine Go.Proofs.Ytibgpkcklneloaa.plan_yes (v := ?_) (by rfl) ?_ ?_); rotate_left; (focus (intro w hSw; (try dsimp only at hSw); go_simp; try (with_reducible rfl))); (try simp only [Act.put, List.setIfInBounds_toArray, List.set_cons_zero, List.set_cons_succ]))
        | ((refine Go.Proofs.Ytibgpkcklneloaa.plan_no (by rfl) ?_); (try simp only [Act.put, List.setIfInBounds_toArray, List.set_cons_zero, List.set_cons_succ]))
        | ((refine Go.Proofs.Ytibgpkcklneloaa.plan_step (fun K hK => ?_)); (first | ((go_at_call 22; refine Hcall.out.mono ?_; rintro e w' ⟨rfl, rfl⟩)) | (go_simp; ((go_at_call 22; refine Hcall.out.mono ?_; rintro e w' ⟨rfl, rfl⟩)); (try go_wp2_with fail)) | go_simp); (refine hK.out _ _ ?_ (fun hHeld => ?_)); (focus ((try dsimp only); (first | done | (exact ⟨f2, kc0⟩)))); clear hK K; (try simp only [Act.put, List.setIfInBounds_toArray, List.set_cons_zero, List.set_cons_succ])))
      refine Go.Proofs.Ytibgpkcklneloaa.plan_done ?_
      go_wp2_with fail
      obtain ⟨w1, hw1⟩ : ∃ w1, w1 = wr.drew := ⟨_, rfl⟩
      have HT1 := Things.drew HT0.out
      rw [← hw1] at HT1
      have HR1 : Ran w w1 := by rw [hw1]; exact Below.drew HR
      rw [← hw1]
      clear hw1 HT0 HR Hcall kc0 f1 f2 ft
      obtain ⟨X, hX, hXb⟩ := Things.opens HT1
      have HXb := Lib.hid hXb
      have hX1 := hX.perm (show _ = arr 84 2 p j cap (prCells ((pairs m.s.M ks).take j)) * (pts xb (stO p j cap m.s.c) * (arr 9 1 (some ⟨kb, ko, none⟩) ks.length kc (ks.map sv) * (pts (w.heap.size + 1) (stO none 0 0 ⟨#[]⟩) * (pts w.heap.size (tO lb mb cb) * (R * X))))) by ac_rfl)
      have T2 := hX1.old (.cells #[.string k, .int .i64 v] 84 (0, 0))
      obtain ⟨x0, x1, xz⟩ := st_cells (pull1 hX1)
      obtain ⟨y0, y1, yz⟩ := st_cells (pull1 T2)
      have k0 := Hkc.out _ _ (pull2 hX1)
      have k2 := Hkc.out _ _ (pull2 T2)
      have RB := Ran.new HR1 (.cells #[.string k, .int .i64 v] 84 (0, 0))
      have hj9 : j ≤ 1000000000 := by omega
      clear hX hXb HT1 hX1
      refine Go.Proofs.Ytibgpkcklneloaa.region_tree (S := (fun w' => w'.cell? ⟨kb, ko + j, none⟩ = some (.string k))) (.take 0 (.take 2 (.take 3 (.take 4 (.take 5 (.take 6 (.take 7 (.fork 1 (.step 8 (.step 9 (.take 10 (.step 11 (.nil))))) 8 (.step 1 (.step 9 (.take 10 (.step 11 (.nil))))))))))))) (by kernel_rfl) (by kernel_rfl) (by kernel_rfl) ?_ ?_
      · ((try dsimp only); (first | done | (first | exact k0 | exact k2 | exact Hkc.out _ _ (pull2 T6) | exact Hkc.out _ _ (pull2 T8))))
      simp only [Go.Proofs.Ytibgpkcklneloaa.Plan.ops, List.getElem?_toArray, List.getElem?_cons_zero, List.getElem?_cons_succ]
      ((first | ((refine Go.Proofs.Ytibgpkcklneloaa.tree_yes (v := ?_) (by rfl) ?_ ?_); rotate_left; (focus (intro w hSw; (try dsimp only at hSw); go_simp; try (with_reducible rfl)))) | (refine Go.Proofs.Ytibgpkcklneloaa.tree_no (by rfl) ?_)); (try simp only [Act.put, List.setIfInBounds_toArray, List.set_cons_zero, List.set_cons_succ]))
      ((first | ((refine Go.Proofs.Ytibgpkcklneloaa.tree_yes (v := ?_) (by rfl) ?_ ?_); rotate_left; (focus (intro w hSw; (try dsimp only at hSw); go_simp; try (with_reducible rfl)))) | (refine Go.Proofs.Ytibgpkcklneloaa.tree_no (by rfl) ?_)); (try simp only [Act.put, List.setIfInBounds_toArray, List.set_cons_zero, List.set_cons_succ]))
      ((first | ((refine Go.Proofs.Ytibgpkcklneloaa.tree_yes (v := ?_) (by rfl) ?_ ?_); rotate_left; (focus (intro w hSw; (try dsimp only at hSw); go_simp; try (with_reducible rfl)))) | (refine Go.Proofs.Ytibgpkcklneloaa.tree_no (by rfl) ?_)); (try simp only [Act.put, List.setIfInBounds_toArray, List.set_cons_zero, List.set_cons_succ]))
      ((first | ((refine Go.Proofs.Ytibgpkcklneloaa.tree_yes (v := ?_) (by rfl) ?_ ?_); rotate_left; (focus (intro w hSw; (try dsimp only at hSw); go_simp; try (with_reducible rfl)))) | (refine Go.Proofs.Ytibgpkcklneloaa.tree_no (by rfl) ?_)); (try simp only [Act.put, List.setIfInBounds_toArray, List.set_cons_zero, List.set_cons_succ]))
      ((first | ((refine Go.Proofs.Ytibgpkcklneloaa.tree_yes (v := ?_) (by rfl) ?_ ?_); rotate_left; (focus (intro w hSw; (try dsimp only at hSw); go_simp; try (with_reducible rfl)))) | (refine Go.Proofs.Ytibgpkcklneloaa.tree_no (by rfl) ?_)); (try simp only [Act.put, List.setIfInBounds_toArray, List.set_cons_zero, List.set_cons_succ]))
      ((first | ((refine Go.Proofs.Ytibgpkcklneloaa.tree_yes (v := ?_) (by rfl) ?_ ?_); rotate_left; (focus (intro w hSw; (try dsimp only at hSw); go_simp; try (with_reducible rfl)))) | (refine Go.Proofs.Ytibgpkcklneloaa.tree_no (by rfl) ?_)); (try simp only [Act.put, List.setIfInBounds_toArray, List.set_cons_zero, List.set_cons_succ]))
      ((first | ((refine Go.Proofs.Ytibgpkcklneloaa.tree_yes (v := ?_) (by rfl) ?_ ?_); rotate_left; (focus (intro w hSw; (try dsimp only at hSw); go_simp; try (with_reducible rfl)))) | (refine Go.Proofs.Ytibgpkcklneloaa.tree_no (by rfl) ?_)); (try simp only [Act.put, List.setIfInBounds_toArray, List.set_cons_zero, List.set_cons_succ]))
      refine Go.Proofs.Ytibgpkcklneloaa.tree_fork (fun K hK => ?_) (fun K hK => ?_)
      focus
        ((first | (refine stepPr rfl _ _ rfl p j cap _ rfl _ rfl T2 (.string k) (.int .i64 v) (blk_new rfl) rfl rfl hj9 ?_; intro p' cap' w6 T6 R6; have HS6 := pull1 T6; obtain ⟨z0, z1, zz⟩ := st_cells HS6; have T8 := pull1 (HS6.set (i := 0) (.slice p' (j + 1) cap'))) | (go_simp; (refine stepPr rfl _ _ rfl p j cap _ rfl _ rfl T2 (.string k) (.int .i64 v) (blk_new rfl) rfl rfl hj9 ?_; intro p' cap' w6 T6 R6; have HS6 := pull1 T6; obtain ⟨z0, z1, zz⟩ := st_cells HS6; have T8 := pull1 (HS6.set (i := 0) (.slice p' (j + 1) cap'))); (try go_wp2_with fail)) | go_simp); (refine hK.out _ _ ?_ (fun hHeld => ?_)); (focus ((try dsimp only); (first | done | (first | exact k0 | exact k2 | exact Hkc.out _ _ (pull2 T6) | exact Hkc.out _ _ (pull2 T8))))); clear hK K; (try simp only [Act.put, List.setIfInBounds_toArray, List.set_cons_zero, List.set_cons_succ]))
        ((refine Go.Proofs.Ytibgpkcklneloaa.tree_step (fun K hK => ?_)); (first | (refine stepPr rfl _ _ rfl p j cap _ rfl _ rfl T2 (.string k) (.int .i64 v) (blk_new rfl) rfl rfl hj9 ?_; intro p' cap' w6 T6 R6; have HS6 := pull1 T6; obtain ⟨z0, z1, zz⟩ := st_cells HS6; have T8 := pull1 (HS6.set (i := 0) (.slice p' (j + 1) cap'))) | (go_simp; (refine stepPr rfl _ _ rfl p j cap _ rfl _ rfl T2 (.string k) (.int .i64 v) (blk_new rfl) rfl rfl hj9 ?_; intro p' cap' w6 T6 R6; have HS6 := pull1 T6; obtain ⟨z0, z1, zz⟩ := st_cells HS6; have T8 := pull1 (HS6.set (i := 0) (.slice p' (j + 1) cap'))); (try go_wp2_with fail)) | go_simp); (refine hK.out _ _ ?_ (fun hHeld => ?_)); (focus ((try dsimp only); (first | done | (first | exact k0 | exact k2 | exact Hkc.out _ _ (pull2 T6) | exact Hkc.out _ _ (pull2 T8))))); clear hK K; (try simp only [Act.put, List.setIfInBounds_toArray, List.set_cons_zero, List.set_cons_succ]))
        ((refine Go.Proofs.Ytibgpkcklneloaa.tree_step (fun K hK => ?_)); (first | (refine stepPr rfl _ _ rfl p j cap _ rfl _ rfl T2 (.string k) (.int .i64 v) (blk_new rfl) rfl rfl hj9 ?_; intro p' cap' w6 T6 R6; have HS6 := pull1 T6; obtain ⟨z0, z1, zz⟩ := st_cells HS6; have T8 := pull1 (HS6.set (i := 0) (.slice p' (j + 1) cap'))) | (go_simp; (refine stepPr rfl _ _ rfl p j cap _ rfl _ rfl T2 (.string k) (.int .i64 v) (blk_new rfl) rfl rfl hj9 ?_; intro p' cap' w6 T6 R6; have HS6 := pull1 T6; obtain ⟨z0, z1, zz⟩ := st_cells HS6; have T8 := pull1 (HS6.set (i := 0) (.slice p' (j + 1) cap'))); (try go_wp2_with fail)) | go_simp); (refine hK.out _ _ ?_ (fun hHeld => ?_)); (focus ((try dsimp only); (first | done | (first | exact k0 | exact k2 | exact Hkc.out _ _ (pull2 T6) | exact Hkc.out _ _ (pull2 T8))))); clear hK K; (try simp only [Act.put, List.setIfInBounds_toArray, List.set_cons_zero, List.set_cons_succ]))
        ((first | ((refine Go.Proofs.Ytibgpkcklneloaa.tree_yes (v := ?_) (by rfl) ?_ ?_); rotate_left; (focus (intro w hSw; (try dsimp only at hSw); go_simp; try (with_reducible rfl)))) | (refine Go.Proofs.Ytibgpkcklneloaa.tree_no (by rfl) ?_)); (try simp only [Act.put, List.setIfInBounds_toArray, List.set_cons_zero, List.set_cons_succ]))
        ((refine Go.Proofs.Ytibgpkcklneloaa.tree_step (fun K hK => ?_)); (first | (refine stepPr rfl _ _ rfl p j cap _ rfl _ rfl T2 (.string k) (.int .i64 v) (blk_new rfl) rfl rfl hj9 ?_; intro p' cap' w6 T6 R6; have HS6 := pull1 T6; obtain ⟨z0, z1, zz⟩ := st_cells HS6; have T8 := pull1 (HS6.set (i := 0) (.slice p' (j + 1) cap'))) | (go_simp; (refine stepPr rfl _ _ rfl p j cap _ rfl _ rfl T2 (.string k) (.int .i64 v) (blk_new rfl) rfl rfl hj9 ?_; intro p' cap' w6 T6 R6; have HS6 := pull1 T6; obtain ⟨z0, z1, zz⟩ := st_cells HS6; have T8 := pull1 (HS6.set (i := 0) (.slice p' (j + 1) cap'))); (try go_wp2_with fail)) | go_simp); (refine hK.out _ _ ?_ (fun hHeld => ?_)); (focus ((try dsimp only); (first | done | (first | exact k0 | exact k2 | exact Hkc.out _ _ (pull2 T6) | exact Hkc.out _ _ (pull2 T8))))); clear hK K; (try simp only [Act.put, List.setIfInBounds_toArray, List.set_cons_zero, List.set_cons_succ]))
        refine Go.Proofs.Ytibgpkcklneloaa.tree_done ?_
      rotate_left 1
      focus
        ((first | (refine stepPr rfl _ _ rfl p j cap _ rfl _ rfl T2 (.string k) (.int .i64 v) (blk_new rfl) rfl rfl hj9 ?_; intro p' cap' w6 T6 R6; have HS6 := pull1 T6; obtain ⟨z0, z1, zz⟩ := st_cells HS6; have T8 := pull1 (HS6.set (i := 0) (.slice p' (j + 1) cap'))) | (go_simp; (refine stepPr rfl _ _ rfl p j cap _ rfl _ rfl T2 (.string k) (.int .i64 v) (blk_new rfl) rfl rfl hj9 ?_; intro p' cap' w6 T6 R6; have HS6 := pull1 T6; obtain ⟨z0, z1, zz⟩ := st_cells HS6; have T8 := pull1 (HS6.set (i := 0) (.slice p' (j + 1) cap'))); (try go_wp2_with fail)) | go_simp); (refine hK.out _ _ ?_ (fun hHeld => ?_)); (focus ((try dsimp only); (first | done | (first | exact k0 | exact k2 | exact Hkc.out _ _ (pull2 T6) | exact Hkc.out _ _ (pull2 T8))))); clear hK K; (try simp only [Act.put, List.setIfInBounds_toArray, List.set_cons_zero, List.set_cons_succ]))
        ((refine Go.Proofs.Ytibgpkcklneloaa.tree_step (fun K hK => ?_)); (first | (refine stepPr rfl _ _ rfl p j cap _ rfl _ rfl T2 (.string k) (.int .i64 v) (blk_new rfl) rfl rfl hj9 ?_; intro p' cap' w6 T6 R6; have HS6 := pull1 T6; obtain ⟨z0, z1, zz⟩ := st_cells HS6; have T8 := pull1 (HS6.set (i := 0) (.slice p' (j + 1) cap'))) | (go_simp; (refine stepPr rfl _ _ rfl p j cap _ rfl _ rfl T2 (.string k) (.int .i64 v) (blk_new rfl) rfl rfl hj9 ?_; intro p' cap' w6 T6 R6; have HS6 := pull1 T6; obtain ⟨z0, z1, zz⟩ := st_cells HS6; have T8 := pull1 (HS6.set (i := 0) (.slice p' (j + 1) cap'))); (try go_wp2_with fail)) | go_simp); (refine hK.out _ _ ?_ (fun hHeld => ?_)); (focus ((try dsimp only); (first | done | (first | exact k0 | exact k2 | exact Hkc.out _ _ (pull2 T6) | exact Hkc.out _ _ (pull2 T8))))); clear hK K; (try simp only [Act.put, List.setIfInBounds_toArray, List.set_cons_zero, List.set_cons_succ]))
        ((refine Go.Proofs.Ytibgpkcklneloaa.tree_step (fun K hK => ?_)); (first | (refine stepPr rfl _ _ rfl p j cap _ rfl _ rfl T2 (.string k) (.int .i64 v) (blk_new rfl) rfl rfl hj9 ?_; intro p' cap' w6 T6 R6; have HS6 := pull1 T6; obtain ⟨z0, z1, zz⟩ := st_cells HS6; have T8 := pull1 (HS6.set (i := 0) (.slice p' (j + 1) cap'))) | (go_simp; (refine stepPr rfl _ _ rfl p j cap _ rfl _ rfl T2 (.string k) (.int .i64 v) (blk_new rfl) rfl rfl hj9 ?_; intro p' cap' w6 T6 R6; have HS6 := pull1 T6; obtain ⟨z0, z1, zz⟩ := st_cells HS6; have T8 := pull1 (HS6.set (i := 0) (.slice p' (j + 1) cap'))); (try go_wp2_with fail)) | go_simp); (refine hK.out _ _ ?_ (fun hHeld => ?_)); (focus ((try dsimp only); (first | done | (first | exact k0 | exact k2 | exact Hkc.out _ _ (pull2 T6) | exact Hkc.out _ _ (pull2 T8))))); clear hK K; (try simp only [Act.put, List.setIfInBounds_toArray, List.set_cons_zero, List.set_cons_succ]))
        ((first | ((refine Go.Proofs.Ytibgpkcklneloaa.tree_yes (v := ?_) (by rfl) ?_ ?_); rotate_left; (focus (intro w hSw; (try dsimp only at hSw); go_simp; try (with_reducible rfl)))) | (refine Go.Proofs.Ytibgpkcklneloaa.tree_no (by rfl) ?_)); (try simp only [Act.put, List.setIfInBounds_toArray, List.set_cons_zero, List.set_cons_succ]))
        ((refine Go.Proofs.Ytibgpkcklneloaa.tree_step (fun K hK => ?_)); (first | (refine stepPr rfl _ _ rfl p j cap _ rfl _ rfl T2 (.string k) (.int .i64 v) (blk_new rfl) rfl rfl hj9 ?_; intro p' cap' w6 T6 R6; have HS6 := pull1 T6; obtain ⟨z0, z1, zz⟩ := st_cells HS6; have T8 := pull1 (HS6.set (i := 0) (.slice p' (j + 1) cap'))) | (go_simp; (refine stepPr rfl _ _ rfl p j cap _ rfl _ rfl T2 (.string k) (.int .i64 v) (blk_new rfl) rfl rfl hj9 ?_; intro p' cap' w6 T6 R6; have HS6 := pull1 T6; obtain ⟨z0, z1, zz⟩ := st_cells HS6; have T8 := pull1 (HS6.set (i := 0) (.slice p' (j + 1) cap'))); (try go_wp2_with fail)) | go_simp); (refine hK.out _ _ ?_ (fun hHeld => ?_)); (focus ((try dsimp only); (first | done | (first | exact k0 | exact k2 | exact Hkc.out _ _ (pull2 T6) | exact Hkc.out _ _ (pull2 T8))))); clear hK K; (try simp only [Act.put, List.setIfInBounds_toArray, List.set_cons_zero, List.set_cons_succ]))
        refine Go.Proofs.Ytibgpkcklneloaa.tree_done ?_
      all_goals
        have T9 := HXb.out _ (arr 84 2 p' (j + 1) cap' (prCells ((pairs m.s.M ks).take (j + 1))) * (pts xb (stO p' (j + 1) cap' m.s.c) * (arr 9 1 (some ⟨kb, ko, none⟩) ks.length kc (ks.map sv) * (pts (w.heap.size + 1) (stO none 0 0 ⟨#[]⟩) * (pts w.heap.size (tO lb mb cb) * R))))) (T8.perm (by rw [Htk.out, prCells_append]; show arr 84 2 p' (j + 1) cap' (prCells ((pairs m.s.M ks).take j) ++ [.string k, .int .i64 v]) * (pts xb (stO p' (j + 1) cap' m.s.c) * _) = X * (arr 84 2 p' (j + 1) cap' (prCells ((pairs m.s.M ks).take j) ++ [.string k, .int .i64 v]) * _); ac_rfl))
        have R9 : Ran w (w6.setCell ⟨xb, 0, none⟩ (.slice p' (j + 1) cap')) := Ran.set (Below.trans (Below.drew RB) R6) _ _
        clear T6 HS6 T8 z0 z1 zz x0 x1 xz y0 y1 yz k0 k2 T2
        go_wp2_with fail
        go_roundg (gk - 1)
        case measure => have := Hg.out; omega
        case rel => exact ⟨j + 1, p', cap', by have := Hg.out; omega, rfl, T9, R9⟩
    · have hjl : ¬ ((j : Int) < (ks.length : Int)) := by omega
      have hjk : j = ks.length := by omega
      have hpl : (pairs m.s.M ks).length = ks.length := by unfold pairs; rw [List.length_map]
      rw [hjk, List.take_of_length_le (show (pairs m.s.M ks).length ≤ ks.length by omega)] at HT
      obtain ⟨X, hX, hXb⟩ := Things.opens HT
      have hX1 := hX.perm (show _ = pts (w.heap.size + 1) (stO none 0 0 ⟨#[]⟩) * (pts xb (stO p ks.length cap m.s.c) * (arr 84 2 p ks.length cap (prCells (pairs m.s.M ks)) * (arr 9 1 kp ks.length kc (ks.map sv) * (pts w.heap.size (tO lb mb cb) * (R * X))))) by ac_rfl)
      obtain ⟨z0, z1, zz⟩ := st_cells hX1
      obtain ⟨x0, x1, xz⟩ := st_cells (pull1 hX1)
      have hS := (hX1.set (i := 0) (.slice p ks.length cap)).set (i := 1) (.string m.s.c)
      obtain ⟨w8, hw8⟩ : ∃ w8, w8 = (wr.setCell ⟨w.heap.size + 1, 0, none⟩ (.slice p ks.length cap)).setCell ⟨w.heap.size + 1, 1, none⟩ (.string m.s.c) := ⟨_, rfl⟩
      rw [← hw8] at hS
      have R8 : Ran w w8 := by rw [hw8]; exact Ran.set (Ran.set HR _ _) _ _
      have hS : Sat w8 (pts (w.heap.size + 1) (stO p ks.length cap m.s.c) * (pts xb (stO p ks.length cap m.s.c) * (arr 84 2 p ks.length cap (prCells (pairs m.s.M ks)) * (arr 9 1 kp ks.length kc (ks.map sv) * (pts w.heap.size (tO lb mb cb) * (R * X)))))) := hS
      obtain ⟨r0, r1, rz⟩ := st_cells hS
      have hT8 : ThingsM w8 lb mb cb most nest m N (prArr p cap (pairs m.s.M ks) * R) := by
        have h8 := hXb w8 (pts (w.heap.size + 1) (stO p ks.length cap m.s.c) * (pts xb (stO p ks.length cap m.s.c) * (arr 9 1 kp ks.length kc (ks.map sv) * (pts w.heap.size (tO lb mb cb) * (arr 84 2 p ks.length cap (prCells (pairs m.s.M ks)) * R))))) (hS.perm (by ac_rfl))
        unfold prArr
        rw [hpl]
        exact h8.drop.drop.drop.drop
      have Hfin := Lib.hid (show NowSays lb mb cb most nest m N R (.returned (.agg #[.slice p ks.length cap, .string m.s.c])) w8 from ⟨p, cap, pairs m.s.M ks, by rw [hpl], pairs_of Hks.out, hT8⟩)
      clear hT8 hS hX1 hX hXb HT f1 f2 ft
      subst hjk
      go_wp2_with fail
      rw [← hw8]
      clear hw8
      refine bodyPost_ret (v := .agg #[.slice p ks.length cap, .string m.s.c]) (by simp [results, Try.results24, go_sem, r0, r1]) rfl ⟨Hfin.out, R8⟩
end Go.Proofs.Ytibgpkcklneloaa.Undo
