/- HandlesPlays, part 26 of 29: the texts SvR, joined by a program. -/
import Derived.Test.YtlmjidandjemjaaGreatDoorSp25
namespace Go.Proofs.YtlmjidandjemjaaGreatDoor.State
open Go.RowKit Go.Proofs.YtlmjidandjemjaaGreatDoor Go.Proofs.YtlmjidandjemjaaGreatDoor.Hp Go.Proofs.YtlmjidandjemjaaGreatDoor.Undo
set_option linter.unusedVariables false
attribute [local go_sem] Oper.semAt_some

theorem Dr.le {A : Hp} {n : Now} {c e : Nat} {d : Dw} {s : Sr} (h : Dr A n c d s) (hd : c ≤ e) (ht : e ≤ 90000) : Dr A n e d s := ⟨h.g.le hd ht, h.cps, fun x hx => ⟨(h.w x hx).1, (h.w x hx).2.le hd ht⟩⟩
theorem ptrs_snoc (ws : List (Nat × Sr)) (x : Nat × Sr) : ptrs (ws ++ [x]) = ptrs ws ++ [pp x.1] := by unfold ptrs; rw [List.map_append]; rfl
theorem ptrs_len (ws : List (Nat × Sr)) : (ptrs ws).length = ws.length := by unfold ptrs; rw [List.length_map]
theorem srs_snoc (ws : List (Nat × Sr)) (x : Nat × Sr) : srs (ws ++ [x]) = pts x.1 (srO x.2) * srs ws := all_snoc _ ws x
set_option maxRecDepth 100000 in
set_option maxHeartbeats 8000000 in
theorem asked_16 (K : Ctx) (n m : Now) (en : Int) (o : Opr) (c : Nat) (A F : Hp) (d : Dw) (s : Sr) (w : World) (ha : askI o = 16) (hd : (en, m) = n.markM K.nest) (hr : Room K.most n) (hns : K.nest = 20) (hms : n.ms.length ≤ 20) (hf : FitD n o w) (hc : c ≤ 80000) (hD : Dr A n c d s) (h : Sat w (pts d.b (srO s) * (A * (dwHp d * F)))) :
    Calls Tryz.prog 31 #[pp d.ab, opA o] w (AskR d.ab (c + 1) F w en m) := by
  have S1 := h.alloc (opO o)
  have HAk := ask_calls o (w.alloc (opO o)) hf.ask
  rw [ha] at HAk
  have RR : Ran w (w.alloc (opO o)) := Ran.new (Below.refl 0 w) _
  have hp1 := hf.p.below ((Below.refl _ w).alloc (Nat.le_refl _) (opO o))
  obtain ⟨w2, hw2⟩ : ∃ w2, w2 = w.alloc (opO o) := ⟨_, rfl⟩
  obtain ⟨xb, hxb⟩ : ∃ b, b = w.heap.size := ⟨_, rfl⟩
  rw [← hw2, ← hxb] at S1
  rw [← hw2] at HAk RR hp1
  obtain ⟨e0, e1, e2, e3, e4⟩ := op_cells S1
  obtain ⟨k0, k1, kf⟩ := dw_cells (S1.perm (show _ = dwHp d * (pts xb (opO o) * (pts d.b (srO s) * (A * F))) by ac_rfl))
  have S2 := Lib.hid (S1.perm (show _ = pts d.b (srO s) * (A * (dwHp d * (pts xb (opO o) * F))) by ac_rfl))
  have HAk := Lib.hid HAk
  have RR := Lib.hid RR
  have HF := Lib.hid hf
  have HP := Lib.hid hp1
  have HDr := Lib.hid hD
  have Hr := Lib.hid hr
  have Hd := Lib.hid hd
  clear h ha S1 hf hp1 hD hr hd
  go_enter Tryz.func31, Tryz.ntmps31
  go_upto_region 1 with fail
  rw [← hw2, ← hxb]
  clear hw2 hxb
  go_wp2_with fail
  refine HAk.out.mono ?_
  rintro e w3 ⟨rfl, hB⟩
  have S3 := S2.out.below hB
  have R3 := Lib.hid (Below.trans RR.out (hB.mono (Nat.zero_le _)))
  have HP3 := Lib.hid (HP.out.below hB)
  clear e0 e1 e2 e3 e4 k0 k1 kf
  obtain ⟨e0, e1, e2, e3, e4⟩ := op_cells (S3.perm (show _ = pts xb (opO o) * (pts d.b (srO s) * (A * (dwHp d * F))) by ac_rfl))
  obtain ⟨k0, k1, kf⟩ := dw_cells (S3.perm (show _ = dwHp d * (pts xb (opO o) * (pts d.b (srO s) * (A * F))) by ac_rfl))
  have kf1 := kf 1
  have hlen := HDr.out.len
  by_cases c20 : n.ms.length = 20
  · have hmm : n.markM K.nest = (42, n) := by unfold Now.markM; rw [if_pos (by rw [hns]; omega)]
    have hA := Lib.hid (show AskR d.ab (c + 1) F w en m (.returned (.int .i64 42)) w3 from by
      have hq := Hd.out
      rw [hmm] at hq
      injection hq with h1 h2
      rw [h1, h2]
      exact ⟨⟨rfl, A, d, s, rfl, HDr.out.le (by omega) (by omega), (S3.perm (show _ = pts xb (opO o) * (pts d.b (srO s) * (A * (dwHp d * F))) by ac_rfl)).right⟩, R3.out⟩)
    have hwl : d.ws.length = 20 := by omega
    rw [hwl] at k1
    clear S3 S2 HAk RR hB HP Hr Hd HDr hlen c20 hmm hwl
    go_wp2_with fail
    go_ret
    exact hA.out
  · have hmm : n.markM K.nest = (0, { n with ms := n.ms ++ [n.hist.length] }) := by unfold Now.markM; rw [if_neg (by rw [hns]; omega)]
    have hwI : ¬ (d.ws.length : Int) ≥ 20 := by omega
    have hwI2 : (d.ws.length : Int) < 20 := by omega
    have hwn : d.ws.length ≤ 20 := by omega
    obtain ⟨cb, hcb⟩ : ∃ cb, cb = w3.drew.heap.size := ⟨_, rfl⟩
    have HCp := rcopy_calls d.b s _ w3.drew S3.drew
    have S4 := S3.drew.alloc (srO s)
    rw [← hcb] at S4 HCp
    have R4 := Ran.new (Ran.drewN R3.out 1) (srO s)
    obtain ⟨w4, hw4⟩ : ∃ w4, w4 = w3.drew.alloc (srO s) := ⟨_, rfl⟩
    have R4' : Ran w w4 := by rw [hw4]; exact R4
    rw [← hw4] at S4 HCp
    have HA := S4.old (.cells #[pp cb] 59 (0, 0))
    have HX := heap_alloc_new w4 (.cells #[pp cb] 59 (0, 0))
    have HA2 := Lib.hid (HA.perm (show _ = ptA d.wp d.wc d.ws * (pts d.ab (allO d.b d.wp d.ws.length d.wc) * (pts cb (srO s) * (pts d.b (srO s) * (A * (srs d.ws * (pts xb (opO o) * F)))))) by unfold dwHp; ac_rfl))
    have HX := Lib.hid HX
    have RA := Lib.hid (Ran.new R4' (.cells #[pp cb] 59 (0, 0)))
    have HCp := Lib.hid HCp
    have HFin := Lib.hid (fun (p' : Option Addr) (cap' : Nat) (w6 : World) (T6 : Sat w6 (arr 59 1 p' (d.ws.length + 1) cap' (ptrs d.ws ++ [pp cb]) * (pts d.ab (allO d.b d.wp d.ws.length d.wc) * (pts cb (srO s) * (pts d.b (srO s) * (A * (srs d.ws * (pts xb (opO o) * F)))))))) (R6 : Ran w w6) => (by
      have hq := Hd.out
      rw [hmm] at hq
      injection hq with h1 h2
      have hcps := HDr.out.cps.mark
      have hG := HDr.out.g
      rw [h1, h2]
      refine ⟨⟨rfl, A, { d with wp := p', wc := cap', ws := d.ws ++ [(cb, s)] }, s, rfl, ⟨⟨hcps.now, hG.ok, hG.sm.le (by omega) (by omega)⟩, by rw [List.map_append]; exact hcps, fun x hx => ?_⟩, ?_⟩, Ran.set R6 ⟨d.ab, 1, none⟩ (.slice p' (d.ws.length + 1) cap')⟩
      · rcases List.mem_append.1 hx with hx | hx
        · exact ⟨(HDr.out.w x hx).1, (HDr.out.w x hx).2.le (by omega) (by omega)⟩
        · rw [List.mem_singleton] at hx; rw [hx]; exact ⟨hG.ok, hG.sm.le (by omega) (by omega)⟩
      · have T7 := (T6.perm (show _ = pts d.ab (allO d.b d.wp d.ws.length d.wc) * (arr 59 1 p' (d.ws.length + 1) cap' (ptrs d.ws ++ [pp cb]) * (pts cb (srO s) * (pts d.b (srO s) * (A * (srs d.ws * (pts xb (opO o) * F)))))) by ac_rfl)).set (i := 1) (.slice p' (d.ws.length + 1) cap')
        have T8 := (T7.perm (show _ = pts xb (opO o) * (pts d.b (srO s) * (A * ((pts d.ab (allO d.b p' (d.ws.length + 1) cap') * (arr 59 1 p' (d.ws.length + 1) cap' (ptrs d.ws ++ [pp cb]) * (pts cb (srO s) * srs d.ws))) * F))) by show pts d.ab (allO d.b p' (d.ws.length + 1) cap') * _ = _; ac_rfl)).right
        unfold dwHp ptA
        rw [ptrs_snoc, srs_snoc, List.length_append]
        exact T8 : AskR d.ab (c + 1) F w en m (.returned (.int .i64 0)) (w6.setCell ⟨d.ab, 1, none⟩ (.slice p' (d.ws.length + 1) cap'))))
    have HCel := Lib.hid (fun (W : World) (X : Hp) (hX : Sat W (X * (pts d.ab (allO d.b d.wp d.ws.length d.wc) * (pts cb (srO s) * (pts d.b (srO s) * (A * (srs d.ws * (pts xb (opO o) * F)))))))) => al_cells (hX.perm (show _ = pts d.ab (allO d.b d.wp d.ws.length d.wc) * (X * (pts cb (srO s) * (pts d.b (srO s) * (A * (srs d.ws * (pts xb (opO o) * F)))))) by ac_rfl)))
    obtain ⟨-, a1, -⟩ := HCel.out _ _ HA2.out
    obtain ⟨dab, hdab⟩ : ∃ x, x = d.ab := ⟨_, rfl⟩
    obtain ⟨-, kw4, -⟩ := al_cells (S4.perm (show _ = pts d.ab (allO d.b d.wp d.ws.length d.wc) * (ptA d.wp d.wc d.ws * (srs d.ws * (pts cb (srO s) * (pts d.b (srO s) * (A * (pts xb (opO o) * F)))))) by unfold dwHp; ac_rfl))
    clear S3 S2 HAk RR hB HP Hr Hd HDr hlen c20 hmm S4 HA R4 hms hns kf k0 hw4 hdab hcb
    go_upto_region 40 with fail
    refine region_tree (S := (fun _ => True)) (.take 0 (.take 1 (.take 2 (.take 3 (.take 5 (.fork 4 (.step 6 (.step 7 (.step 8 (.take 9 (.take 10 (.step 11 (.nil))))))) 6 (.fork 4 (.step 7 (.step 8 (.take 9 (.take 10 (.step 11 (.nil)))))) 7 (.step 4 (.step 8 (.take 9 (.take 10 (.step 11 (.nil))))))))))))) (by kernel_rfl) (by kernel_rfl) (by kernel_rfl) ?_ ?_
    · ((try dsimp only); (first | done | (trivial)))
    simp only [Plan.ops, List.getElem?_toArray, List.getElem?_cons_zero, List.getElem?_cons_succ]
    ((first | ((refine tree_yes (v := ?_) (by rfl) ?_ ?_); rotate_left; (focus (intro w hSw; (try dsimp only at hSw); go_simp; try (with_reducible rfl)))) | (refine tree_no (by rfl) ?_)); (try simp only [Act.put, List.setIfInBounds_toArray, List.set_cons_zero, List.set_cons_succ]))
    ((first | ((refine tree_yes (v := ?_) (by rfl) ?_ ?_); rotate_left; (focus (intro w hSw; (try dsimp only at hSw); go_simp; try (with_reducible rfl)))) | (refine tree_no (by rfl) ?_)); (try simp only [Act.put, List.setIfInBounds_toArray, List.set_cons_zero, List.set_cons_succ]))
    ((first | ((refine tree_yes (v := ?_) (by rfl) ?_ ?_); rotate_left; (focus (intro w hSw; (try dsimp only at hSw); go_simp; try (with_reducible rfl)))) | (refine tree_no (by rfl) ?_)); (try simp only [Act.put, List.setIfInBounds_toArray, List.set_cons_zero, List.set_cons_succ]))
    ((first | ((refine tree_yes (v := ?_) (by rfl) ?_ ?_); rotate_left; (focus (intro w hSw; (try dsimp only at hSw); go_simp; try (with_reducible rfl)))) | (refine tree_no (by rfl) ?_)); (try simp only [Act.put, List.setIfInBounds_toArray, List.set_cons_zero, List.set_cons_succ]))
    ((first | ((refine tree_yes (v := ?_) (by rfl) ?_ ?_); rotate_left; (focus (intro w hSw; (try dsimp only at hSw); go_simp; try (with_reducible rfl)))) | (refine tree_no (by rfl) ?_)); (try simp only [Act.put, List.setIfInBounds_toArray, List.set_cons_zero, List.set_cons_succ]))
    refine tree_fork (fun K hK => ?_) (fun K hK => ?_)
    focus
      ((first | (first | (go_at_call 88; refine HCp.out.mono ?_; rintro e w5 ⟨rfl, rfl⟩) | (refine stepPt rfl _ _ rfl d.wp d.ws.length d.wc _ rfl w4.heap.size (pp cb) rfl HA2.out HX.out rfl (by omega) ?_; intro p' cap' w6 T6 R6; obtain ⟨-, t1, tf⟩ := HCel.out w6 _ T6; have tf1 := tf 1; have hA := Lib.hid (HFin.out p' cap' w6 T6 (Below.trans RA.out R6)); clear T6 R6 tf)) | (go_simp; (first | (go_at_call 88; refine HCp.out.mono ?_; rintro e w5 ⟨rfl, rfl⟩) | (refine stepPt rfl _ _ rfl d.wp d.ws.length d.wc _ rfl w4.heap.size (pp cb) rfl HA2.out HX.out rfl (by omega) ?_; intro p' cap' w6 T6 R6; obtain ⟨-, t1, tf⟩ := HCel.out w6 _ T6; have tf1 := tf 1; have hA := Lib.hid (HFin.out p' cap' w6 T6 (Below.trans RA.out R6)); clear T6 R6 tf)); (try go_wp2_with fail)) | go_simp); (refine hK.out _ _ ?_ (fun hHeld => ?_)); (focus ((try dsimp only); (first | done | (trivial)))); clear hK K; (try simp only [Act.put, List.setIfInBounds_toArray, List.set_cons_zero, List.set_cons_succ]))
      ((refine tree_step (fun K hK => ?_)); (first | (first | (go_at_call 88; refine HCp.out.mono ?_; rintro e w5 ⟨rfl, rfl⟩) | (refine stepPt rfl _ _ rfl d.wp d.ws.length d.wc _ rfl w4.heap.size (pp cb) rfl HA2.out HX.out rfl (by omega) ?_; intro p' cap' w6 T6 R6; obtain ⟨-, t1, tf⟩ := HCel.out w6 _ T6; have tf1 := tf 1; have hA := Lib.hid (HFin.out p' cap' w6 T6 (Below.trans RA.out R6)); clear T6 R6 tf)) | (go_simp; (first | (go_at_call 88; refine HCp.out.mono ?_; rintro e w5 ⟨rfl, rfl⟩) | (refine stepPt rfl _ _ rfl d.wp d.ws.length d.wc _ rfl w4.heap.size (pp cb) rfl HA2.out HX.out rfl (by omega) ?_; intro p' cap' w6 T6 R6; obtain ⟨-, t1, tf⟩ := HCel.out w6 _ T6; have tf1 := tf 1; have hA := Lib.hid (HFin.out p' cap' w6 T6 (Below.trans RA.out R6)); clear T6 R6 tf)); (try go_wp2_with fail)) | go_simp); (refine hK.out _ _ ?_ (fun hHeld => ?_)); (focus ((try dsimp only); (first | done | (trivial)))); clear hK K; (try simp only [Act.put, List.setIfInBounds_toArray, List.set_cons_zero, List.set_cons_succ]))
      ((refine tree_step (fun K hK => ?_)); (first | (first | (go_at_call 88; refine HCp.out.mono ?_; rintro e w5 ⟨rfl, rfl⟩) | (refine stepPt rfl _ _ rfl d.wp d.ws.length d.wc _ rfl w4.heap.size (pp cb) rfl HA2.out HX.out rfl (by omega) ?_; intro p' cap' w6 T6 R6; obtain ⟨-, t1, tf⟩ := HCel.out w6 _ T6; have tf1 := tf 1; have hA := Lib.hid (HFin.out p' cap' w6 T6 (Below.trans RA.out R6)); clear T6 R6 tf)) | (go_simp; (first | (go_at_call 88; refine HCp.out.mono ?_; rintro e w5 ⟨rfl, rfl⟩) | (refine stepPt rfl _ _ rfl d.wp d.ws.length d.wc _ rfl w4.heap.size (pp cb) rfl HA2.out HX.out rfl (by omega) ?_; intro p' cap' w6 T6 R6; obtain ⟨-, t1, tf⟩ := HCel.out w6 _ T6; have tf1 := tf 1; have hA := Lib.hid (HFin.out p' cap' w6 T6 (Below.trans RA.out R6)); clear T6 R6 tf)); (try go_wp2_with fail)) | go_simp); (refine hK.out _ _ ?_ (fun hHeld => ?_)); (focus ((try dsimp only); (first | done | (trivial)))); clear hK K; (try simp only [Act.put, List.setIfInBounds_toArray, List.set_cons_zero, List.set_cons_succ]))
      ((refine tree_step (fun K hK => ?_)); (first | (first | (go_at_call 88; refine HCp.out.mono ?_; rintro e w5 ⟨rfl, rfl⟩) | (refine stepPt rfl _ _ rfl d.wp d.ws.length d.wc _ rfl w4.heap.size (pp cb) rfl HA2.out HX.out rfl (by omega) ?_; intro p' cap' w6 T6 R6; obtain ⟨-, t1, tf⟩ := HCel.out w6 _ T6; have tf1 := tf 1; have hA := Lib.hid (HFin.out p' cap' w6 T6 (Below.trans RA.out R6)); clear T6 R6 tf)) | (go_simp; (first | (go_at_call 88; refine HCp.out.mono ?_; rintro e w5 ⟨rfl, rfl⟩) | (refine stepPt rfl _ _ rfl d.wp d.ws.length d.wc _ rfl w4.heap.size (pp cb) rfl HA2.out HX.out rfl (by omega) ?_; intro p' cap' w6 T6 R6; obtain ⟨-, t1, tf⟩ := HCel.out w6 _ T6; have tf1 := tf 1; have hA := Lib.hid (HFin.out p' cap' w6 T6 (Below.trans RA.out R6)); clear T6 R6 tf)); (try go_wp2_with fail)) | go_simp); (refine hK.out _ _ ?_ (fun hHeld => ?_)); (focus ((try dsimp only); (first | done | (trivial)))); clear hK K; (try simp only [Act.put, List.setIfInBounds_toArray, List.set_cons_zero, List.set_cons_succ]))
      ((first | ((refine tree_yes (v := ?_) (by rfl) ?_ ?_); rotate_left; (focus (intro w hSw; (try dsimp only at hSw); go_simp; try (with_reducible rfl)))) | (refine tree_no (by rfl) ?_)); (try simp only [Act.put, List.setIfInBounds_toArray, List.set_cons_zero, List.set_cons_succ]))
      ((first | ((refine tree_yes (v := ?_) (by rfl) ?_ ?_); rotate_left; (focus (intro w hSw; (try dsimp only at hSw); go_simp; try (with_reducible rfl)))) | (refine tree_no (by rfl) ?_)); (try simp only [Act.put, List.setIfInBounds_toArray, List.set_cons_zero, List.set_cons_succ]))
      ((refine tree_step (fun K hK => ?_)); (first | (first | (go_at_call 88; refine HCp.out.mono ?_; rintro e w5 ⟨rfl, rfl⟩) | (refine stepPt rfl _ _ rfl d.wp d.ws.length d.wc _ rfl w4.heap.size (pp cb) rfl HA2.out HX.out rfl (by omega) ?_; intro p' cap' w6 T6 R6; obtain ⟨-, t1, tf⟩ := HCel.out w6 _ T6; have tf1 := tf 1; have hA := Lib.hid (HFin.out p' cap' w6 T6 (Below.trans RA.out R6)); clear T6 R6 tf)) | (go_simp; (first | (go_at_call 88; refine HCp.out.mono ?_; rintro e w5 ⟨rfl, rfl⟩) | (refine stepPt rfl _ _ rfl d.wp d.ws.length d.wc _ rfl w4.heap.size (pp cb) rfl HA2.out HX.out rfl (by omega) ?_; intro p' cap' w6 T6 R6; obtain ⟨-, t1, tf⟩ := HCel.out w6 _ T6; have tf1 := tf 1; have hA := Lib.hid (HFin.out p' cap' w6 T6 (Below.trans RA.out R6)); clear T6 R6 tf)); (try go_wp2_with fail)) | go_simp); (refine hK.out _ _ ?_ (fun hHeld => ?_)); (focus ((try dsimp only); (first | done | (trivial)))); clear hK K; (try simp only [Act.put, List.setIfInBounds_toArray, List.set_cons_zero, List.set_cons_succ]))
      refine tree_done ?_
    rotate_left 1
    focus
      ((first | (first | (go_at_call 88; refine HCp.out.mono ?_; rintro e w5 ⟨rfl, rfl⟩) | (refine stepPt rfl _ _ rfl d.wp d.ws.length d.wc _ rfl w4.heap.size (pp cb) rfl HA2.out HX.out rfl (by omega) ?_; intro p' cap' w6 T6 R6; obtain ⟨-, t1, tf⟩ := HCel.out w6 _ T6; have tf1 := tf 1; have hA := Lib.hid (HFin.out p' cap' w6 T6 (Below.trans RA.out R6)); clear T6 R6 tf)) | (go_simp; (first | (go_at_call 88; refine HCp.out.mono ?_; rintro e w5 ⟨rfl, rfl⟩) | (refine stepPt rfl _ _ rfl d.wp d.ws.length d.wc _ rfl w4.heap.size (pp cb) rfl HA2.out HX.out rfl (by omega) ?_; intro p' cap' w6 T6 R6; obtain ⟨-, t1, tf⟩ := HCel.out w6 _ T6; have tf1 := tf 1; have hA := Lib.hid (HFin.out p' cap' w6 T6 (Below.trans RA.out R6)); clear T6 R6 tf)); (try go_wp2_with fail)) | go_simp); (refine hK.out _ _ ?_ (fun hHeld => ?_)); (focus ((try dsimp only); (first | done | (trivial)))); clear hK K; (try simp only [Act.put, List.setIfInBounds_toArray, List.set_cons_zero, List.set_cons_succ]))
      refine tree_fork (fun K hK => ?_) (fun K hK => ?_)
      focus
        ((first | (first | (go_at_call 88; refine HCp.out.mono ?_; rintro e w5 ⟨rfl, rfl⟩) | (refine stepPt rfl _ _ rfl d.wp d.ws.length d.wc _ rfl w4.heap.size (pp cb) rfl HA2.out HX.out rfl (by omega) ?_; intro p' cap' w6 T6 R6; obtain ⟨-, t1, tf⟩ := HCel.out w6 _ T6; have tf1 := tf 1; have hA := Lib.hid (HFin.out p' cap' w6 T6 (Below.trans RA.out R6)); clear T6 R6 tf)) | (go_simp; (first | (go_at_call 88; refine HCp.out.mono ?_; rintro e w5 ⟨rfl, rfl⟩) | (refine stepPt rfl _ _ rfl d.wp d.ws.length d.wc _ rfl w4.heap.size (pp cb) rfl HA2.out HX.out rfl (by omega) ?_; intro p' cap' w6 T6 R6; obtain ⟨-, t1, tf⟩ := HCel.out w6 _ T6; have tf1 := tf 1; have hA := Lib.hid (HFin.out p' cap' w6 T6 (Below.trans RA.out R6)); clear T6 R6 tf)); (try go_wp2_with fail)) | go_simp); (refine hK.out _ _ ?_ (fun hHeld => ?_)); (focus ((try dsimp only); (first | done | (trivial)))); clear hK K; (try simp only [Act.put, List.setIfInBounds_toArray, List.set_cons_zero, List.set_cons_succ]))
        ((refine tree_step (fun K hK => ?_)); (first | (first | (go_at_call 88; refine HCp.out.mono ?_; rintro e w5 ⟨rfl, rfl⟩) | (refine stepPt rfl _ _ rfl d.wp d.ws.length d.wc _ rfl w4.heap.size (pp cb) rfl HA2.out HX.out rfl (by omega) ?_; intro p' cap' w6 T6 R6; obtain ⟨-, t1, tf⟩ := HCel.out w6 _ T6; have tf1 := tf 1; have hA := Lib.hid (HFin.out p' cap' w6 T6 (Below.trans RA.out R6)); clear T6 R6 tf)) | (go_simp; (first | (go_at_call 88; refine HCp.out.mono ?_; rintro e w5 ⟨rfl, rfl⟩) | (refine stepPt rfl _ _ rfl d.wp d.ws.length d.wc _ rfl w4.heap.size (pp cb) rfl HA2.out HX.out rfl (by omega) ?_; intro p' cap' w6 T6 R6; obtain ⟨-, t1, tf⟩ := HCel.out w6 _ T6; have tf1 := tf 1; have hA := Lib.hid (HFin.out p' cap' w6 T6 (Below.trans RA.out R6)); clear T6 R6 tf)); (try go_wp2_with fail)) | go_simp); (refine hK.out _ _ ?_ (fun hHeld => ?_)); (focus ((try dsimp only); (first | done | (trivial)))); clear hK K; (try simp only [Act.put, List.setIfInBounds_toArray, List.set_cons_zero, List.set_cons_succ]))
        ((refine tree_step (fun K hK => ?_)); (first | (first | (go_at_call 88; refine HCp.out.mono ?_; rintro e w5 ⟨rfl, rfl⟩) | (refine stepPt rfl _ _ rfl d.wp d.ws.length d.wc _ rfl w4.heap.size (pp cb) rfl HA2.out HX.out rfl (by omega) ?_; intro p' cap' w6 T6 R6; obtain ⟨-, t1, tf⟩ := HCel.out w6 _ T6; have tf1 := tf 1; have hA := Lib.hid (HFin.out p' cap' w6 T6 (Below.trans RA.out R6)); clear T6 R6 tf)) | (go_simp; (first | (go_at_call 88; refine HCp.out.mono ?_; rintro e w5 ⟨rfl, rfl⟩) | (refine stepPt rfl _ _ rfl d.wp d.ws.length d.wc _ rfl w4.heap.size (pp cb) rfl HA2.out HX.out rfl (by omega) ?_; intro p' cap' w6 T6 R6; obtain ⟨-, t1, tf⟩ := HCel.out w6 _ T6; have tf1 := tf 1; have hA := Lib.hid (HFin.out p' cap' w6 T6 (Below.trans RA.out R6)); clear T6 R6 tf)); (try go_wp2_with fail)) | go_simp); (refine hK.out _ _ ?_ (fun hHeld => ?_)); (focus ((try dsimp only); (first | done | (trivial)))); clear hK K; (try simp only [Act.put, List.setIfInBounds_toArray, List.set_cons_zero, List.set_cons_succ]))
        ((first | ((refine tree_yes (v := ?_) (by rfl) ?_ ?_); rotate_left; (focus (intro w hSw; (try dsimp only at hSw); go_simp; try (with_reducible rfl)))) | (refine tree_no (by rfl) ?_)); (try simp only [Act.put, List.setIfInBounds_toArray, List.set_cons_zero, List.set_cons_succ]))
        ((first | ((refine tree_yes (v := ?_) (by rfl) ?_ ?_); rotate_left; (focus (intro w hSw; (try dsimp only at hSw); go_simp; try (with_reducible rfl)))) | (refine tree_no (by rfl) ?_)); (try simp only [Act.put, List.setIfInBounds_toArray, List.set_cons_zero, List.set_cons_succ]))
        ((refine tree_step (fun K hK => ?_)); (first | (first | (go_at_call 88; refine HCp.out.mono ?_; rintro e w5 ⟨rfl, rfl⟩) | (refine stepPt rfl _ _ rfl d.wp d.ws.length d.wc _ rfl w4.heap.size (pp cb) rfl HA2.out HX.out rfl (by omega) ?_; intro p' cap' w6 T6 R6; obtain ⟨-, t1, tf⟩ := HCel.out w6 _ T6; have tf1 := tf 1; have hA := Lib.hid (HFin.out p' cap' w6 T6 (Below.trans RA.out R6)); clear T6 R6 tf)) | (go_simp; (first | (go_at_call 88; refine HCp.out.mono ?_; rintro e w5 ⟨rfl, rfl⟩) | (refine stepPt rfl _ _ rfl d.wp d.ws.length d.wc _ rfl w4.heap.size (pp cb) rfl HA2.out HX.out rfl (by omega) ?_; intro p' cap' w6 T6 R6; obtain ⟨-, t1, tf⟩ := HCel.out w6 _ T6; have tf1 := tf 1; have hA := Lib.hid (HFin.out p' cap' w6 T6 (Below.trans RA.out R6)); clear T6 R6 tf)); (try go_wp2_with fail)) | go_simp); (refine hK.out _ _ ?_ (fun hHeld => ?_)); (focus ((try dsimp only); (first | done | (trivial)))); clear hK K; (try simp only [Act.put, List.setIfInBounds_toArray, List.set_cons_zero, List.set_cons_succ]))
        refine tree_done ?_
      rotate_left 1
      focus
        ((first | (first | (go_at_call 88; refine HCp.out.mono ?_; rintro e w5 ⟨rfl, rfl⟩) | (refine stepPt rfl _ _ rfl d.wp d.ws.length d.wc _ rfl w4.heap.size (pp cb) rfl HA2.out HX.out rfl (by omega) ?_; intro p' cap' w6 T6 R6; obtain ⟨-, t1, tf⟩ := HCel.out w6 _ T6; have tf1 := tf 1; have hA := Lib.hid (HFin.out p' cap' w6 T6 (Below.trans RA.out R6)); clear T6 R6 tf)) | (go_simp; (first | (go_at_call 88; refine HCp.out.mono ?_; rintro e w5 ⟨rfl, rfl⟩) | (refine stepPt rfl _ _ rfl d.wp d.ws.length d.wc _ rfl w4.heap.size (pp cb) rfl HA2.out HX.out rfl (by omega) ?_; intro p' cap' w6 T6 R6; obtain ⟨-, t1, tf⟩ := HCel.out w6 _ T6; have tf1 := tf 1; have hA := Lib.hid (HFin.out p' cap' w6 T6 (Below.trans RA.out R6)); clear T6 R6 tf)); (try go_wp2_with fail)) | go_simp); (refine hK.out _ _ ?_ (fun hHeld => ?_)); (focus ((try dsimp only); (first | done | (trivial)))); clear hK K; (try simp only [Act.put, List.setIfInBounds_toArray, List.set_cons_zero, List.set_cons_succ]))
        ((refine tree_step (fun K hK => ?_)); (first | (first | (go_at_call 88; refine HCp.out.mono ?_; rintro e w5 ⟨rfl, rfl⟩) | (refine stepPt rfl _ _ rfl d.wp d.ws.length d.wc _ rfl w4.heap.size (pp cb) rfl HA2.out HX.out rfl (by omega) ?_; intro p' cap' w6 T6 R6; obtain ⟨-, t1, tf⟩ := HCel.out w6 _ T6; have tf1 := tf 1; have hA := Lib.hid (HFin.out p' cap' w6 T6 (Below.trans RA.out R6)); clear T6 R6 tf)) | (go_simp; (first | (go_at_call 88; refine HCp.out.mono ?_; rintro e w5 ⟨rfl, rfl⟩) | (refine stepPt rfl _ _ rfl d.wp d.ws.length d.wc _ rfl w4.heap.size (pp cb) rfl HA2.out HX.out rfl (by omega) ?_; intro p' cap' w6 T6 R6; obtain ⟨-, t1, tf⟩ := HCel.out w6 _ T6; have tf1 := tf 1; have hA := Lib.hid (HFin.out p' cap' w6 T6 (Below.trans RA.out R6)); clear T6 R6 tf)); (try go_wp2_with fail)) | go_simp); (refine hK.out _ _ ?_ (fun hHeld => ?_)); (focus ((try dsimp only); (first | done | (trivial)))); clear hK K; (try simp only [Act.put, List.setIfInBounds_toArray, List.set_cons_zero, List.set_cons_succ]))
        ((refine tree_step (fun K hK => ?_)); (first | (first | (go_at_call 88; refine HCp.out.mono ?_; rintro e w5 ⟨rfl, rfl⟩) | (refine stepPt rfl _ _ rfl d.wp d.ws.length d.wc _ rfl w4.heap.size (pp cb) rfl HA2.out HX.out rfl (by omega) ?_; intro p' cap' w6 T6 R6; obtain ⟨-, t1, tf⟩ := HCel.out w6 _ T6; have tf1 := tf 1; have hA := Lib.hid (HFin.out p' cap' w6 T6 (Below.trans RA.out R6)); clear T6 R6 tf)) | (go_simp; (first | (go_at_call 88; refine HCp.out.mono ?_; rintro e w5 ⟨rfl, rfl⟩) | (refine stepPt rfl _ _ rfl d.wp d.ws.length d.wc _ rfl w4.heap.size (pp cb) rfl HA2.out HX.out rfl (by omega) ?_; intro p' cap' w6 T6 R6; obtain ⟨-, t1, tf⟩ := HCel.out w6 _ T6; have tf1 := tf 1; have hA := Lib.hid (HFin.out p' cap' w6 T6 (Below.trans RA.out R6)); clear T6 R6 tf)); (try go_wp2_with fail)) | go_simp); (refine hK.out _ _ ?_ (fun hHeld => ?_)); (focus ((try dsimp only); (first | done | (trivial)))); clear hK K; (try simp only [Act.put, List.setIfInBounds_toArray, List.set_cons_zero, List.set_cons_succ]))
        ((first | ((refine tree_yes (v := ?_) (by rfl) ?_ ?_); rotate_left; (focus (intro w hSw; (try dsimp only at hSw); go_simp; try (with_reducible rfl)))) | (refine tree_no (by rfl) ?_)); (try simp only [Act.put, List.setIfInBounds_toArray, List.set_cons_zero, List.set_cons_succ]))
        ((first | ((refine tree_yes (v := ?_) (by rfl) ?_ ?_); rotate_left; (focus (intro w hSw; (try dsimp only at hSw); go_simp; try (with_reducible rfl)))) | (refine tree_no (by rfl) ?_)); (try simp only [Act.put, List.setIfInBounds_toArray, List.set_cons_zero, List.set_cons_succ]))
        ((refine tree_step (fun K hK => ?_)); (first | (first | (go_at_call 88; refine HCp.out.mono ?_; rintro e w5 ⟨rfl, rfl⟩) | (refine stepPt rfl _ _ rfl d.wp d.ws.length d.wc _ rfl w4.heap.size (pp cb) rfl HA2.out HX.out rfl (by omega) ?_; intro p' cap' w6 T6 R6; obtain ⟨-, t1, tf⟩ := HCel.out w6 _ T6; have tf1 := tf 1; have hA := Lib.hid (HFin.out p' cap' w6 T6 (Below.trans RA.out R6)); clear T6 R6 tf)) | (go_simp; (first | (go_at_call 88; refine HCp.out.mono ?_; rintro e w5 ⟨rfl, rfl⟩) | (refine stepPt rfl _ _ rfl d.wp d.ws.length d.wc _ rfl w4.heap.size (pp cb) rfl HA2.out HX.out rfl (by omega) ?_; intro p' cap' w6 T6 R6; obtain ⟨-, t1, tf⟩ := HCel.out w6 _ T6; have tf1 := tf 1; have hA := Lib.hid (HFin.out p' cap' w6 T6 (Below.trans RA.out R6)); clear T6 R6 tf)); (try go_wp2_with fail)) | go_simp); (refine hK.out _ _ ?_ (fun hHeld => ?_)); (focus ((try dsimp only); (first | done | (trivial)))); clear hK K; (try simp only [Act.put, List.setIfInBounds_toArray, List.set_cons_zero, List.set_cons_succ]))
        refine tree_done ?_
    all_goals
      go_wp2_with fail
      go_ret
      exact hA.out
set_option maxRecDepth 100000 in
set_option maxHeartbeats 8000000 in
theorem asked_17 (K : Ctx) (n m : Now) (en : Int) (o : Opr) (c : Nat) (A F : Hp) (d : Dw) (s : Sr) (w : World) (ha : askI o = 17) (hd : (en, m) = n.markM K.nest) (hr : Room K.most n) (hns : K.nest = 20) (hms : n.ms.length ≤ 20) (hf : FitD n o w) (hc : c ≤ 80000) (hD : Dr A n c d s) (h : Sat w (pts d.b (srO s) * (A * (dwHp d * F)))) :
    Calls Tryz.prog 31 #[pp d.ab, opA o] w (AskR d.ab (c + 1) F w en m) := by
  have S1 := h.alloc (opO o)
  have HAk := ask_calls o (w.alloc (opO o)) hf.ask
  rw [ha] at HAk
  have RR : Ran w (w.alloc (opO o)) := Ran.new (Below.refl 0 w) _
  have hp1 := hf.p.below ((Below.refl _ w).alloc (Nat.le_refl _) (opO o))
  obtain ⟨w2, hw2⟩ : ∃ w2, w2 = w.alloc (opO o) := ⟨_, rfl⟩
  obtain ⟨xb, hxb⟩ : ∃ b, b = w.heap.size := ⟨_, rfl⟩
  rw [← hw2, ← hxb] at S1
  rw [← hw2] at HAk RR hp1
  obtain ⟨e0, e1, e2, e3, e4⟩ := op_cells S1
  obtain ⟨k0, k1, kf⟩ := dw_cells (S1.perm (show _ = dwHp d * (pts xb (opO o) * (pts d.b (srO s) * (A * F))) by ac_rfl))
  have S2 := Lib.hid (S1.perm (show _ = pts d.b (srO s) * (A * (dwHp d * (pts xb (opO o) * F))) by ac_rfl))
  have HAk := Lib.hid HAk
  have RR := Lib.hid RR
  have HF := Lib.hid hf
  have HP := Lib.hid hp1
  have HDr := Lib.hid hD
  have Hr := Lib.hid hr
  have Hd := Lib.hid hd
  clear h ha S1 hf hp1 hD hr hd
  go_enter Tryz.func31, Tryz.ntmps31
  go_upto_region 1 with fail
  rw [← hw2, ← hxb]
  clear hw2 hxb
  go_wp2_with fail
  refine HAk.out.mono ?_
  rintro e w3 ⟨rfl, hB⟩
  have S3 := S2.out.below hB
  have R3 := Lib.hid (Below.trans RR.out (hB.mono (Nat.zero_le _)))
  have HP3 := Lib.hid (HP.out.below hB)
  clear e0 e1 e2 e3 e4 k0 k1 kf
  obtain ⟨e0, e1, e2, e3, e4⟩ := op_cells (S3.perm (show _ = pts xb (opO o) * (pts d.b (srO s) * (A * (dwHp d * F))) by ac_rfl))
  obtain ⟨k0, k1, kf⟩ := dw_cells (S3.perm (show _ = dwHp d * (pts xb (opO o) * (pts d.b (srO s) * (A * F))) by ac_rfl))
  have kf1 := kf 1
  have hlen := HDr.out.len
  by_cases c20 : n.ms.length = 20
  · have hmm : n.markM K.nest = (42, n) := by unfold Now.markM; rw [if_pos (by rw [hns]; omega)]
    have hA := Lib.hid (show AskR d.ab (c + 1) F w en m (.returned (.int .i64 42)) w3 from by
      have hq := Hd.out
      rw [hmm] at hq
      injection hq with h1 h2
      rw [h1, h2]
      exact ⟨⟨rfl, A, d, s, rfl, HDr.out.le (by omega) (by omega), (S3.perm (show _ = pts xb (opO o) * (pts d.b (srO s) * (A * (dwHp d * F))) by ac_rfl)).right⟩, R3.out⟩)
    have hwl : d.ws.length = 20 := by omega
    rw [hwl] at k1
    clear S3 S2 HAk RR hB HP Hr Hd HDr hlen c20 hmm hwl
    go_wp2_with fail
    go_ret
    exact hA.out
  · have hmm : n.markM K.nest = (0, { n with ms := n.ms ++ [n.hist.length] }) := by unfold Now.markM; rw [if_neg (by rw [hns]; omega)]
    have hwI : ¬ (d.ws.length : Int) ≥ 20 := by omega
    have hwI2 : (d.ws.length : Int) < 20 := by omega
    have hwn : d.ws.length ≤ 20 := by omega
    obtain ⟨cb, hcb⟩ : ∃ cb, cb = w3.drew.heap.size := ⟨_, rfl⟩
    have HCp := rcopy_calls d.b s _ w3.drew S3.drew
    have S4 := S3.drew.alloc (srO s)
    rw [← hcb] at S4 HCp
    have R4 := Ran.new (Ran.drewN R3.out 1) (srO s)
    obtain ⟨w4, hw4⟩ : ∃ w4, w4 = w3.drew.alloc (srO s) := ⟨_, rfl⟩
    have R4' : Ran w w4 := by rw [hw4]; exact R4
    rw [← hw4] at S4 HCp
    have HA := S4.old (.cells #[pp cb] 59 (0, 0))
    have HX := heap_alloc_new w4 (.cells #[pp cb] 59 (0, 0))
    have HA2 := Lib.hid (HA.perm (show _ = ptA d.wp d.wc d.ws * (pts d.ab (allO d.b d.wp d.ws.length d.wc) * (pts cb (srO s) * (pts d.b (srO s) * (A * (srs d.ws * (pts xb (opO o) * F)))))) by unfold dwHp; ac_rfl))
    have HX := Lib.hid HX
    have RA := Lib.hid (Ran.new R4' (.cells #[pp cb] 59 (0, 0)))
    have HCp := Lib.hid HCp
    have HFin := Lib.hid (fun (p' : Option Addr) (cap' : Nat) (w6 : World) (T6 : Sat w6 (arr 59 1 p' (d.ws.length + 1) cap' (ptrs d.ws ++ [pp cb]) * (pts d.ab (allO d.b d.wp d.ws.length d.wc) * (pts cb (srO s) * (pts d.b (srO s) * (A * (srs d.ws * (pts xb (opO o) * F)))))))) (R6 : Ran w w6) => (by
      have hq := Hd.out
      rw [hmm] at hq
      injection hq with h1 h2
      have hcps := HDr.out.cps.mark
      have hG := HDr.out.g
      rw [h1, h2]
      refine ⟨⟨rfl, A, { d with wp := p', wc := cap', ws := d.ws ++ [(cb, s)] }, s, rfl, ⟨⟨hcps.now, hG.ok, hG.sm.le (by omega) (by omega)⟩, by rw [List.map_append]; exact hcps, fun x hx => ?_⟩, ?_⟩, Ran.set R6 ⟨d.ab, 1, none⟩ (.slice p' (d.ws.length + 1) cap')⟩
      · rcases List.mem_append.1 hx with hx | hx
        · exact ⟨(HDr.out.w x hx).1, (HDr.out.w x hx).2.le (by omega) (by omega)⟩
        · rw [List.mem_singleton] at hx; rw [hx]; exact ⟨hG.ok, hG.sm.le (by omega) (by omega)⟩
      · have T7 := (T6.perm (show _ = pts d.ab (allO d.b d.wp d.ws.length d.wc) * (arr 59 1 p' (d.ws.length + 1) cap' (ptrs d.ws ++ [pp cb]) * (pts cb (srO s) * (pts d.b (srO s) * (A * (srs d.ws * (pts xb (opO o) * F)))))) by ac_rfl)).set (i := 1) (.slice p' (d.ws.length + 1) cap')
        have T8 := (T7.perm (show _ = pts xb (opO o) * (pts d.b (srO s) * (A * ((pts d.ab (allO d.b p' (d.ws.length + 1) cap') * (arr 59 1 p' (d.ws.length + 1) cap' (ptrs d.ws ++ [pp cb]) * (pts cb (srO s) * srs d.ws))) * F))) by show pts d.ab (allO d.b p' (d.ws.length + 1) cap') * _ = _; ac_rfl)).right
        unfold dwHp ptA
        rw [ptrs_snoc, srs_snoc, List.length_append]
        exact T8 : AskR d.ab (c + 1) F w en m (.returned (.int .i64 0)) (w6.setCell ⟨d.ab, 1, none⟩ (.slice p' (d.ws.length + 1) cap'))))
    have HCel := Lib.hid (fun (W : World) (X : Hp) (hX : Sat W (X * (pts d.ab (allO d.b d.wp d.ws.length d.wc) * (pts cb (srO s) * (pts d.b (srO s) * (A * (srs d.ws * (pts xb (opO o) * F)))))))) => al_cells (hX.perm (show _ = pts d.ab (allO d.b d.wp d.ws.length d.wc) * (X * (pts cb (srO s) * (pts d.b (srO s) * (A * (srs d.ws * (pts xb (opO o) * F)))))) by ac_rfl)))
    obtain ⟨-, a1, -⟩ := HCel.out _ _ HA2.out
    obtain ⟨dab, hdab⟩ : ∃ x, x = d.ab := ⟨_, rfl⟩
    obtain ⟨-, kw4, -⟩ := al_cells (S4.perm (show _ = pts d.ab (allO d.b d.wp d.ws.length d.wc) * (ptA d.wp d.wc d.ws * (srs d.ws * (pts cb (srO s) * (pts d.b (srO s) * (A * (pts xb (opO o) * F)))))) by unfold dwHp; ac_rfl))
    clear S3 S2 HAk RR hB HP Hr Hd HDr hlen c20 hmm S4 HA R4 hms hns kf k0 hw4 hdab hcb
    go_upto_region 40 with fail
    refine region_tree (S := (fun _ => True)) (.take 0 (.take 1 (.take 2 (.take 3 (.take 5 (.fork 4 (.step 6 (.step 7 (.step 8 (.take 9 (.take 10 (.step 11 (.nil))))))) 6 (.fork 4 (.step 7 (.step 8 (.take 9 (.take 10 (.step 11 (.nil)))))) 7 (.step 4 (.step 8 (.take 9 (.take 10 (.step 11 (.nil))))))))))))) (by kernel_rfl) (by kernel_rfl) (by kernel_rfl) ?_ ?_
    · ((try dsimp only); (first | done | (trivial)))
    simp only [Plan.ops, List.getElem?_toArray, List.getElem?_cons_zero, List.getElem?_cons_succ]
    ((first | ((refine tree_yes (v := ?_) (by rfl) ?_ ?_); rotate_left; (focus (intro w hSw; (try dsimp only at hSw); go_simp; try (with_reducible rfl)))) | (refine tree_no (by rfl) ?_)); (try simp only [Act.put, List.setIfInBounds_toArray, List.set_cons_zero, List.set_cons_succ]))
    ((first | ((refine tree_yes (v := ?_) (by rfl) ?_ ?_); rotate_left; (focus (intro w hSw; (try dsimp only at hSw); go_simp; try (with_reducible rfl)))) | (refine tree_no (by rfl) ?_)); (try simp only [Act.put, List.setIfInBounds_toArray, List.set_cons_zero, List.set_cons_succ]))
    ((first | ((refine tree_yes (v := ?_) (by rfl) ?_ ?_); rotate_left; (focus (intro w hSw; (try dsimp only at hSw); go_simp; try (with_reducible rfl)))) | (refine tree_no (by rfl) ?_)); (try simp only [Act.put, List.setIfInBounds_toArray, List.set_cons_zero, List.set_cons_succ]))
    ((first | ((refine tree_yes (v := ?_) (by rfl) ?_ ?_); rotate_left; (focus (intro w hSw; (try dsimp only at hSw); go_simp; try (with_reducible rfl)))) | (refine tree_no (by rfl) ?_)); (try simp only [Act.put, List.setIfInBounds_toArray, List.set_cons_zero, List.set_cons_succ]))
    ((first | ((refine tree_yes (v := ?_) (by rfl) ?_ ?_); rotate_left; (focus (intro w hSw; (try dsimp only at hSw); go_simp; try (with_reducible rfl)))) | (refine tree_no (by rfl) ?_)); (try simp only [Act.put, List.setIfInBounds_toArray, List.set_cons_zero, List.set_cons_succ]))
    refine tree_fork (fun K hK => ?_) (fun K hK => ?_)
    focus
      ((first | (first | (go_at_call 88; refine HCp.out.mono ?_; rintro e w5 ⟨rfl, rfl⟩) | (refine stepPt rfl _ _ rfl d.wp d.ws.length d.wc _ rfl w4.heap.size (pp cb) rfl HA2.out HX.out rfl (by omega) ?_; intro p' cap' w6 T6 R6; obtain ⟨-, t1, tf⟩ := HCel.out w6 _ T6; have tf1 := tf 1; have hA := Lib.hid (HFin.out p' cap' w6 T6 (Below.trans RA.out R6)); clear T6 R6 tf)) | (go_simp; (first | (go_at_call 88; refine HCp.out.mono ?_; rintro e w5 ⟨rfl, rfl⟩) | (refine stepPt rfl _ _ rfl d.wp d.ws.length d.wc _ rfl w4.heap.size (pp cb) rfl HA2.out HX.out rfl (by omega) ?_; intro p' cap' w6 T6 R6; obtain ⟨-, t1, tf⟩ := HCel.out w6 _ T6; have tf1 := tf 1; have hA := Lib.hid (HFin.out p' cap' w6 T6 (Below.trans RA.out R6)); clear T6 R6 tf)); (try go_wp2_with fail)) | go_simp); (refine hK.out _ _ ?_ (fun hHeld => ?_)); (focus ((try dsimp only); (first | done | (trivial)))); clear hK K; (try simp only [Act.put, List.setIfInBounds_toArray, List.set_cons_zero, List.set_cons_succ]))
      ((refine tree_step (fun K hK => ?_)); (first | (first | (go_at_call 88; refine HCp.out.mono ?_; rintro e w5 ⟨rfl, rfl⟩) | (refine stepPt rfl _ _ rfl d.wp d.ws.length d.wc _ rfl w4.heap.size (pp cb) rfl HA2.out HX.out rfl (by omega) ?_; intro p' cap' w6 T6 R6; obtain ⟨-, t1, tf⟩ := HCel.out w6 _ T6; have tf1 := tf 1; have hA := Lib.hid (HFin.out p' cap' w6 T6 (Below.trans RA.out R6)); clear T6 R6 tf)) | (go_simp; (first | (go_at_call 88; refine HCp.out.mono ?_; rintro e w5 ⟨rfl, rfl⟩) | (refine stepPt rfl _ _ rfl d.wp d.ws.length d.wc _ rfl w4.heap.size (pp cb) rfl HA2.out HX.out rfl (by omega) ?_; intro p' cap' w6 T6 R6; obtain ⟨-, t1, tf⟩ := HCel.out w6 _ T6; have tf1 := tf 1; have hA := Lib.hid (HFin.out p' cap' w6 T6 (Below.trans RA.out R6)); clear T6 R6 tf)); (try go_wp2_with fail)) | go_simp); (refine hK.out _ _ ?_ (fun hHeld => ?_)); (focus ((try dsimp only); (first | done | (trivial)))); clear hK K; (try simp only [Act.put, List.setIfInBounds_toArray, List.set_cons_zero, List.set_cons_succ]))
      ((refine tree_step (fun K hK => ?_)); (first | (first | (go_at_call 88; refine HCp.out.mono ?_; rintro e w5 ⟨rfl, rfl⟩) | (refine stepPt rfl _ _ rfl d.wp d.ws.length d.wc _ rfl w4.heap.size (pp cb) rfl HA2.out HX.out rfl (by omega) ?_; intro p' cap' w6 T6 R6; obtain ⟨-, t1, tf⟩ := HCel.out w6 _ T6; have tf1 := tf 1; have hA := Lib.hid (HFin.out p' cap' w6 T6 (Below.trans RA.out R6)); clear T6 R6 tf)) | (go_simp; (first | (go_at_call 88; refine HCp.out.mono ?_; rintro e w5 ⟨rfl, rfl⟩) | (refine stepPt rfl _ _ rfl d.wp d.ws.length d.wc _ rfl w4.heap.size (pp cb) rfl HA2.out HX.out rfl (by omega) ?_; intro p' cap' w6 T6 R6; obtain ⟨-, t1, tf⟩ := HCel.out w6 _ T6; have tf1 := tf 1; have hA := Lib.hid (HFin.out p' cap' w6 T6 (Below.trans RA.out R6)); clear T6 R6 tf)); (try go_wp2_with fail)) | go_simp); (refine hK.out _ _ ?_ (fun hHeld => ?_)); (focus ((try dsimp only); (first | done | (trivial)))); clear hK K; (try simp only [Act.put, List.setIfInBounds_toArray, List.set_cons_zero, List.set_cons_succ]))
      ((refine tree_step (fun K hK => ?_)); (first | (first | (go_at_call 88; refine HCp.out.mono ?_; rintro e w5 ⟨rfl, rfl⟩) | (refine stepPt rfl _ _ rfl d.wp d.ws.length d.wc _ rfl w4.heap.size (pp cb) rfl HA2.out HX.out rfl (by omega) ?_; intro p' cap' w6 T6 R6; obtain ⟨-, t1, tf⟩ := HCel.out w6 _ T6; have tf1 := tf 1; have hA := Lib.hid (HFin.out p' cap' w6 T6 (Below.trans RA.out R6)); clear T6 R6 tf)) | (go_simp; (first | (go_at_call 88; refine HCp.out.mono ?_; rintro e w5 ⟨rfl, rfl⟩) | (refine stepPt rfl _ _ rfl d.wp d.ws.length d.wc _ rfl w4.heap.size (pp cb) rfl HA2.out HX.out rfl (by omega) ?_; intro p' cap' w6 T6 R6; obtain ⟨-, t1, tf⟩ := HCel.out w6 _ T6; have tf1 := tf 1; have hA := Lib.hid (HFin.out p' cap' w6 T6 (Below.trans RA.out R6)); clear T6 R6 tf)); (try go_wp2_with fail)) | go_simp); (refine hK.out _ _ ?_ (fun hHeld => ?_)); (focus ((try dsimp only); (first | done | (trivial)))); clear hK K; (try simp only [Act.put, List.setIfInBounds_toArray, List.set_cons_zero, List.set_cons_succ]))
      ((first | ((refine tree_yes (v := ?_) (by rfl) ?_ ?_); rotate_left; (focus (intro w hSw; (try dsimp only at hSw); go_simp; try (with_reducible rfl)))) | (refine tree_no (by rfl) ?_)); (try simp only [Act.put, List.setIfInBounds_toArray, List.set_cons_zero, List.set_cons_succ]))
      ((first | ((refine tree_yes (v := ?_) (by rfl) ?_ ?_); rotate_left; (focus (intro w hSw; (try dsimp only at hSw); go_simp; try (with_reducible rfl)))) | (refine tree_no (by rfl) ?_)); (try simp only [Act.put, List.setIfInBounds_toArray, List.set_cons_zero, List.set_cons_succ]))
      ((refine tree_step (fun K hK => ?_)); (first | (first | (go_at_call 88; refine HCp.out.mono ?_; rintro e w5 ⟨rfl, rfl⟩) | (refine stepPt rfl _ _ rfl d.wp d.ws.length d.wc _ rfl w4.heap.size (pp cb) rfl HA2.out HX.out rfl (by omega) ?_; intro p' cap' w6 T6 R6; obtain ⟨-, t1, tf⟩ := HCel.out w6 _ T6; have tf1 := tf 1; have hA := Lib.hid (HFin.out p' cap' w6 T6 (Below.trans RA.out R6)); clear T6 R6 tf)) | (go_simp; (first | (go_at_call 88; refine HCp.out.mono ?_; rintro e w5 ⟨rfl, rfl⟩) | (refine stepPt rfl _ _ rfl d.wp d.ws.length d.wc _ rfl w4.heap.size (pp cb) rfl HA2.out HX.out rfl (by omega) ?_; intro p' cap' w6 T6 R6; obtain ⟨-, t1, tf⟩ := HCel.out w6 _ T6; have tf1 := tf 1; have hA := Lib.hid (HFin.out p' cap' w6 T6 (Below.trans RA.out R6)); clear T6 R6 tf)); (try go_wp2_with fail)) | go_simp); (refine hK.out _ _ ?_ (fun hHeld => ?_)); (focus ((try dsimp only); (first | done | (trivial)))); clear hK K; (try simp only [Act.put, List.setIfInBounds_toArray, List.set_cons_zero, List.set_cons_succ]))
      refine tree_done ?_
    rotate_left 1
    focus
      ((first | (first | (go_at_call 88; refine HCp.out.mono ?_; rintro e w5 ⟨rfl, rfl⟩) | (refine stepPt rfl _ _ rfl d.wp d.ws.length d.wc _ rfl w4.heap.size (pp cb) rfl HA2.out HX.out rfl (by omega) ?_; intro p' cap' w6 T6 R6; obtain ⟨-, t1, tf⟩ := HCel.out w6 _ T6; have tf1 := tf 1; have hA := Lib.hid (HFin.out p' cap' w6 T6 (Below.trans RA.out R6)); clear T6 R6 tf)) | (go_simp; (first | (go_at_call 88; refine HCp.out.mono ?_; rintro e w5 ⟨rfl, rfl⟩) | (refine stepPt rfl _ _ rfl d.wp d.ws.length d.wc _ rfl w4.heap.size (pp cb) rfl HA2.out HX.out rfl (by omega) ?_; intro p' cap' w6 T6 R6; obtain ⟨-, t1, tf⟩ := HCel.out w6 _ T6; have tf1 := tf 1; have hA := Lib.hid (HFin.out p' cap' w6 T6 (Below.trans RA.out R6)); clear T6 R6 tf)); (try go_wp2_with fail)) | go_simp); (refine hK.out _ _ ?_ (fun hHeld => ?_)); (focus ((try dsimp only); (first | done | (trivial)))); clear hK K; (try simp only [Act.put, List.setIfInBounds_toArray, List.set_cons_zero, List.set_cons_succ]))
      refine tree_fork (fun K hK => ?_) (fun K hK => ?_)
      focus
        ((first | (first | (go_at_call 88; refine HCp.out.mono ?_; rintro e w5 ⟨rfl, rfl⟩) | (refine stepPt rfl _ _ rfl d.wp d.ws.length d.wc _ rfl w4.heap.size (pp cb) rfl HA2.out HX.out rfl (by omega) ?_; intro p' cap' w6 T6 R6; obtain ⟨-, t1, tf⟩ := HCel.out w6 _ T6; have tf1 := tf 1; have hA := Lib.hid (HFin.out p' cap' w6 T6 (Below.trans RA.out R6)); clear T6 R6 tf)) | (go_simp; (first | (go_at_call 88; refine HCp.out.mono ?_; rintro e w5 ⟨rfl, rfl⟩) | (refine stepPt rfl _ _ rfl d.wp d.ws.length d.wc _ rfl w4.heap.size (pp cb) rfl HA2.out HX.out rfl (by omega) ?_; intro p' cap' w6 T6 R6; obtain ⟨-, t1, tf⟩ := HCel.out w6 _ T6; have tf1 := tf 1; have hA := Lib.hid (HFin.out p' cap' w6 T6 (Below.trans RA.out R6)); clear T6 R6 tf)); (try go_wp2_with fail)) | go_simp); (refine hK.out _ _ ?_ (fun hHeld => ?_)); (focus ((try dsimp only); (first | done | (trivial)))); clear hK K; (try simp only [Act.put, List.setIfInBounds_toArray, List.set_cons_zero, List.set_cons_succ]))
        ((refine tree_step (fun K hK => ?_)); (first | (first | (go_at_call 88; refine HCp.out.mono ?_; rintro e w5 ⟨rfl, rfl⟩) | (refine stepPt rfl _ _ rfl d.wp d.ws.length d.wc _ rfl w4.heap.size (pp cb) rfl HA2.out HX.out rfl (by omega) ?_; intro p' cap' w6 T6 R6; obtain ⟨-, t1, tf⟩ := HCel.out w6 _ T6; have tf1 := tf 1; have hA := Lib.hid (HFin.out p' cap' w6 T6 (Below.trans RA.out R6)); clear T6 R6 tf)) | (go_simp; (first | (go_at_call 88; refine HCp.out.mono ?_; rintro e w5 ⟨rfl, rfl⟩) | (refine stepPt rfl _ _ rfl d.wp d.ws.length d.wc _ rfl w4.heap.size (pp cb) rfl HA2.out HX.out rfl (by omega) ?_; intro p' cap' w6 T6 R6; obtain ⟨-, t1, tf⟩ := HCel.out w6 _ T6; have tf1 := tf 1; have hA := Lib.hid (HFin.out p' cap' w6 T6 (Below.trans RA.out R6)); clear T6 R6 tf)); (try go_wp2_with fail)) | go_simp); (refine hK.out _ _ ?_ (fun hHeld => ?_)); (focus ((try dsimp only); (first | done | (trivial)))); clear hK K; (try simp only [Act.put, List.setIfInBounds_toArray, List.set_cons_zero, List.set_cons_succ]))
        ((refine tree_step (fun K hK => ?_)); (first | (first | (go_at_call 88; refine HCp.out.mono ?_; rintro e w5 ⟨rfl, rfl⟩) | (refine stepPt rfl _ _ rfl d.wp d.ws.length d.wc _ rfl w4.heap.size (pp cb) rfl HA2.out HX.out rfl (by omega) ?_; intro p' cap' w6 T6 R6; obtain ⟨-, t1, tf⟩ := HCel.out w6 _ T6; have tf1 := tf 1; have hA := Lib.hid (HFin.out p' cap' w6 T6 (Below.trans RA.out R6)); clear T6 R6 tf)) | (go_simp; (first | (go_at_call 88; refine HCp.out.mono ?_; rintro e w5 ⟨rfl, rfl⟩) | (refine stepPt rfl _ _ rfl d.wp d.ws.length d.wc _ rfl w4.heap.size (pp cb) rfl HA2.out HX.out rfl (by omega) ?_; intro p' cap' w6 T6 R6; obtain ⟨-, t1, tf⟩ := HCel.out w6 _ T6; have tf1 := tf 1; have hA := Lib.hid (HFin.out p' cap' w6 T6 (Below.trans RA.out R6)); clear T6 R6 tf)); (try go_wp2_with fail)) | go_simp); (refine hK.out _ _ ?_ (fun hHeld => ?_)); (focus ((try dsimp only); (first | done | (trivial)))); clear hK K; (try simp only [Act.put, List.setIfInBounds_toArray, List.set_cons_zero, List.set_cons_succ]))
        ((first | ((refine tree_yes (v := ?_) (by rfl) ?_ ?_); rotate_left; (focus (intro w hSw; (try dsimp only at hSw); go_simp; try (with_reducible rfl)))) | (refine tree_no (by rfl) ?_)); (try simp only [Act.put, List.setIfInBounds_toArray, List.set_cons_zero, List.set_cons_succ]))
        ((first | ((refine tree_yes (v := ?_) (by rfl) ?_ ?_); rotate_left; (focus (intro w hSw; (try dsimp only at hSw); go_simp; try (with_reducible rfl)))) | (refine tree_no (by rfl) ?_)); (try simp only [Act.put, List.setIfInBounds_toArray, List.set_cons_zero, List.set_cons_succ]))
        ((refine tree_step (fun K hK => ?_)); (first | (first | (go_at_call 88; refine HCp.out.mono ?_; rintro e w5 ⟨rfl, rfl⟩) | (refine stepPt rfl _ _ rfl d.wp d.ws.length d.wc _ rfl w4.heap.size (pp cb) rfl HA2.out HX.out rfl (by omega) ?_; intro p' cap' w6 T6 R6; obtain ⟨-, t1, tf⟩ := HCel.out w6 _ T6; have tf1 := tf 1; have hA := Lib.hid (HFin.out p' cap' w6 T6 (Below.trans RA.out R6)); clear T6 R6 tf)) | (go_simp; (first | (go_at_call 88; refine HCp.out.mono ?_; rintro e w5 ⟨rfl, rfl⟩) | (refine stepPt rfl _ _ rfl d.wp d.ws.length d.wc _ rfl w4.heap.size (pp cb) rfl HA2.out HX.out rfl (by omega) ?_; intro p' cap' w6 T6 R6; obtain ⟨-, t1, tf⟩ := HCel.out w6 _ T6; have tf1 := tf 1; have hA := Lib.hid (HFin.out p' cap' w6 T6 (Below.trans RA.out R6)); clear T6 R6 tf)); (try go_wp2_with fail)) | go_simp); (refine hK.out _ _ ?_ (fun hHeld => ?_)); (focus ((try dsimp only); (first | done | (trivial)))); clear hK K; (try simp only [Act.put, List.setIfInBounds_toArray, List.set_cons_zero, List.set_cons_succ]))
        refine tree_done ?_
      rotate_left 1
      focus
        ((first | (first | (go_at_call 88; refine HCp.out.mono ?_; rintro e w5 ⟨rfl, rfl⟩) | (refine stepPt rfl _ _ rfl d.wp d.ws.length d.wc _ rfl w4.heap.size (pp cb) rfl HA2.out HX.out rfl (by omega) ?_; intro p' cap' w6 T6 R6; obtain ⟨-, t1, tf⟩ := HCel.out w6 _ T6; have tf1 := tf 1; have hA := Lib.hid (HFin.out p' cap' w6 T6 (Below.trans RA.out R6)); clear T6 R6 tf)) | (go_simp; (first | (go_at_call 88; refine HCp.out.mono ?_; rintro e w5 ⟨rfl, rfl⟩) | (refine stepPt rfl _ _ rfl d.wp d.ws.length d.wc _ rfl w4.heap.size (pp cb) rfl HA2.out HX.out rfl (by omega) ?_; intro p' cap' w6 T6 R6; obtain ⟨-, t1, tf⟩ := HCel.out w6 _ T6; have tf1 := tf 1; have hA := Lib.hid (HFin.out p' cap' w6 T6 (Below.trans RA.out R6)); clear T6 R6 tf)); (try go_wp2_with fail)) | go_simp); (refine hK.out _ _ ?_ (fun hHeld => ?_)); (focus ((try dsimp only); (first | done | (trivial)))); clear hK K; (try simp only [Act.put, List.setIfInBounds_toArray, List.set_cons_zero, List.set_cons_succ]))
        ((refine tree_step (fun K hK => ?_)); (first | (first | (go_at_call 88; refine HCp.out.mono ?_; rintro e w5 ⟨rfl, rfl⟩) | (refine stepPt rfl _ _ rfl d.wp d.ws.length d.wc _ rfl w4.heap.size (pp cb) rfl HA2.out HX.out rfl (by omega) ?_; intro p' cap' w6 T6 R6; obtain ⟨-, t1, tf⟩ := HCel.out w6 _ T6; have tf1 := tf 1; have hA := Lib.hid (HFin.out p' cap' w6 T6 (Below.trans RA.out R6)); clear T6 R6 tf)) | (go_simp; (first | (go_at_call 88; refine HCp.out.mono ?_; rintro e w5 ⟨rfl, rfl⟩) | (refine stepPt rfl _ _ rfl d.wp d.ws.length d.wc _ rfl w4.heap.size (pp cb) rfl HA2.out HX.out rfl (by omega) ?_; intro p' cap' w6 T6 R6; obtain ⟨-, t1, tf⟩ := HCel.out w6 _ T6; have tf1 := tf 1; have hA := Lib.hid (HFin.out p' cap' w6 T6 (Below.trans RA.out R6)); clear T6 R6 tf)); (try go_wp2_with fail)) | go_simp); (refine hK.out _ _ ?_ (fun hHeld => ?_)); (focus ((try dsimp only); (first | done | (trivial)))); clear hK K; (try simp only [Act.put, List.setIfInBounds_toArray, List.set_cons_zero, List.set_cons_succ]))
        ((refine tree_step (fun K hK => ?_)); (first | (first | (go_at_call 88; refine HCp.out.mono ?_; rintro e w5 ⟨rfl, rfl⟩) | (refine stepPt rfl _ _ rfl d.wp d.ws.length d.wc _ rfl w4.heap.size (pp cb) rfl HA2.out HX.out rfl (by omega) ?_; intro p' cap' w6 T6 R6; obtain ⟨-, t1, tf⟩ := HCel.out w6 _ T6; have tf1 := tf 1; have hA := Lib.hid (HFin.out p' cap' w6 T6 (Below.trans RA.out R6)); clear T6 R6 tf)) | (go_simp; (first | (go_at_call 88; refine HCp.out.mono ?_; rintro e w5 ⟨rfl, rfl⟩) | (refine stepPt rfl _ _ rfl d.wp d.ws.length d.wc _ rfl w4.heap.size (pp cb) rfl HA2.out HX.out rfl (by omega) ?_; intro p' cap' w6 T6 R6; obtain ⟨-, t1, tf⟩ := HCel.out w6 _ T6; have tf1 := tf 1; have hA := Lib.hid (HFin.out p' cap' w6 T6 (Below.trans RA.out R6)); clear T6 R6 tf)); (try go_wp2_with fail)) | go_simp); (refine hK.out _ _ ?_ (fun hHeld => ?_)); (focus ((try dsimp only); (first | done | (trivial)))); clear hK K; (try simp only [Act.put, List.setIfInBounds_toArray, List.set_cons_zero, List.set_cons_succ]))
        ((first | ((refine tree_yes (v := ?_) (by rfl) ?_ ?_); rotate_left; (focus (intro w hSw; (try dsimp only at hSw); go_simp; try (with_reducible rfl)))) | (refine tree_no (by rfl) ?_)); (try simp only [Act.put, List.setIfInBounds_toArray, List.set_cons_zero, List.set_cons_succ]))
        ((first | ((refine tree_yes (v := ?_) (by rfl) ?_ ?_); rotate_left; (focus (intro w hSw; (try dsimp only at hSw); go_simp; try (with_reducible rfl)))) | (refine tree_no (by rfl) ?_)); (try simp only [Act.put, List.setIfInBounds_toArray, List.set_cons_zero, List.set_cons_succ]))
        ((refine tree_step (fun K hK => ?_)); (first | (first | (go_at_call 88; refine HCp.out.mono ?_; rintro e w5 ⟨rfl, rfl⟩) | (refine stepPt rfl _ _ rfl d.wp d.ws.length d.wc _ rfl w4.heap.size (pp cb) rfl HA2.out HX.out rfl (by omega) ?_; intro p' cap' w6 T6 R6; obtain ⟨-, t1, tf⟩ := HCel.out w6 _ T6; have tf1 := tf 1; have hA := Lib.hid (HFin.out p' cap' w6 T6 (Below.trans RA.out R6)); clear T6 R6 tf)) | (go_simp; (first | (go_at_call 88; refine HCp.out.mono ?_; rintro e w5 ⟨rfl, rfl⟩) | (refine stepPt rfl _ _ rfl d.wp d.ws.length d.wc _ rfl w4.heap.size (pp cb) rfl HA2.out HX.out rfl (by omega) ?_; intro p' cap' w6 T6 R6; obtain ⟨-, t1, tf⟩ := HCel.out w6 _ T6; have tf1 := tf 1; have hA := Lib.hid (HFin.out p' cap' w6 T6 (Below.trans RA.out R6)); clear T6 R6 tf)); (try go_wp2_with fail)) | go_simp); (refine hK.out _ _ ?_ (fun hHeld => ?_)); (focus ((try dsimp only); (first | done | (trivial)))); clear hK K; (try simp only [Act.put, List.setIfInBounds_toArray, List.set_cons_zero, List.set_cons_succ]))
        refine tree_done ?_
    all_goals
      go_wp2_with fail
      go_ret
      exact hA.out
set_option maxRecDepth 100000 in
set_option maxHeartbeats 8000000 in
theorem asked_18 (K : Ctx) (n m : Now) (en : Int) (o : Opr) (c : Nat) (A F : Hp) (d : Dw) (s : Sr) (w : World) (ha : askI o = 18) (hd : (en, m) = n.undoM) (hr : Room K.most n) (hms : n.ms.length ≤ 20) (hf : FitD n o w) (hc : c ≤ 80000) (hD : Dr A n c d s) (h : Sat w (pts d.b (srO s) * (A * (dwHp d * F)))) :
    Calls Tryz.prog 31 #[pp d.ab, opA o] w (AskR d.ab (c + 1) F w en m) := by
  have S1 := h.alloc (opO o)
  have HAk := ask_calls o (w.alloc (opO o)) hf.ask
  rw [ha] at HAk
  have RR : Ran w (w.alloc (opO o)) := Ran.new (Below.refl 0 w) _
  have hp1 := hf.p.below ((Below.refl _ w).alloc (Nat.le_refl _) (opO o))
  obtain ⟨w2, hw2⟩ : ∃ w2, w2 = w.alloc (opO o) := ⟨_, rfl⟩
  obtain ⟨xb, hxb⟩ : ∃ b, b = w.heap.size := ⟨_, rfl⟩
  rw [← hw2, ← hxb] at S1
  rw [← hw2] at HAk RR hp1
  obtain ⟨e0, e1, e2, e3, e4⟩ := op_cells S1
  obtain ⟨k0, k1, kf⟩ := dw_cells (S1.perm (show _ = dwHp d * (pts xb (opO o) * (pts d.b (srO s) * (A * F))) by ac_rfl))
  have S2 := Lib.hid (S1.perm (show _ = pts d.b (srO s) * (A * (dwHp d * (pts xb (opO o) * F))) by ac_rfl))
  have HAk := Lib.hid HAk
  have RR := Lib.hid RR
  have HF := Lib.hid hf
  have HP := Lib.hid hp1
  have HDr := Lib.hid hD
  have Hr := Lib.hid hr
  have Hd := Lib.hid hd
  clear h ha S1 hf hp1 hD hr hd
  go_enter Tryz.func31, Tryz.ntmps31
  go_upto_region 1 with fail
  rw [← hw2, ← hxb]
  clear hw2 hxb
  go_wp2_with fail
  refine HAk.out.mono ?_
  rintro e w3 ⟨rfl, hB⟩
  have S3 := S2.out.below hB
  have R3 := Lib.hid (Below.trans RR.out (hB.mono (Nat.zero_le _)))
  have HP3 := Lib.hid (HP.out.below hB)
  clear e0 e1 e2 e3 e4 k0 k1 kf
  obtain ⟨e0, e1, e2, e3, e4⟩ := op_cells (S3.perm (show _ = pts xb (opO o) * (pts d.b (srO s) * (A * (dwHp d * F))) by ac_rfl))
  obtain ⟨k0, k1, kf⟩ := dw_cells (S3.perm (show _ = dwHp d * (pts xb (opO o) * (pts d.b (srO s) * (A * F))) by ac_rfl))
  have kf1 := kf 1
  have hlen := HDr.out.len
  by_cases c0 : n.ms = []
  · have hmm : n.undoM = (1, n) := by unfold Now.undoM; rw [c0]; rfl
    have hA := Lib.hid (show AskR d.ab (c + 1) F w en m (.returned (.int .i64 1)) w3 from by
      have hq := Hd.out
      rw [hmm] at hq
      injection hq with h1 h2
      rw [h1, h2]
      exact ⟨⟨rfl, A, d, s, rfl, HDr.out.le (by omega) (by omega), (S3.perm (show _ = pts xb (opO o) * (pts d.b (srO s) * (A * (dwHp d * F))) by ac_rfl)).right⟩, R3.out⟩)
    have hwl : d.ws.length = 0 := by rw [hlen, c0]; rfl
    rw [hwl] at k1
    clear S3 S2 HAk RR hB HP Hr Hd HDr hlen c0 hmm hwl
    go_wp2_with fail
    go_ret
    exact hA.out
  · have hpos : 0 < n.ms.length := List.length_pos_iff.2 c0
    obtain ⟨ws, wb, x, hws⟩ : ∃ ws wb x, d.ws = ws ++ [(wb, x)] := by
      have hne : d.ws ≠ [] := fun e => by rw [e] at hlen; simp at hlen; omega
      exact ⟨d.ws.dropLast, (d.ws.getLast hne).1, (d.ws.getLast hne).2, (List.dropLast_concat_getLast hne).symm⟩
    obtain ⟨k, hk⟩ : ∃ k, k = ws.length := ⟨_, rfl⟩
    have hdl : d.ws.length = k + 1 := by rw [hws, List.length_append, hk]; rfl
    have hmm : (n.undoM).1 = 0 := by
      unfold Now.undoM
      split
      · rename_i hh; exact absurd (List.reverse_eq_nil_iff.1 hh) c0
      · rfl
    have hcps : Cps n.undoM.2 { x with q := s.q } (ws.map Prod.snd) := by
      have h1 := HDr.out.cps.undo Hr.out.m c0 (by rw [List.length_map]; omega)
      have h2 : (d.ws.map Prod.snd)[n.ms.length - 1]'(by rw [List.length_map]; omega) = x := by
        rw [List.getElem_map]
        have h3 : d.ws[n.ms.length - 1]'(by omega) = (wb, x) := by
          have : d.ws[n.ms.length - 1]? = some (wb, x) := by rw [hws, show n.ms.length - 1 = ws.length by omega, List.getElem?_append_right (Nat.le_refl _), Nat.sub_self]; rfl
          rw [List.getElem?_eq_getElem (by omega)] at this
          exact Option.some.inj this
        rw [h3]
      rw [h2] at h1
      have h4 : (d.ws.map Prod.snd).dropLast = ws.map Prod.snd := by rw [hws, List.map_append]; exact List.dropLast_concat
      rw [h4] at h1
      exact h1
    have hwp : ptA d.wp d.wc d.ws = arr 59 1 d.wp (k + 1) d.wc (ptrs ws ++ [pp wb]) := by unfold ptA; rw [hdl, hws, ptrs_snoc]
    have hsr : srs d.ws = pts wb (srO x) * srs ws := by rw [hws, srs_snoc]
    have S4 := S3.perm (show _ = pts d.ab (allO d.b d.wp (k + 1) d.wc) * (arr 59 1 d.wp (k + 1) d.wc (ptrs ws ++ [pp wb]) * (pts wb (srO x) * (pts d.b (srO s) * (srs ws * (A * (pts xb (opO o) * F)))))) by unfold dwHp; rw [hwp, hsr, hdl]; ac_rfl)
    have hpl := ptrs_len ws
    have SA := S4.perm (show _ = arr 59 1 d.wp (k + 1) d.wc (ptrs ws ++ [pp wb]) * (pts d.ab (allO d.b d.wp (k + 1) d.wc) * (pts wb (srO x) * (pts d.b (srO s) * (srs ws * (A * (pts xb (opO o) * F)))))) by ac_rfl)
    have hal := SA.arr_len.2
    obtain ⟨pb, po, hpa⟩ := SA.arr_addr (by omega)
    rw [hpa] at SA S4
    have s0 : w3.cell? ⟨pb, po + k, none⟩ = some (pp wb) := by rw [SA.arr_cell k (by rw [List.length_append, hpl, hk]; simp), List.getElem_append_right (by omega)]; simp [hpl, hk]
    have i0 : (0 : Int) ≤ (k : Int) := by omega
    have i1 : (k : Int) < ((k + 1 : Nat) : Int) := by omega
    have i2 : (k : Int) < (k : Int) + 1 := by omega
    have i3 : (k : Int) ≤ (d.wc : Int) := by omega
    have hms20 : k ≤ 1000000000 := by omega
    have i5 : (k : Int) ≤ 1000000000 := by omega
    rw [hdl, hpa] at k1
    have kf0 := kf 0
    have HOk := HDr.out.w (wb, x) (by rw [hws]; exact List.mem_append.2 (.inr List.mem_cons_self))
    have HOw : ∀ y ∈ ws, SrOk A y.2 ∧ SrSm c y.2 := fun y hy => HDr.out.w y (by rw [hws]; exact List.mem_append.2 (.inl hy))
    have HFin := Lib.hid (fun (W : World) (T : Sat W (arr 59 1 (some ⟨pb, po, none⟩) (k + 1) d.wc (ptrs ws ++ [pp wb]) * (pts d.ab (allO wb (some ⟨pb, po, none⟩) k d.wc) * (pts wb (srO { x with q := s.q }) * (pts d.b (srO s) * (srs ws * (A * (pts xb (opO o) * F)))))))) (hR : Ran w W) => (by
      have hq := Hd.out
      have h1 : en = 0 := by rw [← hmm, ← hq]
      have h2 : m = n.undoM.2 := by rw [← hq]
      rw [h1, h2]
      refine ⟨⟨rfl, A, { d with b := wb, wp := some ⟨pb, po, none⟩, ws := ws }, { x with q := s.q }, rfl, ⟨⟨hcps.now, ⟨HOk.1.V, HOk.1.F, HOk.1.A, HOk.1.T, HOk.1.G⟩, (show SrSm c { x with q := s.q } from ⟨HOk.2.V, HOk.2.F, HOk.2.A, HOk.2.T, HOk.2.top⟩).le (by omega) (by omega)⟩, hcps, fun y hy => ⟨(HOw y hy).1, (HOw y hy).2.le (by omega) (by omega)⟩⟩, ?_⟩, hR⟩
      have T2 := T.arr_take k (by omega)
      rw [show (ptrs ws ++ [pp wb]).take (k * 1) = ptrs ws by rw [Nat.mul_one, hk, ← hpl]; exact List.take_left, hk] at T2
      unfold dwHp ptA
      exact (T2.perm (show _ = (pts xb (opO o) * pts d.b (srO s)) * (pts wb (srO { x with q := s.q }) * (A * ((pts d.ab (allO wb (some ⟨pb, po, none⟩) ws.length d.wc) * (arr 59 1 (some ⟨pb, po, none⟩) ws.length d.wc (ptrs ws) * srs ws)) * F))) by ac_rfl)).right : AskR d.ab (c + 1) F w en m (.returned (.int .i64 0)) W))
    have S5 := Lib.hid (S4.set (i := 0) (pp wb))
    obtain ⟨w4, hw4⟩ : ∃ w4, w4 = w3.setCell ⟨d.ab, 0, none⟩ (pp wb) := ⟨_, rfl⟩
    have R5 := Lib.hid (Ran.set R3.out ⟨d.ab, 0, none⟩ (pp wb))
    rw [← hw4] at S5 R5
    clear S3 S2 HAk RR hB HP Hr Hd HDr hlen c0 hmm hcps hwp hsr SA S4 hpos hws hpl hal hk hpa HOk HOw kf hdl hms20
    go_upto_region 46 with fail
    rw [← hw4]
    have S6 := S5.out.drew
    obtain ⟨z0, z1, zf⟩ := al_cells S6
    have zf1 := zf 1
    obtain ⟨-, -, -, -, -, -, -, -, z8⟩ := sr_cells (S6.perm (show _ = pts d.b (srO s) * (pts d.ab (allO wb (some ⟨pb, po, none⟩) (k + 1) d.wc) * (arr 59 1 (some ⟨pb, po, none⟩) (k + 1) d.wc (ptrs ws ++ [pp wb]) * (pts wb (srO x) * (srs ws * (A * (pts xb (opO o) * F)))))) by show pts d.ab (allO wb (some ⟨pb, po, none⟩) (k + 1) d.wc) * _ = _; ac_rfl))
    have SX := S6.perm (show _ = pts wb (srO x) * (pts d.ab (allO wb (some ⟨pb, po, none⟩) (k + 1) d.wc) * (arr 59 1 (some ⟨pb, po, none⟩) (k + 1) d.wc (ptrs ws ++ [pp wb]) * (pts d.b (srO s) * (srs ws * (A * (pts xb (opO o) * F)))))) by show pts d.ab (allO wb (some ⟨pb, po, none⟩) (k + 1) d.wc) * _ = _; ac_rfl)
    obtain ⟨-, -, -, -, -, -, -, -, y8⟩ := sr_cells SX
    have yf8 := sr_free SX 8
    have S7 := SX.set (i := 8) (.int .i64 s.q)
    have R7 := Ran.set (Ran.drewN R5.out 1) ⟨wb, 8, none⟩ (.int .i64 s.q)
    obtain ⟨w5, hw5⟩ : ∃ w5, w5 = w4.drew.setCell ⟨wb, 8, none⟩ (.int .i64 s.q) := ⟨_, rfl⟩
    have R7 : Ran w w5 := by rw [hw5]; exact R7
    rw [← hw5] at S7
    have hw6 : w5 = (w4.setCell ⟨wb, 8, none⟩ (.int .i64 s.q)).drew := hw5
    have Hw5 := Lib.hid hw5
    have Hw6 := Lib.hid hw6
    obtain ⟨q0, q1, qf⟩ := al_cells (S7.perm (show _ = pts d.ab (allO wb (some ⟨pb, po, none⟩) (k + 1) d.wc) * (arr 59 1 (some ⟨pb, po, none⟩) (k + 1) d.wc (ptrs ws ++ [pp wb]) * (pts wb (srO { x with q := s.q }) * (pts d.b (srO s) * (srs ws * (A * (pts xb (opO o) * F)))))) by show pts wb (srO { x with q := s.q }) * _ = _; ac_rfl))
    have qf1 := qf 1
    obtain ⟨-, -, -, -, -, -, -, -, q8⟩ := sr_cells (S7.perm (show _ = pts d.b (srO s) * (pts d.ab (allO wb (some ⟨pb, po, none⟩) (k + 1) d.wc) * (arr 59 1 (some ⟨pb, po, none⟩) (k + 1) d.wc (ptrs ws ++ [pp wb]) * (pts wb (srO { x with q := s.q }) * (srs ws * (A * (pts xb (opO o) * F)))))) by show pts wb (srO { x with q := s.q }) * _ = _; ac_rfl))
    have S8 := (S7.perm (show _ = pts d.ab (allO wb (some ⟨pb, po, none⟩) (k + 1) d.wc) * (arr 59 1 (some ⟨pb, po, none⟩) (k + 1) d.wc (ptrs ws ++ [pp wb]) * (pts wb (srO { x with q := s.q }) * (pts d.b (srO s) * (srs ws * (A * (pts xb (opO o) * F)))))) by show pts wb (srO { x with q := s.q }) * _ = _; ac_rfl)).set (i := 1) (.slice (some ⟨pb, po, none⟩) k d.wc)
    have S9 := S8.perm (show _ = arr 59 1 (some ⟨pb, po, none⟩) (k + 1) d.wc (ptrs ws ++ [pp wb]) * (pts d.ab (allO wb (some ⟨pb, po, none⟩) k d.wc) * (pts wb (srO { x with q := s.q }) * (pts d.b (srO s) * (srs ws * (A * (pts xb (opO o) * F)))))) by show pts d.ab (allO wb (some ⟨pb, po, none⟩) k d.wc) * _ = _; ac_rfl)
    have hA := Lib.hid (HFin.out _ S9 (Ran.set R7 ⟨d.ab, 1, none⟩ (.slice (some ⟨pb, po, none⟩) k d.wc)))
    have Q0 := Lib.hid q0
    have Q8 := Lib.hid q8
    have Q1 := Lib.hid q1
    have Qf := Lib.hid qf1
    clear S5 R5 S6 SX S7 R7 S8 S9 HFin zf qf hw4 s0 kf0 kf1 k0 k1 hw5 hw6 q0 q1 q8 qf1
    refine region_plan (S := (fun w' => w'.cell? ⟨d.ab, 0, none⟩ = some (pp wb) ∧ w'.cell? ⟨d.b, 8, none⟩ = some (.int .i64 s.q))) [(0, true), (1, true), (2, true), (3, true), (4, true), (5, true), (6, true), (7, true), (8, true), (9, true), (10, false)] (by kernel_rfl) (by kernel_rfl) (by kernel_rfl) ?_ ?_
    · ((try dsimp only); (first | done | (first | exact ⟨z0, z8⟩ | (rw [← Hw5.out]; exact ⟨Q0.out, Q8.out⟩) | (rw [← Hw6.out]; exact ⟨Q0.out, Q8.out⟩))))
    simp only [planOps, List.map_cons, List.map_nil, List.getElem?_toArray, List.getElem?_cons_zero, List.getElem?_cons_succ]
    repeat (first
      | ((refine plan_yes (v := ?_) (by rfl) ?_ ?_); rotate_left; (focus (intro w hSw; (try dsimp only at hSw); go_simp; try (with_reducible rfl))); (try simp only [Act.put, List.setIfInBounds_toArray, List.set_cons_zero, List.set_cons_succ]))
      | ((refine plan_no (by rfl) ?_); (try simp only [Act.put, List.setIfInBounds_toArray, List.set_cons_zero, List.set_cons_succ]))
      | ((refine plan_step (fun K hK => ?_)); (first | (fail) | (go_simp; (fail); (try go_wp2_with fail)) | go_simp); (refine hK.out _ _ ?_ (fun hHeld => ?_)); (focus ((try dsimp only); (first | done | (first | exact ⟨z0, z8⟩ | (rw [← Hw5.out]; exact ⟨Q0.out, Q8.out⟩) | (rw [← Hw6.out]; exact ⟨Q0.out, Q8.out⟩))))); clear hK K; (try simp only [Act.put, List.setIfInBounds_toArray, List.set_cons_zero, List.set_cons_succ])))
    refine plan_done ?_
    first | rw [← Hw5.out] | rw [← Hw6.out]
    have q1 := Q1.out
    have qf1 := Qf.out
    clear z0 z1 z8 y8 yf8 zf1 Q0 Q8 Hw5 Hw6
    go_wp2_with fail
    go_ret
    exact hA.out
set_option maxRecDepth 100000 in
set_option maxHeartbeats 8000000 in
theorem asked_19 (K : Ctx) (n m : Now) (en : Int) (o : Opr) (c : Nat) (A F : Hp) (d : Dw) (s : Sr) (w : World) (ha : askI o = 19) (hd : (en, m) = n.undoM) (hr : Room K.most n) (hms : n.ms.length ≤ 20) (hf : FitD n o w) (hc : c ≤ 80000) (hD : Dr A n c d s) (h : Sat w (pts d.b (srO s) * (A * (dwHp d * F)))) :
    Calls Tryz.prog 31 #[pp d.ab, opA o] w (AskR d.ab (c + 1) F w en m) := by
  have S1 := h.alloc (opO o)
  have HAk := ask_calls o (w.alloc (opO o)) hf.ask
  rw [ha] at HAk
  have RR : Ran w (w.alloc (opO o)) := Ran.new (Below.refl 0 w) _
  have hp1 := hf.p.below ((Below.refl _ w).alloc (Nat.le_refl _) (opO o))
  obtain ⟨w2, hw2⟩ : ∃ w2, w2 = w.alloc (opO o) := ⟨_, rfl⟩
  obtain ⟨xb, hxb⟩ : ∃ b, b = w.heap.size := ⟨_, rfl⟩
  rw [← hw2, ← hxb] at S1
  rw [← hw2] at HAk RR hp1
  obtain ⟨e0, e1, e2, e3, e4⟩ := op_cells S1
  obtain ⟨k0, k1, kf⟩ := dw_cells (S1.perm (show _ = dwHp d * (pts xb (opO o) * (pts d.b (srO s) * (A * F))) by ac_rfl))
  have S2 := Lib.hid (S1.perm (show _ = pts d.b (srO s) * (A * (dwHp d * (pts xb (opO o) * F))) by ac_rfl))
  have HAk := Lib.hid HAk
  have RR := Lib.hid RR
  have HF := Lib.hid hf
  have HP := Lib.hid hp1
  have HDr := Lib.hid hD
  have Hr := Lib.hid hr
  have Hd := Lib.hid hd
  clear h ha S1 hf hp1 hD hr hd
  go_enter Tryz.func31, Tryz.ntmps31
  go_upto_region 1 with fail
  rw [← hw2, ← hxb]
  clear hw2 hxb
  go_wp2_with fail
  refine HAk.out.mono ?_
  rintro e w3 ⟨rfl, hB⟩
  have S3 := S2.out.below hB
  have R3 := Lib.hid (Below.trans RR.out (hB.mono (Nat.zero_le _)))
  have HP3 := Lib.hid (HP.out.below hB)
  clear e0 e1 e2 e3 e4 k0 k1 kf
  obtain ⟨e0, e1, e2, e3, e4⟩ := op_cells (S3.perm (show _ = pts xb (opO o) * (pts d.b (srO s) * (A * (dwHp d * F))) by ac_rfl))
  obtain ⟨k0, k1, kf⟩ := dw_cells (S3.perm (show _ = dwHp d * (pts xb (opO o) * (pts d.b (srO s) * (A * F))) by ac_rfl))
  have kf1 := kf 1
  have hlen := HDr.out.len
  by_cases c0 : n.ms = []
  · have hmm : n.undoM = (1, n) := by unfold Now.undoM; rw [c0]; rfl
    have hA := Lib.hid (show AskR d.ab (c + 1) F w en m (.returned (.int .i64 1)) w3 from by
      have hq := Hd.out
      rw [hmm] at hq
      injection hq with h1 h2
      rw [h1, h2]
      exact ⟨⟨rfl, A, d, s, rfl, HDr.out.le (by omega) (by omega), (S3.perm (show _ = pts xb (opO o) * (pts d.b (srO s) * (A * (dwHp d * F))) by ac_rfl)).right⟩, R3.out⟩)
    have hwl : d.ws.length = 0 := by rw [hlen, c0]; rfl
    rw [hwl] at k1
    clear S3 S2 HAk RR hB HP Hr Hd HDr hlen c0 hmm hwl
    go_wp2_with fail
    go_ret
    exact hA.out
  · have hpos : 0 < n.ms.length := List.length_pos_iff.2 c0
    obtain ⟨ws, wb, x, hws⟩ : ∃ ws wb x, d.ws = ws ++ [(wb, x)] := by
      have hne : d.ws ≠ [] := fun e => by rw [e] at hlen; simp at hlen; omega
      exact ⟨d.ws.dropLast, (d.ws.getLast hne).1, (d.ws.getLast hne).2, (List.dropLast_concat_getLast hne).symm⟩
    obtain ⟨k, hk⟩ : ∃ k, k = ws.length := ⟨_, rfl⟩
    have hdl : d.ws.length = k + 1 := by rw [hws, List.length_append, hk]; rfl
    have hmm : (n.undoM).1 = 0 := by
      unfold Now.undoM
      split
      · rename_i hh; exact absurd (List.reverse_eq_nil_iff.1 hh) c0
      · rfl
    have hcps : Cps n.undoM.2 { x with q := s.q } (ws.map Prod.snd) := by
      have h1 := HDr.out.cps.undo Hr.out.m c0 (by rw [List.length_map]; omega)
      have h2 : (d.ws.map Prod.snd)[n.ms.length - 1]'(by rw [List.length_map]; omega) = x := by
        rw [List.getElem_map]
        have h3 : d.ws[n.ms.length - 1]'(by omega) = (wb, x) := by
          have : d.ws[n.ms.length - 1]? = some (wb, x) := by rw [hws, show n.ms.length - 1 = ws.length by omega, List.getElem?_append_right (Nat.le_refl _), Nat.sub_self]; rfl
          rw [List.getElem?_eq_getElem (by omega)] at this
          exact Option.some.inj this
        rw [h3]
      rw [h2] at h1
      have h4 : (d.ws.map Prod.snd).dropLast = ws.map Prod.snd := by rw [hws, List.map_append]; exact List.dropLast_concat
      rw [h4] at h1
      exact h1
    have hwp : ptA d.wp d.wc d.ws = arr 59 1 d.wp (k + 1) d.wc (ptrs ws ++ [pp wb]) := by unfold ptA; rw [hdl, hws, ptrs_snoc]
    have hsr : srs d.ws = pts wb (srO x) * srs ws := by rw [hws, srs_snoc]
    have S4 := S3.perm (show _ = pts d.ab (allO d.b d.wp (k + 1) d.wc) * (arr 59 1 d.wp (k + 1) d.wc (ptrs ws ++ [pp wb]) * (pts wb (srO x) * (pts d.b (srO s) * (srs ws * (A * (pts xb (opO o) * F)))))) by unfold dwHp; rw [hwp, hsr, hdl]; ac_rfl)
    have hpl := ptrs_len ws
    have SA := S4.perm (show _ = arr 59 1 d.wp (k + 1) d.wc (ptrs ws ++ [pp wb]) * (pts d.ab (allO d.b d.wp (k + 1) d.wc) * (pts wb (srO x) * (pts d.b (srO s) * (srs ws * (A * (pts xb (opO o) * F)))))) by ac_rfl)
    have hal := SA.arr_len.2
    obtain ⟨pb, po, hpa⟩ := SA.arr_addr (by omega)
    rw [hpa] at SA S4
    have s0 : w3.cell? ⟨pb, po + k, none⟩ = some (pp wb) := by rw [SA.arr_cell k (by rw [List.length_append, hpl, hk]; simp), List.getElem_append_right (by omega)]; simp [hpl, hk]
    have i0 : (0 : Int) ≤ (k : Int) := by omega
    have i1 : (k : Int) < ((k + 1 : Nat) : Int) := by omega
    have i2 : (k : Int) < (k : Int) + 1 := by omega
    have i3 : (k : Int) ≤ (d.wc : Int) := by omega
    have hms20 : k ≤ 1000000000 := by omega
    have i5 : (k : Int) ≤ 1000000000 := by omega
    rw [hdl, hpa] at k1
    have kf0 := kf 0
    have HOk := HDr.out.w (wb, x) (by rw [hws]; exact List.mem_append.2 (.inr List.mem_cons_self))
    have HOw : ∀ y ∈ ws, SrOk A y.2 ∧ SrSm c y.2 := fun y hy => HDr.out.w y (by rw [hws]; exact List.mem_append.2 (.inl hy))
    have HFin := Lib.hid (fun (W : World) (T : Sat W (arr 59 1 (some ⟨pb, po, none⟩) (k + 1) d.wc (ptrs ws ++ [pp wb]) * (pts d.ab (allO wb (some ⟨pb, po, none⟩) k d.wc) * (pts wb (srO { x with q := s.q }) * (pts d.b (srO s) * (srs ws * (A * (pts xb (opO o) * F)))))))) (hR : Ran w W) => (by
      have hq := Hd.out
      have h1 : en = 0 := by rw [← hmm, ← hq]
      have h2 : m = n.undoM.2 := by rw [← hq]
      rw [h1, h2]
      refine ⟨⟨rfl, A, { d with b := wb, wp := some ⟨pb, po, none⟩, ws := ws }, { x with q := s.q }, rfl, ⟨⟨hcps.now, ⟨HOk.1.V, HOk.1.F, HOk.1.A, HOk.1.T, HOk.1.G⟩, (show SrSm c { x with q := s.q } from ⟨HOk.2.V, HOk.2.F, HOk.2.A, HOk.2.T, HOk.2.top⟩).le (by omega) (by omega)⟩, hcps, fun y hy => ⟨(HOw y hy).1, (HOw y hy).2.le (by omega) (by omega)⟩⟩, ?_⟩, hR⟩
      have T2 := T.arr_take k (by omega)
      rw [show (ptrs ws ++ [pp wb]).take (k * 1) = ptrs ws by rw [Nat.mul_one, hk, ← hpl]; exact List.take_left, hk] at T2
      unfold dwHp ptA
      exact (T2.perm (show _ = (pts xb (opO o) * pts d.b (srO s)) * (pts wb (srO { x with q := s.q }) * (A * ((pts d.ab (allO wb (some ⟨pb, po, none⟩) ws.length d.wc) * (arr 59 1 (some ⟨pb, po, none⟩) ws.length d.wc (ptrs ws) * srs ws)) * F))) by ac_rfl)).right : AskR d.ab (c + 1) F w en m (.returned (.int .i64 0)) W))
    have S5 := Lib.hid (S4.set (i := 0) (pp wb))
    obtain ⟨w4, hw4⟩ : ∃ w4, w4 = w3.setCell ⟨d.ab, 0, none⟩ (pp wb) := ⟨_, rfl⟩
    have R5 := Lib.hid (Ran.set R3.out ⟨d.ab, 0, none⟩ (pp wb))
    rw [← hw4] at S5 R5
    clear S3 S2 HAk RR hB HP Hr Hd HDr hlen c0 hmm hcps hwp hsr SA S4 hpos hws hpl hal hk hpa HOk HOw kf hdl hms20
    go_upto_region 46 with fail
    rw [← hw4]
    have S6 := S5.out.drew
    obtain ⟨z0, z1, zf⟩ := al_cells S6
    have zf1 := zf 1
    obtain ⟨-, -, -, -, -, -, -, -, z8⟩ := sr_cells (S6.perm (show _ = pts d.b (srO s) * (pts d.ab (allO wb (some ⟨pb, po, none⟩) (k + 1) d.wc) * (arr 59 1 (some ⟨pb, po, none⟩) (k + 1) d.wc (ptrs ws ++ [pp wb]) * (pts wb (srO x) * (srs ws * (A * (pts xb (opO o) * F)))))) by show pts d.ab (allO wb (some ⟨pb, po, none⟩) (k + 1) d.wc) * _ = _; ac_rfl))
    have SX := S6.perm (show _ = pts wb (srO x) * (pts d.ab (allO wb (some ⟨pb, po, none⟩) (k + 1) d.wc) * (arr 59 1 (some ⟨pb, po, none⟩) (k + 1) d.wc (ptrs ws ++ [pp wb]) * (pts d.b (srO s) * (srs ws * (A * (pts xb (opO o) * F)))))) by show pts d.ab (allO wb (some ⟨pb, po, none⟩) (k + 1) d.wc) * _ = _; ac_rfl)
    obtain ⟨-, -, -, -, -, -, -, -, y8⟩ := sr_cells SX
    have yf8 := sr_free SX 8
    have S7 := SX.set (i := 8) (.int .i64 s.q)
    have R7 := Ran.set (Ran.drewN R5.out 1) ⟨wb, 8, none⟩ (.int .i64 s.q)
    obtain ⟨w5, hw5⟩ : ∃ w5, w5 = w4.drew.setCell ⟨wb, 8, none⟩ (.int .i64 s.q) := ⟨_, rfl⟩
    have R7 : Ran w w5 := by rw [hw5]; exact R7
    rw [← hw5] at S7
    have hw6 : w5 = (w4.setCell ⟨wb, 8, none⟩ (.int .i64 s.q)).drew := hw5
    have Hw5 := Lib.hid hw5
    have Hw6 := Lib.hid hw6
    obtain ⟨q0, q1, qf⟩ := al_cells (S7.perm (show _ = pts d.ab (allO wb (some ⟨pb, po, none⟩) (k + 1) d.wc) * (arr 59 1 (some ⟨pb, po, none⟩) (k + 1) d.wc (ptrs ws ++ [pp wb]) * (pts wb (srO { x with q := s.q }) * (pts d.b (srO s) * (srs ws * (A * (pts xb (opO o) * F)))))) by show pts wb (srO { x with q := s.q }) * _ = _; ac_rfl))
    have qf1 := qf 1
    obtain ⟨-, -, -, -, -, -, -, -, q8⟩ := sr_cells (S7.perm (show _ = pts d.b (srO s) * (pts d.ab (allO wb (some ⟨pb, po, none⟩) (k + 1) d.wc) * (arr 59 1 (some ⟨pb, po, none⟩) (k + 1) d.wc (ptrs ws ++ [pp wb]) * (pts wb (srO { x with q := s.q }) * (srs ws * (A * (pts xb (opO o) * F)))))) by show pts wb (srO { x with q := s.q }) * _ = _; ac_rfl))
    have S8 := (S7.perm (show _ = pts d.ab (allO wb (some ⟨pb, po, none⟩) (k + 1) d.wc) * (arr 59 1 (some ⟨pb, po, none⟩) (k + 1) d.wc (ptrs ws ++ [pp wb]) * (pts wb (srO { x with q := s.q }) * (pts d.b (srO s) * (srs ws * (A * (pts xb (opO o) * F)))))) by show pts wb (srO { x with q := s.q }) * _ = _; ac_rfl)).set (i := 1) (.slice (some ⟨pb, po, none⟩) k d.wc)
    have S9 := S8.perm (show _ = arr 59 1 (some ⟨pb, po, none⟩) (k + 1) d.wc (ptrs ws ++ [pp wb]) * (pts d.ab (allO wb (some ⟨pb, po, none⟩) k d.wc) * (pts wb (srO { x with q := s.q }) * (pts d.b (srO s) * (srs ws * (A * (pts xb (opO o) * F)))))) by show pts d.ab (allO wb (some ⟨pb, po, none⟩) k d.wc) * _ = _; ac_rfl)
    have hA := Lib.hid (HFin.out _ S9 (Ran.set R7 ⟨d.ab, 1, none⟩ (.slice (some ⟨pb, po, none⟩) k d.wc)))
    have Q0 := Lib.hid q0
    have Q8 := Lib.hid q8
    have Q1 := Lib.hid q1
    have Qf := Lib.hid qf1
    clear S5 R5 S6 SX S7 R7 S8 S9 HFin zf qf hw4 s0 kf0 kf1 k0 k1 hw5 hw6 q0 q1 q8 qf1
    refine region_plan (S := (fun w' => w'.cell? ⟨d.ab, 0, none⟩ = some (pp wb) ∧ w'.cell? ⟨d.b, 8, none⟩ = some (.int .i64 s.q))) [(0, true), (1, true), (2, true), (3, true), (4, true), (5, true), (6, true), (7, true), (8, true), (9, true), (10, false)] (by kernel_rfl) (by kernel_rfl) (by kernel_rfl) ?_ ?_
    · ((try dsimp only); (first | done | (first | exact ⟨z0, z8⟩ | (rw [← Hw5.out]; exact ⟨Q0.out, Q8.out⟩) | (rw [← Hw6.out]; exact ⟨Q0.out, Q8.out⟩))))
    simp only [planOps, List.map_cons, List.map_nil, List.getElem?_toArray, List.getElem?_cons_zero, List.getElem?_cons_succ]
    repeat (first
      | ((refine plan_yes (v := ?_) (by rfl) ?_ ?_); rotate_left; (focus (intro w hSw; (try dsimp only at hSw); go_simp; try (with_reducible rfl))); (try simp only [Act.put, List.setIfInBounds_toArray, List.set_cons_zero, List.set_cons_succ]))
      | ((refine plan_no (by rfl) ?_); (try simp only [Act.put, List.setIfInBounds_toArray, List.set_cons_zero, List.set_cons_succ]))
      | ((refine plan_step (fun K hK => ?_)); (first | (fail) | (go_simp; (fail); (try go_wp2_with fail)) | go_simp); (refine hK.out _ _ ?_ (fun hHeld => ?_)); (focus ((try dsimp only); (first | done | (first | exact ⟨z0, z8⟩ | (rw [← Hw5.out]; exact ⟨Q0.out, Q8.out⟩) | (rw [← Hw6.out]; exact ⟨Q0.out, Q8.out⟩))))); clear hK K; (try simp only [Act.put, List.setIfInBounds_toArray, List.set_cons_zero, List.set_cons_succ])))
    refine plan_done ?_
    first | rw [← Hw5.out] | rw [← Hw6.out]
    have q1 := Q1.out
    have qf1 := Qf.out
    clear z0 z1 z8 y8 yf8 zf1 Q0 Q8 Hw5 Hw6
    go_wp2_with fail
    go_ret
    exact hA.out
/-- Every call of the document's machine. -/
theorem asked_calls (K : Ctx) (n m : Now) (en : Int) (o : Opr) (c : Nat) (A F : Hp) (d : Dw) (s : Sr) (w : World) (hd : DoR K n o en m) (hr : Room K.most n) (hT : ∀ ks, KeysOf n.s.T ks → ks.length ≤ 5) (hns : K.nest = 20) (hms : n.ms.length ≤ 20) (hf : FitD n o w) (hc : c ≤ 80000) (hD : Dr A n c d s) (h : Sat w (pts d.b (srO s) * (A * (dwHp d * F)))) :
    Calls Tryz.prog 31 #[pp d.ab, opA o] w (AskR d.ab (c + 1) F w en m) := by
  cases hd with
  | c0 ha hd => exact asked_0 K n m en o c A F d s w ha hd hr hf hc hD h
  | c1 ha hd => exact asked_1 K n m en o c A F d s w ha hd hr hf hc hD h
  | c2 ha hd => exact asked_2 K n m en o c A F d s w ha hd hr hf hc hD h
  | c3 ha hd => exact asked_3 K n m en o c A F d s w ha hd hr hf hc hD h
  | c4 ha hd => exact asked_4 K n m en o c A F d s w ha hd hr hf hc hD h
  | c5 ha hd => exact asked_5 K n m en o c A F d s w ha hd hr hf hc hD h
  | c6 ha hd => exact asked_6 K n m en o c A F d s w ha hd hr hf hc hD h
  | c7 ha hd => exact asked_7 K n m en o c A F d s w ha hd hr hf hc hD h
  | c8 ha hd => exact asked_8 K n m en o c A F d s w ha hd hr hf hc hD h
  | c9 ha hd => exact asked_9 K n m en o c A F d s w ha hd hr hT hf hc hD h
  | c10 ha hd => exact asked_10 K n m en o c A F d s w ha hd hr hf hc hD h
  | c11 ha hd => exact asked_11 K n m en o c A F d s w ha hd hr hf hc hD h
  | c12 ha hd => exact asked_12 K n m en o c A F d s w ha hd hr hf hc hD h
  | c13 ha hd => exact asked_13 K n m en o c A F d s w ha hd hr hf hc hD h
  | c14 ha hd => exact asked_14 K n m en o c A F d s w ha hd hr hf hc hD h
  | c15 ha hd => exact asked_15 K n m en o c A F d s w ha hd hr hf hc hD h
  | c16 ha hd => exact asked_16 K n m en o c A F d s w ha hd hr hns hms hf hc hD h
  | c17 ha hd => exact asked_17 K n m en o c A F d s w ha hd hr hns hms hf hc hD h
  | c18 ha hd => exact asked_18 K n m en o c A F d s w ha hd hr hms hf hc hD h
  | c19 ha hd => exact asked_19 K n m en o c A F d s w ha hd hr hms hf hc hD h
end Go.Proofs.YtlmjidandjemjaaGreatDoor.State

