/- same walked: true where things have what a state says. -/
import Derived.Test.YtibgpkcklneloaaUnS
namespace Go.Proofs.Ytibgpkcklneloaa.Undo
open Go.RowKit Go.Proofs.Ytibgpkcklneloaa Go.Proofs.Ytibgpkcklneloaa.Hp
set_option linter.unusedVariables false
attribute [local go_sem] Oper.semAt_some

/-- Pairs, read. -/
def PrAt (w : World) (p : Option Addr) (L : List Pr) : Prop := ∀ i (h : i < L.length), ∃ b o, p = some ⟨b, o, none⟩ ∧ w.cell? ⟨b, o + i * 2, none⟩ = some (.string L[i].1) ∧ w.cell? ⟨b, o + i * 2 + 1, none⟩ = some (.int .i64 L[i].2)
theorem prAt_arr {w : World} {p : Option Addr} {cap : Nat} {L : List Pr} {S : Hp} (h : Sat w (prArr p cap L * S)) : PrAt w p L := by
  intro i hi
  have hl := prCells_length L
  have hc := h.arr_len
  obtain ⟨b, o, rfl⟩ := h.arr_addr (by omega)
  obtain ⟨g0, g1⟩ := prCells_get L i hi
  refine ⟨b, o, rfl, ?_, ?_⟩
  · rw [h.arr_cell (i * 2) (by omega), ← g0, List.getElem?_eq_getElem (by omega)]
  · rw [Nat.add_assoc, h.arr_cell (i * 2 + 1) (by omega), ← g1, List.getElem?_eq_getElem (by omega)]
def SmRel (lb mb cb : Nat) (most nest : Int) (m : Mach) (N : Nat) (n : Nat) (R0 : Hp) (w : World) (g : Nat) (jv : Value) (wr : World) : Prop :=
  ∃ j : Nat, j + g = n ∧ jv = .int .i64 (j : Int) ∧ ThingsM wr lb mb cb most nest m N R0 ∧ Ran w wr
set_option maxRecDepth 100000 in
set_option maxHeartbeats 8000000 in
theorem same_calls (lb mb cb : Nat) (most nest : Int) (m : Mach) (N : Nat) (w : World) (Q R : Hp) (p : Option Addr) (cap : Nat) (L : List Pr) (hN : N ≤ 1000) (hQ : ∀ W S, Sat W (Q * S) → PrAt W p L) (hL : PairsOf m.s.M L) (hn : L.length ≤ 1000000) (hk : ∀ x ∈ L, x.1.size ≤ maxLen) (h : ThingsM w lb mb cb most nest m N (Q * R)) :
    Calls Try.prog 19 #[thingsV lb mb cb, .agg #[.slice p L.length cap, .string m.s.c]] w fun e w' => (e = .returned (.bool true) ∧ ThingsM w' lb mb cb most nest m N (Q * R)) ∧ Ran w w' := by
  have H2 := (Things.alloc h (tO lb mb cb)).alloc (stO p L.length cap m.s.c)
  rw [World.size_alloc] at H2
  obtain ⟨t0, t1, t2⟩ := t_cells (pull1 H2.rest)
  have R2 : Ran w ((w.alloc (tO lb mb cb)).alloc (stO p L.length cap m.s.c)) := Ran.new (Ran.new (Below.refl 0 w) _) _
  obtain ⟨w2, hw2⟩ : ∃ w2, w2 = (w.alloc (tO lb mb cb)).alloc (stO p L.length cap m.s.c) := ⟨_, rfl⟩
  rw [← hw2] at H2 t0 t1 t2 R2
  have HT := Lib.hid H2
  have HQ := Lib.hid hQ
  have HL := Lib.hid hL
  obtain ⟨n, hnl⟩ : ∃ n, n = L.length := ⟨_, rfl⟩
  rw [← hnl] at hw2 hn HT
  have Hn := Lib.hid hnl
  rw [← hnl]
  unfold thingsV
  clear H2 h hQ hL hnl
  go_enter Try.func19, Try.ntmps19
  go_upto_region 1 with fail
  rw [← hw2]
  clear hw2
  go_wp2_with fail
  refine (keys_things lb mb cb most nest m N w2 _ (by omega) HT.out).mono ?_
  rintro e w4 ⟨⟨kp, kc, ks, rfl, hks, HT4⟩, R4⟩
  have R5 := Below.trans R2 R4
  have hke : ks = L.map Prod.fst := keys_unique hks HL.out.1
  have hkn : ks.length = n := by rw [hke, List.length_map, Hn.out]
  have HT5 := HT4
  rw [hkn] at HT5
  rw [hkn]
  have HT5 := Lib.hid HT5
  have Hke := Lib.hid hke
  have Hkn := Lib.hid hkn
  obtain ⟨a0, a1, a2⟩ := t_cells (pull2 HT4.rest)
  obtain ⟨s0, s1, sz⟩ := st_cells (pull1 HT4.rest)
  have hcg := Lib.hid (cget_things lb mb cb most nest m.hist m.ms N m.s w4.drew _ (Things.drew HT4))
  clear hke hkn hks HT4 HT R2 R4 t0 t1 t2
  go_wp2_with fail
  refine Go.Proofs.Ytibgpkcklneloaa.region_plan (S := (fun w' => w'.cell? ⟨w.heap.size + 1, 0, none⟩ = some (.slice p n cap) ∧ w'.cell? ⟨w.heap.size + 1, 1, none⟩ = some (.string m.s.c) ∧ w'.cell? ⟨w.heap.size, 2, none⟩ = some (.pointer (some ⟨cb, 0, none⟩)))) [(0, true), (1, true), (2, true), (3, true), (4, true), (5, true), (6, true), (7, true), (8, true), (10, true), (11, true), (9, false), (12, true), (13, true)] (by kernel_rfl) (by kernel_rfl) (by kernel_rfl) ?_ ?_
  · ((try dsimp only); (first | done | (exact ⟨s0, s1, a2⟩)))
  simp only [Go.Proofs.Ytibgpkcklneloaa.planOps, List.map_cons, List.map_nil, List.getElem?_toArray, List.getElem?_cons_zero, List.getElem?_cons_succ]
  repeat (first
    | ((refine Go.Proofs.Ytibgpkcklneloaa.plan_yes (v := ?_) (by rfl) ?_ ?_); rotate_left; (focus (intro w hSw; (try dsimp only at hSw); go_simp; try (with_reducible rfl))); (try simp only [Act.put, List.setIfInBounds_toArray, List.set_cons_zero, List.set_cons_succ]))
    | ((refine Go.Proofs.Ytibgpkcklneloaa.plan_no (by rfl) ?_); (try simp only [Act.put, List.setIfInBounds_toArray, List.set_cons_zero, List.set_cons_succ]))
    | ((refine Go.Proofs.Ytibgpkcklneloaa.plan_step (fun K hK => ?_)); (first | ((go_at_call 32; refine hcg.out.mono ?_; rintro e w' ⟨rfl, rfl⟩)) | (go_simp; ((go_at_call 32; refine hcg.out.mono ?_; rintro e w' ⟨rfl, rfl⟩)); (try go_wp2_with fail)) | go_simp); (refine hK.out _ _ ?_ (fun hHeld => ?_)); (focus ((try dsimp only); (first | done | (exact ⟨s0, s1, a2⟩)))); clear hK K; (try simp only [Act.put, List.setIfInBounds_toArray, List.set_cons_zero, List.set_cons_succ])))
  refine Go.Proofs.Ytibgpkcklneloaa.plan_done ?_
  go_wp2_with fail
  have HT6 := Lib.hid (Things.drew HT5.out)
  have R6 : Ran w w4.drew := Below.drew R5
  clear HT5 hcg a0 a1 a2 s0 s1 sz R5
  obtain ⟨w5, hw5⟩ : ∃ w5, w5 = w4.drew := ⟨_, rfl⟩
  rw [← hw5] at HT6 R6
  rw [← hw5]
  clear hw5
  go_loopg [6] n (SmRel lb mb cb most nest m N n (arr 9 1 kp n kc (ks.map sv) * (pts (w.heap.size + 1) (stO p n cap m.s.c) * (pts w.heap.size (tO lb mb cb) * (Q * R)))) w)
  case atStart => exact ⟨0, by omega, rfl, HT6.out, R6⟩
  case round =>
    clear HT6 R6
    obtain ⟨j, hg, rfl, HT, HR⟩ := hrel
    have hj0 : (0 : Int) ≤ j := by omega
    by_cases hj : j < n
    · have hjl : (j : Int) < (n : Int) := by omega
      have hjk : j < ks.length := by rw [Hkn.out]; exact hj
      have hjL : j < L.length := by rw [← Hn.out]; exact hj
      have HR0 : Sat wr (arr 9 1 kp ks.length kc (ks.map sv) * (pts (w.heap.size + 1) (stO p n cap m.s.c) * (pts w.heap.size (tO lb mb cb) * (Q * R)))) := by rw [Hkn.out]; exact HT.rest
      obtain ⟨kb, ko, rfl⟩ := key_cell HR0 j hjk
      have k0 := key_at HR0 j hjk
      obtain ⟨a0, a1, a2⟩ := t_cells (pull2 HR0)
      obtain ⟨s0, s1, sz⟩ := st_cells (pull1 HR0)
      obtain ⟨pb, po, rfl, p0, p1⟩ := HQ.out wr _ (pull3 HR0) j hjL
      have hkj : ks[j] = L[j].1 := by simp only [Hke.out, List.getElem_map]
      rw [hkj] at k0
      have hM := HL.out.2 L[j] (List.getElem_mem hjL)
      have hks := hk L[j] (List.getElem_mem hjL)
      have hcall := get_things lb mb cb most nest m.hist m.ms N m.s L[j].1 wr.drew _ hks (Things.drew HT)
      rw [hM] at hcall
      clear hkj
      obtain ⟨k, hke⟩ : ∃ k, k = L[j].1 := ⟨_, rfl⟩
      obtain ⟨v, hve⟩ : ∃ v, v = L[j].2 := ⟨_, rfl⟩
      rw [← hke] at k0 p0 hcall
      rw [← hve] at p1 hcall
      have Hcall := Lib.hid hcall
      have Hg := Lib.hid hg
      have Hj := Lib.hid hj
      have HT0 := Lib.hid HT
      have Hk := Lib.hid hk
      clear hcall hM hks hke hve HT hg HR0 hj hjk hjL hk
      go_wp2_with fail
      refine Go.Proofs.Ytibgpkcklneloaa.region_plan (S := (fun w' => w'.cell? ⟨w.heap.size, 1, none⟩ = some (.pointer (some ⟨mb, 0, none⟩)) ∧ w'.cell? ⟨kb, ko + j, none⟩ = some (.string k))) [(0, true), (1, true), (2, true), (3, true), (4, true), (5, true), (6, false), (7, true), (8, true), (9, true), (10, true), (11, true)] (by kernel_rfl) (by kernel_rfl) (by kernel_rfl) ?_ ?_
      · ((try dsimp only); (first | done | (exact ⟨a1, k0⟩)))
      simp only [Go.Proofs.Ytibgpkcklneloaa.planOps, List.map_cons, List.map_nil, List.getElem?_toArray, List.getElem?_cons_zero, List.getElem?_cons_succ]
      repeat (first
        | ((refine Go.Proofs.Ytibgpkcklneloaa.plan_yes (v := ?_) (by rfl) ?_ ?_); rotate_left; (focus (intro w hSw; (try dsimp only at hSw); go_simp; try (with_reducible rfl))); (try simp only [Act.put, List.setIfInBounds_toArray, List.set_cons_zero, List.set_cons_succ]))
        | ((refine Go.Proofs.Ytibgpkcklneloaa.plan_no (by rfl) ?_); (try simp only [Act.put, List.setIfInBounds_toArray, List.set_cons_zero, List.set_cons_succ]))
        | ((refine Go.Proofs.Ytibgpkcklneloaa.plan_step (fun K hK => ?_)); (first | ((go_at_call 22; refine Hcall.out.mono ?_; rintro e w' ⟨rfl, rfl⟩)) | (go_simp; ((go_at_call 22; refine Hcall.out.mono ?_; rintro e w' ⟨rfl, rfl⟩)); (try go_wp2_with fail)) | go_simp); (refine hK.out _ _ ?_ (fun hHeld => ?_)); (focus ((try dsimp only); (first | done | (exact ⟨a1, k0⟩)))); clear hK K; (try simp only [Act.put, List.setIfInBounds_toArray, List.set_cons_zero, List.set_cons_succ])))
      refine Go.Proofs.Ytibgpkcklneloaa.plan_done ?_
      go_wp2_with fail
      refine Go.Proofs.Ytibgpkcklneloaa.region_plan (S := (fun w' => w'.cell? ⟨w.heap.size + 1, 0, none⟩ = some (.slice (some ⟨pb, po, none⟩) n cap) ∧ w'.cell? ⟨kb, ko + j, none⟩ = some (.string k) ∧ w'.cell? ⟨pb, po + j * 2, none⟩ = some (.string k) ∧ w'.cell? ⟨pb, po + j * 2 + 1, none⟩ = some (.int .i64 v))) [(0, true), (1, true), (2, true), (3, true), (4, true), (5, true), (6, true), (7, true), (8, true), (9, true), (10, true), (11, true), (12, true), (13, true), (14, true), (15, true), (16, true), (17, true), (18, true), (19, true), (20, true), (21, true), (22, true), (23, true), (24, true)] (by kernel_rfl) (by kernel_rfl) (by kernel_rfl) ?_ ?_
      · ((try dsimp only); (first | done | (exact ⟨s0, k0, p0, p1⟩)))
      simp only [Go.Proofs.Ytibgpkcklneloaa.planOps, List.map_cons, List.map_nil, List.getElem?_toArray, List.getElem?_cons_zero, List.getElem?_cons_succ]
      repeat (first
        | ((refine Go.Proofs.Ytibgpkcklneloaa.plan_yes (v := ?_) (by rfl) ?_ ?_); rotate_left; (focus (intro w hSw; (try dsimp only at hSw); go_simp; try (with_reducible rfl))); (try simp only [Act.put, List.setIfInBounds_toArray, List.set_cons_zero, List.set_cons_succ]))
        | ((refine Go.Proofs.Ytibgpkcklneloaa.plan_no (by rfl) ?_); (try simp only [Act.put, List.setIfInBounds_toArray, List.set_cons_zero, List.set_cons_succ]))
        | ((refine Go.Proofs.Ytibgpkcklneloaa.plan_step (fun K hK => ?_)); (first | (fail) | (go_simp; (fail); (try go_wp2_with fail)) | go_simp); (refine hK.out _ _ ?_ (fun hHeld => ?_)); (focus ((try dsimp only); (first | done | (exact ⟨s0, k0, p0, p1⟩)))); clear hK K; (try simp only [Act.put, List.setIfInBounds_toArray, List.set_cons_zero, List.set_cons_succ])))
      refine Go.Proofs.Ytibgpkcklneloaa.plan_done ?_
      go_wp2_with fail
      go_roundg (gk - 1)
      case measure => have := Hg.out; have := Hj.out; omega
      case rel => exact ⟨j + 1, by have := Hg.out; have := Hj.out; omega, rfl, Things.drew (Things.drew HT0.out), Below.drew (Below.drew HR)⟩
    · have hjl : ¬ ((j : Int) < (n : Int)) := by omega
      have HT9 := Lib.hid (HT.drop.drop.drop)
      clear HT
      go_wp2_with fail
      go_ret
      exact ⟨⟨rfl, HT9.out⟩, HR⟩
end Go.Proofs.Ytibgpkcklneloaa.Undo
