/- HandlesPlays, part 23 of 26: the texts PnZ PaU PaV, joined by a program. -/
import Derived.Test.YtndjgeohkfenfaaGreatDoorPq22
import Derived.Test.YtndjgeohkfenfaaGreatDoorPq19
namespace Go.Proofs.YtndjgeohkfenfaaGreatDoor.Hd
open Go.RowKit Go.Maps Go.Proofs.YtndjgeohkfenfaaGreatDoor Go.Proofs.YtndjgeohkfenfaaGreatDoor.Hp
set_option linter.unusedVariables false
attribute [local go_sem] Oper.semAt_some

structure MakeOkG (F : Fs) (d : Int) (x : Nd) (kd : Kd) (s : ByteArray) (g : Nat) (t : ByteArray) : Prop where
  root : find F.L d = some x
  kind : x.kind = 1
  kids : x.kids = some kd
  new : kd.M s = none
  kn : kd.n ≤ 1000000
  free : FreeN F.L g
  n : F.n ≤ 1000000
  most : (F.L.length : Int) < F.most
  small : t.size ≤ 4096
  room : (t.size : Int) ≤ F.room - F.used
  used : 0 ≤ F.used ∧ F.used ≤ 1000000000
  rm : 0 ≤ F.room ∧ F.room ≤ 1000000000
/-- What the node's making leaves. -/
theorem made_satG {fb mb nb : Nat} {F : Fs} {d : Int} {x : Nd} {kd : Kd} {s : ByteArray} {g : Nat} {t : ByteArray} {y : Nd} (hb : y.b = nb) (ht : y.text = t) (ok : MakeOkG F d x kd s g t) {X : Hp} (hX2 : ∀ x', nds (upd F.L d x') = ndHp x' * X) {w : World} {R : Hp}
    (h : Sat w (pts fb (fsO { F with used := F.used + (t.size : Int) } mb) * (K.smap kd.b (K.putM kd.M s (g : Int)) (kd.sz + 1) (kd.n + 1) * (pmap mb (putP (blk F.L) (g : Int) nb) (F.L.length + 1) (F.n + 1) * (ndHp y * (pts x.b (ndO x) * (X * R))))))) :
    Sat w (fsHp fb mb (madeG F d x kd s g y) * R) := by
  refine h.perm ?_
  unfold fsHp madeG
  dsimp only
  rw [blk_cons, hb, blk_upd F.L d x { x with kids := some { kd with M := K.putM kd.M s (g : Int), sz := kd.sz + 1, n := kd.n + 1 } } ok.root rfl, List.length_cons, upd_len]
  show _ = pts fb (fsO { F with used := F.used + (y.text.size : Int) } mb) * (pmap mb (putP (blk F.L) (g : Int) nb) (F.L.length + 1) (F.n + 1) * (ndHp y * nds (upd F.L d { x with kids := some { kd with M := K.putM kd.M s (g : Int), sz := kd.sz + 1, n := kd.n + 1 } }))) * R
  rw [hX2, ht]
  have e : ndHp { x with kids := some { kd with M := K.putM kd.M s (g : Int), sz := kd.sz + 1, n := kd.n + 1 } } = pts x.b (ndO x) * K.smap kd.b (K.putM kd.M s (g : Int)) (kd.sz + 1) (kd.n + 1) := by
    unfold ndHp ndO
    dsimp only
    rw [ok.kids]
    rfl
  rw [e]
  ac_rfl
set_option maxRecDepth 100000 in
set_option maxHeartbeats 8000000 in
theorem MakeG_calls (fb mb : Nat) (F : Fs) (d0 : Int) (p : ByteArray) (d : Int) (x : Nd) (kd : Kd) (s : ByteArray) (g : Nat) (t : ByteArray) (k : Int) (hdi : I64 d) (hss : s.size ≤ 1000000) (hk : k = 2 ∨ k = 3) (ok : MakeOkG F d x kd s g t) (w : World) (R : Hp)
    (HP0 : Calls Tryz.prog 55 #[pp fb, .int .i64 d0, .string p, .int .i64 k] w fun e w' => (e = .returned (.tuple #[.int .i64 d, .string s, .int .i64 0]) ∧ Sat w' (fsHp fb mb F * R)) ∧ Ran w w') :
    Calls Tryz.prog 27 #[pp fb, .int .i64 d0, .string p, .int .i64 k, .string t] w fun e w' => (e = .returned (.tuple #[.int .i64 (g : Int), .int .i64 0]) ∧ ∃ nb, Sat w' (fsHp fb mb (madeG F d x kd s g ⟨nb, k, t, none, 0, 1, 0⟩) * R)) ∧ Ran w w' := by
  have HP := Lib.hid HP0
  have Hdi := Lib.hid hdi
  have Ok := Lib.hid ok
  have hts : (t.size : Int) ≤ 4096 := by have := ok.small; omega
  have hk1 : (1 : Int) ≤ k := by omega
  have hk3 : k ≤ 3 := by omega
  have hkn : ¬ k = 1 := by omega
  have hkb : (k == 1) = false := by simp [hkn]
  clear HP0 ok hdi
  go_enter Tryz.func27, Tryz.ntmps27
  go_wp2_with fail
  refine HP.out.mono ?_
  rintro e w1 ⟨⟨rfl, S1⟩, R1⟩
  have S1 := S1.drew
  have R1 := Lib.hid (Ran.drewN R1 1)
  obtain ⟨c0, c1, c2, c3⟩ := fs_cells S1
  have hln := pmap_len Tryz.underlying81 (S1.perm (show _ = pmap mb (blk F.L) F.L.length F.n * (pts fb (fsO F mb) * nds F.L * R) by unfold fsHp; ac_rfl))
  obtain ⟨o1, o2, o3, o4, o5, o6⟩ := And.intro Ok.out.most (And.intro Ok.out.room (And.intro Ok.out.used.1 (And.intro Ok.out.used.2 (And.intro Ok.out.rm.1 Ok.out.rm.2))))
  have hwr : IntKind.i64.wrap (F.room - F.used) = F.room - F.used := IntWalk.i64_in _ (by omega)
  have hle1 : ¬ F.most ≤ (F.L.length : Int) := by omega
  have hle2 : decide (F.most ≤ (F.L.length : Int)) = false := decide_eq_false hle1
  have hle3 : ¬ F.room - F.used < (t.size : Int) := by omega
  have hle4 : decide (F.room - F.used < (t.size : Int)) = false := decide_eq_false hle3
  have S1 := Lib.hid S1
  clear HP
  go_wp2_with fail
  refine region_plan (S := (fun w' => w'.cell? ⟨fb, 0, none⟩ = some (.int .i64 F.most) ∧ w'.cell? ⟨fb, 1, none⟩ = some (.int .i64 F.room) ∧ w'.cell? ⟨fb, 2, none⟩ = some (.int .i64 F.used) ∧ w'.cell? ⟨fb, 3, none⟩ = some (.map (some mb)) ∧ ∀ ty, (Builtin.len_ #[81] ty #[.map (some mb)]).run Tryz.prog w' = .ok (.int .i64 (F.L.length : Int)) w')) [(0, true), (1, true), (2, true), (3, true), (4, true), (5, true), (6, true), (7, true), (8, true), (9, true), (10, true), (11, true), (12, true), (13, true), (14, true), (15, true), (16, true), (17, true), (18, true), (19, true), (20, true), (21, true), (22, true), (23, true), (24, true)] (by kernel_rfl) (by kernel_rfl) (by kernel_rfl) ?_ ?_
  · ((try dsimp only); (first | done | (exact ⟨c0, c1, c2, c3, hln⟩)))
  simp only [planOps, List.map_cons, List.map_nil, List.getElem?_toArray, List.getElem?_cons_zero, List.getElem?_cons_succ]
  repeat (first
    | ((refine plan_yes (v := ?_) (by rfl) ?_ ?_); rotate_left; (focus (intro w hSw; (try dsimp only at hSw); go_simp; try (with_reducible rfl))); (try simp only [Act.put, List.setIfInBounds_toArray, List.set_cons_zero, List.set_cons_succ]))
    | ((refine plan_no (by rfl) ?_); (try simp only [Act.put, List.setIfInBounds_toArray, List.set_cons_zero, List.set_cons_succ]))
    | ((refine plan_step (fun K hK => ?_)); (first | (fail) | (go_simp; (fail); (try go_wp2_with fail)) | go_simp); (refine hK.out _ _ ?_ (fun hHeld => ?_)); (focus ((try dsimp only); (first | done | (exact ⟨c0, c1, c2, c3, hln⟩)))); clear hK K; (try simp only [Act.put, List.setIfInBounds_toArray, List.set_cons_zero, List.set_cons_succ])))
  refine plan_done ?_
  obtain ⟨w2, hw2⟩ : ∃ w2, w2 = w1.drew := ⟨_, rfl⟩
  have S1 := S1.out
  rw [← hw2] at S1 c0 c1 c2 c3 ⊢
  have R1 : Hid (Ran w w2) := Lib.hid (by rw [hw2]; exact R1.out)
  have HLk := Lib.hid (fun (k : Int) (hk : I64 k) => fs_look S1 k hk)
  have hLn : F.L.length ≤ 1000000 := Nat.le_trans (pmap_le (S1.perm (show _ = pmap mb (blk F.L) F.L.length F.n * (pts fb (fsO F mb) * nds F.L * R) by unfold fsHp; ac_rfl))) Ok.out.n
  have hg1 := Ok.out.free.pos
  have hg2 := Ok.out.free.le
  have hgI : (g : Int) ≤ 1000001 := by omega
  -- what comes
  obtain ⟨X, hX1, hX2⟩ := focus F.L d x Ok.out.root
  have hgn1 : (g : Int) ≠ d := fun e => by
    have := Ok.out.free.none
    rw [e, Ok.out.root] at this
    cases this
  have T1 := (S1.alloc (ndO ⟨w2.heap.size, k, t, none, 0, 1, 0⟩)).perm (show _ = pmap mb (blk F.L) F.L.length F.n * (pts w2.heap.size (ndO ⟨w2.heap.size, k, t, none, 0, 1, 0⟩) * (pts fb (fsO F mb) * (ndHp x * (X * R)))) by unfold fsHp; rw [hX1]; ac_rfl)
  obtain ⟨w3, hrun1, T2, R2⟩ := pmap_put Tryz.underlying81 T1 (by have := Ok.out.n; unfold maxLen; omega) (g : Int) (by unfold I64; omega) (by unfold blk; rw [Ok.out.free.none]; rfl) w2.heap.size
  have cm1 : (w2.alloc (ndO ⟨w2.heap.size, k, t, none, 0, 1, 0⟩)).cell? ⟨fb, 3, none⟩ = some (.map (some mb)) := by
    have := (T1.perm (show _ = pts fb (fsO F mb) * (pmap mb (blk F.L) F.L.length F.n * (pts w2.heap.size (ndO ⟨w2.heap.size, k, t, none, 0, 1, 0⟩) * (ndHp x * (X * R)))) by ac_rfl)).get
    rw [cell_at this]; rfl
  have T2f := T2.perm (show _ = pts fb (fsO F mb) * (pmap mb (putP (blk F.L) (g : Int) w2.heap.size) (F.L.length + 1) (F.n + 1) * (pts w2.heap.size (ndO ⟨w2.heap.size, k, t, none, 0, 1, 0⟩) * (ndHp x * (X * R)))) by ac_rfl)
  have cm2 : w3.cell? ⟨fb, 3, none⟩ = some (.map (some mb)) := by rw [cell_at T2f.get]; rfl
  have hl2 := pmap_look Tryz.underlying81 zeroNode T2 d Hdi.out
  rw [show putP (blk F.L) (g : Int) w2.heap.size d = some x.b by unfold putP; rw [if_neg (fun e => hgn1 e.symm)]; unfold blk; rw [Ok.out.root]; rfl] at hl2
  unfold pv at hl2
  have T2x := T2.perm (show _ = pts x.b (ndO x) * (kidsHp x.kids * (pts fb (fsO F mb) * (pmap mb (putP (blk F.L) (g : Int) w2.heap.size) (F.L.length + 1) (F.n + 1) * (pts w2.heap.size (ndO ⟨w2.heap.size, k, t, none, 0, 1, 0⟩) * (X * R))))) by unfold ndHp; ac_rfl)
  obtain ⟨-, -, d2, -⟩ := nd_cells T2x
  rw [Ok.out.kids] at d2
  unfold kv at d2
  dsimp only at d2
  have T2k := T2x.perm (show _ = K.smap kd.b kd.M kd.sz kd.n * (pts x.b (ndO x) * (pts fb (fsO F mb) * (pmap mb (putP (blk F.L) (g : Int) w2.heap.size) (F.L.length + 1) (F.n + 1) * (pts w2.heap.size (ndO ⟨w2.heap.size, k, t, none, 0, 1, 0⟩) * (X * R))))) by rw [Ok.out.kids]; show pts x.b (ndO x) * (K.smap kd.b kd.M kd.sz kd.n * _) = _; ac_rfl)
  obtain ⟨w4, hrun2, T3, R3⟩ := K.smap_put T2k (by have := Ok.out.kn; unfold maxLen; omega) (s) (by unfold maxLen; omega) Ok.out.new (g : Int) (by unfold I64; omega)
  have T3f := T3.perm (show _ = pts fb (fsO F mb) * (K.smap kd.b (K.putM kd.M (s) (g : Int)) (kd.sz + 1) (kd.n + 1) * (pts x.b (ndO x) * (pmap mb (putP (blk F.L) (g : Int) w2.heap.size) (F.L.length + 1) (F.n + 1) * (pts w2.heap.size (ndO ⟨w2.heap.size, k, t, none, 0, 1, 0⟩) * (X * R))))) by ac_rfl)
  have cu : w4.cell? ⟨fb, 2, none⟩ = some (.int .i64 F.used) := by rw [cell_at T3f.get]; rfl
  have f4 : ∀ i, w4.frozen? ⟨fb, i, none⟩ = false := fun i => free_at T3f.get i
  have T4 := T3f.set (i := 2) (.int .i64 (F.used + (t.size : Int)))
  have T5 := Lib.hid (made_satG (nb := w2.heap.size) (y := ⟨w2.heap.size, k, t, none, 0, 1, 0⟩) rfl rfl Ok.out hX2 (T4.perm (show pts fb (fsO { F with used := F.used + (t.size : Int) } mb) * _ = pts fb (fsO { F with used := F.used + (t.size : Int) } mb) * (K.smap kd.b (K.putM kd.M (s) (g : Int)) (kd.sz + 1) (kd.n + 1) * (pmap mb (putP (blk F.L) (g : Int) w2.heap.size) (F.L.length + 1) (F.n + 1) * (ndHp ⟨w2.heap.size, k, t, none, 0, 1, 0⟩ * (pts x.b (ndO x) * (X * R))))) by unfold ndHp kidsHp; dsimp only; rw [sep_emp]; ac_rfl)))
  have R5 := Lib.hid (Ran.set (Below.trans (Below.trans (Ran.new R1.out (ndO ⟨w2.heap.size, k, t, none, 0, 1, 0⟩)) R2) R3) ⟨fb, 2, none⟩ (.int .i64 (F.used + (t.size : Int))))
  unfold ndO kv at hrun1 cm1
  dsimp only at hrun1 cm1
  have hg1I : (1 : Int) ≤ (g : Int) := by omega
  clear S1 T1 T2 T2f T2x T2k T3 T3f T4 R2 R3 hX1 hX2 hw2 hln
  go_wp2_with fail
  go_loopg [15] (g - 1) (fun (gk : Nat) (v15 : Value) (wr : World) => ∃ i : Nat, v15 = .int .i64 (i : Int) ∧ 1 ≤ i ∧ i + gk = g ∧ w2 = wr)
  case atStart => exact ⟨1, rfl, Nat.le_refl _, by omega, rfl⟩
  case round =>
    obtain ⟨i, rfl, hi1, hig, rfl⟩ := hrel
    by_cases hlt : i < g
    · have hs := Ok.out.free.least i hi1 hlt
      obtain ⟨z, hz⟩ := Option.isSome_iff_exists.1 hs
      have hl := HLk.out (i : Int) (by unfold I64; omega)
      rw [show blk F.L (i : Int) = some z.b by unfold blk; rw [hz]; rfl] at hl
      unfold pv at hl
      have hiI : (i : Int) ≤ 1000001 := by omega
      have hi0 : (0 : Int) ≤ (i : Int) := by omega
      clear hs hz hrun1 hrun2 cm1 cm2 hl2 d2 cu f4
      go_wp2_with fail
      go_roundg (gk - 1)
      case rel => exact ⟨i + 1, by simp, by omega, by omega, rfl⟩
      case measure => omega
    · have hie : i = g := by omega
      subst hie
      have hl := HLk.out (i : Int) (by unfold I64; omega)
      rw [show blk F.L (i : Int) = none by unfold blk; rw [Ok.out.free.none]; rfl] at hl
      unfold pv at hl
      clear hlt
      go_wp2_with fail
      go_ret2
      exact ⟨⟨rfl, w2.heap.size, T5.out⟩, R5.out⟩
set_option maxRecDepth 100000 in
set_option maxHeartbeats 8000000 in
theorem MakeGD_calls (fb mb : Nat) (F : Fs) (d0 : Int) (p : ByteArray) (d : Int) (x : Nd) (kd : Kd) (s : ByteArray) (g : Nat) (hdi : I64 d) (hss : s.size ≤ 1000000) (ok : MakeOkG F d x kd s g ⟨#[]⟩) (w : World) (R : Hp)
    (HP0 : Calls Tryz.prog 55 #[pp fb, .int .i64 d0, .string p, .int .i64 1] w fun e w' => (e = .returned (.tuple #[.int .i64 d, .string s, .int .i64 0]) ∧ Sat w' (fsHp fb mb F * R)) ∧ Ran w w') :
    Calls Tryz.prog 27 #[pp fb, .int .i64 d0, .string p, .int .i64 1, .string ⟨#[]⟩] w fun e w' => (e = .returned (.tuple #[.int .i64 (g : Int), .int .i64 0]) ∧ ∃ nb kb, Sat w' (fsHp fb mb (madeG F d x kd s g ⟨nb, 1, ⟨#[]⟩, some ⟨kb, fun _ => none, 0, 0⟩, d, 1, 0⟩) * R)) ∧ Ran w w' := by
  have HP := Lib.hid HP0
  have Hdi := Lib.hid hdi
  have Ok := Lib.hid ok
  clear HP0 ok hdi
  go_enter Tryz.func27, Tryz.ntmps27
  go_wp2_with fail
  refine HP.out.mono ?_
  rintro e w1 ⟨⟨rfl, S1⟩, R1⟩
  have S1 := S1.drew
  have R1 := Lib.hid (Ran.drewN R1 1)
  obtain ⟨c0, c1, c2, c3⟩ := fs_cells S1
  have hln := pmap_len Tryz.underlying81 (S1.perm (show _ = pmap mb (blk F.L) F.L.length F.n * (pts fb (fsO F mb) * nds F.L * R) by unfold fsHp; ac_rfl))
  obtain ⟨o1, o2, o3, o4, o5, o6⟩ := And.intro Ok.out.most (And.intro Ok.out.room (And.intro Ok.out.used.1 (And.intro Ok.out.used.2 (And.intro Ok.out.rm.1 Ok.out.rm.2))))
  have hwr : IntKind.i64.wrap (F.room - F.used) = F.room - F.used := IntWalk.i64_in _ (by omega)
  have hle1 : ¬ F.most ≤ (F.L.length : Int) := by omega
  have hle2 : decide (F.most ≤ (F.L.length : Int)) = false := decide_eq_false hle1
  have o7 : (0 : Int) ≤ F.room - F.used := o2
  have hle3 : ¬ F.room - F.used < 0 := by omega
  have hle4 : decide (F.room - F.used < 0) = false := decide_eq_false hle3
  have S1 := Lib.hid S1
  clear HP
  go_wp2_with fail
  refine region_plan (S := (fun w' => w'.cell? ⟨fb, 0, none⟩ = some (.int .i64 F.most) ∧ w'.cell? ⟨fb, 1, none⟩ = some (.int .i64 F.room) ∧ w'.cell? ⟨fb, 2, none⟩ = some (.int .i64 F.used) ∧ w'.cell? ⟨fb, 3, none⟩ = some (.map (some mb)) ∧ ∀ ty, (Builtin.len_ #[81] ty #[.map (some mb)]).run Tryz.prog w' = .ok (.int .i64 (F.L.length : Int)) w')) [(0, true), (1, true), (2, true), (3, true), (4, true), (5, true), (6, true), (7, true), (8, true), (9, true), (10, true), (11, true), (12, true), (13, true), (14, true), (15, true), (16, true), (17, true), (18, true), (19, true), (20, true), (21, true), (22, true), (23, true), (24, true)] (by kernel_rfl) (by kernel_rfl) (by kernel_rfl) ?_ ?_
  · ((try dsimp only); (first | done | (exact ⟨c0, c1, c2, c3, hln⟩)))
  simp only [planOps, List.map_cons, List.map_nil, List.getElem?_toArray, List.getElem?_cons_zero, List.getElem?_cons_succ]
  repeat (first
    | ((refine plan_yes (v := ?_) (by rfl) ?_ ?_); rotate_left; (focus (intro w hSw; (try dsimp only at hSw); go_simp; try (with_reducible rfl))); (try simp only [Act.put, List.setIfInBounds_toArray, List.set_cons_zero, List.set_cons_succ]))
    | ((refine plan_no (by rfl) ?_); (try simp only [Act.put, List.setIfInBounds_toArray, List.set_cons_zero, List.set_cons_succ]))
    | ((refine plan_step (fun K hK => ?_)); (first | (fail) | (go_simp; (fail); (try go_wp2_with fail)) | go_simp); (refine hK.out _ _ ?_ (fun hHeld => ?_)); (focus ((try dsimp only); (first | done | (exact ⟨c0, c1, c2, c3, hln⟩)))); clear hK K; (try simp only [Act.put, List.setIfInBounds_toArray, List.set_cons_zero, List.set_cons_succ])))
  refine plan_done ?_
  obtain ⟨w2, hw2⟩ : ∃ w2, w2 = w1.drew := ⟨_, rfl⟩
  have S1 := S1.out
  rw [← hw2] at S1 c0 c1 c2 c3 ⊢
  have R1 : Hid (Ran w w2) := Lib.hid (by rw [hw2]; exact R1.out)
  have HLk := Lib.hid (fun (k : Int) (hk : I64 k) => fs_look S1 k hk)
  have hLn : F.L.length ≤ 1000000 := Nat.le_trans (pmap_le (S1.perm (show _ = pmap mb (blk F.L) F.L.length F.n * (pts fb (fsO F mb) * nds F.L * R) by unfold fsHp; ac_rfl))) Ok.out.n
  have hg1 := Ok.out.free.pos
  have hg2 := Ok.out.free.le
  have hgI : (g : Int) ≤ 1000001 := by omega
  -- what comes
  obtain ⟨X, hX1, hX2⟩ := focus F.L d x Ok.out.root
  have hgn1 : (g : Int) ≠ d := fun e => by
    have := Ok.out.free.none
    rw [e, Ok.out.root] at this
    cases this
  have U1 := K.smap_made (S1.alloc (ndO ⟨w2.heap.size, 1, ⟨#[]⟩, some ⟨w2.heap.size + 1, fun _ => none, 0, 0⟩, d, 1, 0⟩))
  rw [World.size_alloc] at U1
  obtain ⟨kb, hkb⟩ : ∃ kb, kb = w2.heap.size + 1 := ⟨_, rfl⟩
  rw [← hkb] at U1
  obtain ⟨wn, hwn⟩ : ∃ wn, wn = (w2.alloc (ndO ⟨w2.heap.size, 1, ⟨#[]⟩, some ⟨kb, fun _ => none, 0, 0⟩, d, 1, 0⟩)).alloc (.map #[] 0) := ⟨_, rfl⟩
  rw [← hwn] at U1
  have Rn : Ran w wn := by rw [hwn]; exact Ran.new (Ran.new R1.out _) _
  have T1 := U1.perm (show _ = pmap mb (blk F.L) F.L.length F.n * (ndHp ⟨w2.heap.size, 1, ⟨#[]⟩, some ⟨kb, fun _ => none, 0, 0⟩, d, 1, 0⟩ * (pts fb (fsO F mb) * (ndHp x * (X * R)))) by unfold fsHp; rw [hX1, show ndHp ⟨w2.heap.size, 1, ⟨#[]⟩, some ⟨kb, fun _ => none, 0, 0⟩, d, 1, 0⟩ = pts w2.heap.size (ndO ⟨w2.heap.size, 1, ⟨#[]⟩, some ⟨kb, fun _ => none, 0, 0⟩, d, 1, 0⟩) * K.smap kb (fun _ => none) 0 0 from rfl]; ac_rfl)
  obtain ⟨w3, hrun1, T2, R2⟩ := pmap_put Tryz.underlying81 T1 (by have := Ok.out.n; unfold maxLen; omega) (g : Int) (by unfold I64; omega) (by unfold blk; rw [Ok.out.free.none]; rfl) w2.heap.size
  have cm1 : wn.cell? ⟨fb, 3, none⟩ = some (.map (some mb)) := by
    have := (T1.perm (show _ = pts fb (fsO F mb) * (pmap mb (blk F.L) F.L.length F.n * (ndHp ⟨w2.heap.size, 1, ⟨#[]⟩, some ⟨kb, fun _ => none, 0, 0⟩, d, 1, 0⟩ * (ndHp x * (X * R)))) by ac_rfl)).get
    rw [cell_at this]; rfl
  have T2f := T2.perm (show _ = pts fb (fsO F mb) * (pmap mb (putP (blk F.L) (g : Int) w2.heap.size) (F.L.length + 1) (F.n + 1) * (ndHp ⟨w2.heap.size, 1, ⟨#[]⟩, some ⟨kb, fun _ => none, 0, 0⟩, d, 1, 0⟩ * (ndHp x * (X * R)))) by ac_rfl)
  have cm2 : w3.cell? ⟨fb, 3, none⟩ = some (.map (some mb)) := by rw [cell_at T2f.get]; rfl
  have hl2 := pmap_look Tryz.underlying81 zeroNode T2 d Hdi.out
  rw [show putP (blk F.L) (g : Int) w2.heap.size d = some x.b by unfold putP; rw [if_neg (fun e => hgn1 e.symm)]; unfold blk; rw [Ok.out.root]; rfl] at hl2
  unfold pv at hl2
  have T2x := T2.perm (show _ = pts x.b (ndO x) * (kidsHp x.kids * (pts fb (fsO F mb) * (pmap mb (putP (blk F.L) (g : Int) w2.heap.size) (F.L.length + 1) (F.n + 1) * (ndHp ⟨w2.heap.size, 1, ⟨#[]⟩, some ⟨kb, fun _ => none, 0, 0⟩, d, 1, 0⟩ * (X * R))))) by show _ = pts x.b (ndO x) * (kidsHp x.kids * _); rw [show ndHp x = pts x.b (ndO x) * kidsHp x.kids from rfl]; ac_rfl)
  obtain ⟨-, -, d2, -⟩ := nd_cells T2x
  rw [Ok.out.kids] at d2
  unfold kv at d2
  dsimp only at d2
  have T2k := T2x.perm (show _ = K.smap kd.b kd.M kd.sz kd.n * (pts x.b (ndO x) * (pts fb (fsO F mb) * (pmap mb (putP (blk F.L) (g : Int) w2.heap.size) (F.L.length + 1) (F.n + 1) * (ndHp ⟨w2.heap.size, 1, ⟨#[]⟩, some ⟨kb, fun _ => none, 0, 0⟩, d, 1, 0⟩ * (X * R))))) by rw [Ok.out.kids]; show pts x.b (ndO x) * (K.smap kd.b kd.M kd.sz kd.n * _) = _; ac_rfl)
  obtain ⟨w4, hrun2, T3, R3⟩ := K.smap_put T2k (by have := Ok.out.kn; unfold maxLen; omega) (s) (by unfold maxLen; omega) Ok.out.new (g : Int) (by unfold I64; omega)
  have T3f := T3.perm (show _ = pts fb (fsO F mb) * (K.smap kd.b (K.putM kd.M (s) (g : Int)) (kd.sz + 1) (kd.n + 1) * (pts x.b (ndO x) * (pmap mb (putP (blk F.L) (g : Int) w2.heap.size) (F.L.length + 1) (F.n + 1) * (ndHp ⟨w2.heap.size, 1, ⟨#[]⟩, some ⟨kb, fun _ => none, 0, 0⟩, d, 1, 0⟩ * (X * R))))) by ac_rfl)
  have cu : w4.cell? ⟨fb, 2, none⟩ = some (.int .i64 F.used) := by rw [cell_at T3f.get]; rfl
  have f4 : ∀ i, w4.frozen? ⟨fb, i, none⟩ = false := fun i => free_at T3f.get i
  have T4 := T3f.set (i := 2) (.int .i64 F.used)
  have eu : F.used + (((⟨#[]⟩ : ByteArray).size : Nat) : Int) = F.used := by show F.used + 0 = F.used; omega
  have T5 := Lib.hid (made_satG (nb := w2.heap.size) (y := ⟨w2.heap.size, 1, ⟨#[]⟩, some ⟨kb, fun _ => none, 0, 0⟩, d, 1, 0⟩) rfl rfl Ok.out hX2 (T4.perm (show pts fb (fsO { F with used := F.used } mb) * _ = pts fb (fsO { F with used := F.used + (((⟨#[]⟩ : ByteArray).size : Nat) : Int) } mb) * (K.smap kd.b (K.putM kd.M (s) (g : Int)) (kd.sz + 1) (kd.n + 1) * (pmap mb (putP (blk F.L) (g : Int) w2.heap.size) (F.L.length + 1) (F.n + 1) * (ndHp ⟨w2.heap.size, 1, ⟨#[]⟩, some ⟨kb, fun _ => none, 0, 0⟩, d, 1, 0⟩ * (pts x.b (ndO x) * (X * R))))) by rw [eu]; ac_rfl)))
  have R5 := Lib.hid (Ran.set (Below.trans (Below.trans Rn R2) R3) ⟨fb, 2, none⟩ (.int .i64 F.used))
  rw [hwn] at hrun1 cm1
  unfold ndO kv at hrun1 cm1
  dsimp only at hrun1 cm1
  rw [hkb] at hrun1 cm1
  have hmk : ∀ W : World, (Instr.makeMap 89 none).run Tryz.prog W = .ok (.map (some W.heap.size)) (W.alloc (.map #[] 0)) := fun W => rfl
  have hg1I : (1 : Int) ≤ (g : Int) := by omega
  clear S1 U1 hwn Rn eu hkb T1 T2 T2f T2x T2k T3 T3f T4 R2 R3 hX1 hX2 hw2 hln
  go_wp2_with fail
  go_loopg [15] (g - 1) (fun (gk : Nat) (v15 : Value) (wr : World) => ∃ i : Nat, v15 = .int .i64 (i : Int) ∧ 1 ≤ i ∧ i + gk = g ∧ w2 = wr)
  case atStart => exact ⟨1, rfl, Nat.le_refl _, by omega, rfl⟩
  case round =>
    obtain ⟨i, rfl, hi1, hig, rfl⟩ := hrel
    by_cases hlt : i < g
    · have hs := Ok.out.free.least i hi1 hlt
      obtain ⟨z, hz⟩ := Option.isSome_iff_exists.1 hs
      have hl := HLk.out (i : Int) (by unfold I64; omega)
      rw [show blk F.L (i : Int) = some z.b by unfold blk; rw [hz]; rfl] at hl
      unfold pv at hl
      have hiI : (i : Int) ≤ 1000001 := by omega
      have hi0 : (0 : Int) ≤ (i : Int) := by omega
      clear hs hz hrun1 hrun2 cm1 cm2 hl2 d2 cu f4
      go_wp2_with fail
      go_roundg (gk - 1)
      case rel => exact ⟨i + 1, by simp, by omega, by omega, rfl⟩
      case measure => omega
    · have hie : i = g := by omega
      subst hie
      have hl := HLk.out (i : Int) (by unfold I64; omega)
      rw [show blk F.L (i : Int) = none by unfold blk; rw [Ok.out.free.none]; rfl] at hl
      unfold pv at hl
      clear hlt
      go_wp2_with fail
      go_ret2
      exact ⟨⟨rfl, w2.heap.size, kb, T5.out⟩, R5.out⟩
end Go.Proofs.YtndjgeohkfenfaaGreatDoor.Hd

namespace Go.Proofs.YtndjgeohkfenfaaGreatDoor.Hd
open Go.RowKit Go.Maps Go.Proofs.YtndjgeohkfenfaaGreatDoor Go.Proofs.YtndjgeohkfenfaaGreatDoor.Hp
set_option linter.unusedVariables false
attribute [local go_sem] Oper.semAt_some

/-- The root, when it is new. -/
def rootN (b kb : Nat) : Nd := ⟨b, 1, ⟨#[]⟩, some ⟨kb, fun _ => none, 0, 0⟩, 1, 0, 0⟩
def newF (most room : Int) (b kb : Nat) : Fs := ⟨most, room, 0, [((1 : Int), rootN b kb)], 1⟩
set_option maxRecDepth 100000 in
set_option maxHeartbeats 8000000 in
theorem New_calls (most room : Int) (h1 : 1 ≤ most) (h2 : most ≤ 1024) (h3 : 0 ≤ room) (h4 : room ≤ 1048576) (w : World) (R : Hp) (h : Sat w R) :
    Calls Tryz.prog 26 #[.int .i64 most, .int .i64 room] w fun e w' => (∃ fb mb b kb, e = .returned (.tuple #[pp fb, .int .i64 0]) ∧ Sat w' (fsHp fb mb (newF most room b kb) * R)) ∧ Ran w w' := by
  have hmk1 : ∀ W : World, (Instr.makeMap 81 none).run Tryz.prog W = .ok (.map (some W.heap.size)) (W.alloc (.map #[] 0)) := fun W => rfl
  have hmk2 : ∀ W : World, (Instr.makeMap 89 none).run Tryz.prog W = .ok (.map (some W.heap.size)) (W.alloc (.map #[] 0)) := fun W => rfl
  have S1 := pmap_made h
  have S2 := K.smap_made S1
  rw [World.size_alloc] at S2
  have S3 := S2.alloc (ndO (rootN (w.heap.size + 1 + 1) (w.heap.size + 1)))
  rw [World.size_alloc, World.size_alloc] at S3
  have S4 := S3.perm (show _ = pmap w.heap.size (fun _ => none) 0 0 * (pts (w.heap.size + 1 + 1) (ndO (rootN (w.heap.size + 1 + 1) (w.heap.size + 1))) * (K.smap (w.heap.size + 1) (fun _ => none) 0 0 * R)) by ac_rfl)
  obtain ⟨w3, hrun, S5, R5⟩ := pmap_put Tryz.underlying81 S4 (by unfold maxLen; omega) 1 (by unfold I64; omega) rfl (w.heap.size + 1 + 1)
  have S6 := Lib.hid ((S5.alloc (fsO (newF most room (w.heap.size + 1 + 1) (w.heap.size + 1)) w.heap.size)).perm (show _ = fsHp w3.heap.size w.heap.size (newF most room (w.heap.size + 1 + 1) (w.heap.size + 1)) * R by
    unfold fsHp
    rw [show blk (newF most room (w.heap.size + 1 + 1) (w.heap.size + 1)).L = putP (fun _ => none) 1 (w.heap.size + 1 + 1) by
      unfold newF; dsimp only; rw [blk_cons]; rfl]
    show _ = pts w3.heap.size (fsO (newF most room (w.heap.size + 1 + 1) (w.heap.size + 1)) w.heap.size) * (pmap w.heap.size (putP (fun _ => none) 1 (w.heap.size + 1 + 1)) (0 + 1) (0 + 1) * ((pts (w.heap.size + 1 + 1) (ndO (rootN (w.heap.size + 1 + 1) (w.heap.size + 1))) * K.smap (w.heap.size + 1) (fun _ => none) 0 0) * emp)) * R
    rw [sep_emp]
    ac_rfl))
  have R6 := Lib.hid (Ran.new (Below.trans (Ran.new (Ran.new (Ran.new (Below.refl 0 w) (.map #[] 0)) (.map #[] 0)) (ndO (rootN (w.heap.size + 1 + 1) (w.heap.size + 1)))) R5) (fsO (newF most room (w.heap.size + 1 + 1) (w.heap.size + 1)) w.heap.size))
  unfold ndO rootN kv at hrun
  dsimp only at hrun
  clear h S1 S2 S3 S4 S5 R5
  go_enter Tryz.func26, Tryz.ntmps26
  go_wp2_with fail
  go_ret2
  exact ⟨⟨w3.heap.size, w.heap.size, w.heap.size + 1 + 1, w.heap.size + 1, rfl, S6.out⟩, R6.out⟩
theorem place_part (F : Fs) (d : Int) (s : ByteArray) (k : Int) : (placeP F d s k).2.1.size ≤ s.size := by
  unfold placeP placeQ
  split
  · exact Nat.zero_le _
  split
  · exact Nat.zero_le _
  split
  · exact Nat.zero_le _
  split
  · exact Nat.zero_le _
  split
  · exact Nat.zero_le _
  split
  · exact Nat.zero_le _
  · exact last_part F d s
theorem step_none {F : Fs} {d : Int} {s : ByteArray} (hs : (stepP F d s).2 = 10) (h1 : s ≠ dotB) (h2 : s ≠ dotsB) : ∃ x, find F.L d = some x ∧ x.kind = 1 ∧ kidP x s = 0 ∧ rightB s = true := by
  unfold stepP at hs
  cases hx : find F.L d with
  | none => rw [hx] at hs; cases hs
  | some x =>
    rw [hx] at hs
    dsimp only at hs
    by_cases hk : x.kind = 1
    · rw [if_pos hk, if_neg h1, if_neg h2] at hs
      by_cases h3 : rightB s = false
      · rw [if_pos h3] at hs; cases hs
      rw [if_neg h3] at hs
      unfold tellP at hs
      by_cases h4 : kidP x s = 0
      · exact ⟨x, rfl, hk, h4, by simpa using h3⟩
      · rw [if_neg h4] at hs; cases hs
    · rw [if_neg hk] at hs; cases hs
theorem place_ok {N : Nat} {F : Fs} (h : TreeG N F) {d : Int} {s : ByteArray} {k : Int} (hz : (placeP F d s k).2.2 = 0) :
    ∃ x kd, find F.L (placeP F d s k).1 = some x ∧ x.kind = 1 ∧ x.kids = some kd ∧ ((placeP F d s k).1 = 1 ∨ x.names ≠ 0) ∧ kd.M (placeP F d s k).2.1 = none ∧ rightB (placeP F d s k).2.1 = true := by
  have hin := @TreeG.last_in N F h d s
  unfold placeP at hz ⊢
  obtain ⟨dir, hdir⟩ : ∃ x, x = (lastP F d s).1 := ⟨_, rfl⟩
  obtain ⟨part, hpart⟩ : ∃ x, x = (lastP F d s).2.1 := ⟨_, rfl⟩
  obtain ⟨st, hst⟩ : ∃ x, x = (lastP F d s).2.2.1 := ⟨_, rfl⟩
  obtain ⟨er, her⟩ : ∃ x, x = (lastP F d s).2.2.2 := ⟨_, rfl⟩
  rw [← hdir, ← hpart, ← hst, ← her] at hz ⊢
  clear hdir hpart hst her hin
  unfold placeQ at hz ⊢
  by_cases h1 : er ≠ 0
  · rw [if_pos h1] at hz; exact absurd hz h1
  rw [if_neg h1] at hz ⊢
  by_cases h2 : dir ≠ 1 ∧ namesOf F dir = 0
  · rw [if_pos h2] at hz; cases hz
  rw [if_neg h2] at hz ⊢
  by_cases h3 : part.size = 0 ∨ part = dotB ∨ part = dotsB
  · rw [if_pos h3] at hz; cases hz
  rw [if_neg h3] at hz ⊢
  by_cases h4 : (stepP F dir part).2 = 0
  · rw [if_pos h4] at hz; cases hz
  rw [if_neg h4] at hz ⊢
  by_cases h5 : (stepP F dir part).2 ≠ 10
  · rw [if_pos h5] at hz; exact absurd hz h4
  rw [if_neg h5] at hz ⊢
  by_cases h6 : st = true ∧ k ≠ 1
  · rw [if_pos h6] at hz; cases hz
  rw [if_neg h6]
  have h5 : (stepP F dir part).2 = 10 := by simpa using h5
  obtain ⟨x, hx, hk, hkid, hrb⟩ := step_none h5 (fun e => h3 (.inr (.inl e))) (fun e => h3 (.inr (.inr e)))
  obtain ⟨kd, hkd⟩ : ∃ kd, x.kids = some kd := by
    rcases h.kinds dir x hx with ⟨-, e⟩ | ⟨e, -⟩
    · exact e
    · omega
  refine ⟨x, kd, hx, hk, hkd, ?_, ?_, hrb⟩
  · by_cases e : dir = 1
    · exact .inl e
    · right
      intro e2
      exact h2 ⟨e, by unfold namesOf; rw [hx]; exact e2⟩
  · show kd.M part = none
    unfold kidP at hkid
    rw [hkd] at hkid
    dsimp only at hkid
    cases hv : kd.M part with
    | none => rfl
    | some v =>
      rw [hv] at hkid
      have hkid : v = 0 := hkid
      obtain ⟨-, y, hy, -⟩ := h.kid dir part v ⟨x, kd, hx, hkd, hv⟩
      have := (h.rng v y hy).1
      omega
theorem tree_new (most room : Int) (hr : 0 ≤ room ∧ room ≤ 1000000) (b kb : Nat) : TreeG 1 (newF most room b kb) := by
  have one : ∀ k x, find (newF most room b kb).L k = some x → k = 1 ∧ x = rootN b kb := fun k x hx => by
    have hx : (if (1 : Int) = k then some (rootN b kb) else none) = some x := hx
    split at hx
    · rename_i e; injection hx with hx; exact ⟨e.symm, hx.symm⟩
    · cases hx
  have noR : ∀ k s v, ¬ Ref (newF most room b kb) k s v := fun k s v ⟨x, kd, hx, hk, hv⟩ => by
    obtain ⟨-, rfl⟩ := one k x hx
    injection hk with hk; subst hk; cases hv
  exact {
    nd := by show [(1 : Int)].Nodup; simp
    rng := fun k x hx => by obtain ⟨e, -⟩ := one k x hx; omega
    root := ⟨rootN b kb, rfl, rfl, rfl⟩
    kinds := fun k x hx => by obtain ⟨-, rfl⟩ := one k x hx; exact .inl ⟨rfl, _, rfl⟩
    kid := fun k s v hr => absurd hr (noR k s v)
    short := fun k s v hr => absurd hr (noR k s v)
    cnt := ⟨[], List.nodup_nil, Nat.zero_le _, fun k s v => ⟨fun hr => absurd hr (noR k s v), fun hm => by cases hm⟩, fun k x hx => by obtain ⟨-, rfl⟩ := one k x hx; rfl⟩
    par := fun k x hx hk => by obtain ⟨e, -⟩ := one k x hx; exact absurd e hk
    bare := fun k x s v hx hk hn => noR k s v
    each := fun k x hx => by
      obtain ⟨-, rfl⟩ := one k x hx
      refine ⟨Nat.zero_le _, Int.le_refl _, by show (0 : Int) ≤ 1; omega, fun kd hkd => ?_⟩
      injection hkd with hkd; subst hkd
      exact ⟨Nat.zero_le _, Nat.zero_le _⟩
    n := ⟨Nat.le_refl _, Nat.le_refl _⟩
    used := rfl
    room := ⟨hr.1, hr.2⟩ }
theorem tree_u {N : Nat} {F : Fs} (h : TreeG N F) : 0 ≤ F.used ∧ F.used ≤ 1000000000 := ⟨by rw [h.used]; omega, by have := h.room; omega⟩
theorem tree_r {N : Nat} {F : Fs} (h : TreeG N F) : 0 ≤ F.room ∧ F.room ≤ 1000000000 := by
  have h1 := h.room
  have h2 := (tree_u h).1
  exact ⟨by omega, by omega⟩
/-- The node that Make lays. -/
def mkN (k : Int) (t : ByteArray) (dir : Int) (nb kb : Nat) : Nd := if k = 1 then ⟨nb, 1, ⟨#[]⟩, some ⟨kb, fun _ => none, 0, 0⟩, dir, 1, 0⟩ else ⟨nb, k, t, none, 0, 1, 0⟩
theorem mkN_new (k : Int) (t : ByteArray) (dir : Int) (nb kb : Nat) (hk : k = 1 ∨ k = 2 ∨ k = 3) (ht : t.size ≤ 4096) : NewN dir (mkN k t dir nb kb) := by
  unfold mkN
  split
  · exact ⟨.inl ⟨rfl, _, rfl⟩, fun kd h => (by injection h with h; subst h; exact ⟨fun _ => rfl, rfl, rfl⟩), .inr rfl, rfl, rfl, Nat.zero_le _⟩
  · rename_i h1
    exact ⟨.inr ⟨by rcases hk with e | e | e; exact absurd e h1; exact .inl e; exact .inr e, rfl⟩, fun kd h => (by cases h), .inl rfl, rfl, rfl, ht⟩
/-- A node more: what a call of Make leaves where it makes one. -/
theorem make_step (fb mb N : Nat) (F : Fs) (hT : TreeG N F) (hN : N ≤ 900000) (d0 : Int) (p : ByteArray) (k : Int) (t : ByteArray) (dir : Int) (part : ByteArray) (hk : k = 1 ∨ k = 2 ∨ k = 3) (hkt : k = 1 → t = ⟨#[]⟩) (hd : I64 d0) (hp : p.size ≤ 1000000)
    (hpl : placeP F d0 p k = (dir, part, 0)) (x : Nd) (kd : Kd) (hx : find F.L dir = some x) (hkd : x.kids = some kd) (g : Nat) (hg : FreeN F.L g) (hm : (F.L.length : Int) < F.most) (ht : t.size ≤ 4096) (hr : (t.size : Int) ≤ F.room - F.used)
    (w : World) (R : Hp) (hG : Glob R) (h : Sat w (fsHp fb mb F * R)) :
    Calls Tryz.prog 27 #[pp fb, .int .i64 d0, .string p, .int .i64 k, .string t] w fun e w' => (e = .returned (.tuple #[.int .i64 (g : Int), .int .i64 0]) ∧ ∃ nb kb, TreeG (N + 1) (madeG F dir x kd part g (mkN k t dir nb kb)) ∧ Sat w' (fsHp fb mb (madeG F dir x kd part g (mkN k t dir nb kb)) * R)) ∧ Ran w w' := by
  have HP := placeN_calls fb mb N F hT (by omega) d0 p k w R hd hp hG h
  have hps := place_part F d0 p k
  have hok := @place_ok N F hT d0 p k
  rw [hpl] at HP hps hok
  dsimp only at HP hps hok
  obtain ⟨x1, kd1, hx1, hk1, hkd1, hnm, hM, hrb⟩ := hok rfl
  rw [hx] at hx1; injection hx1 with hx1; subst hx1
  rw [hkd] at hkd1; injection hkd1 with hkd1; subst hkd1
  have hes := (hT.each dir x hx).2.2.2 kd hkd
  have hn := hT.n
  have hfin : ∀ nb kb, TreeG (N + 1) (madeG F dir x kd part g (mkN k t dir nb kb)) := fun nb kb => hT.make hN hx hk1 hkd hnm hrb hM hg (mkN_new k t dir nb kb hk ht) (by
    unfold mkN
    split
    · show F.used + 0 ≤ _; have := hT.room; omega
    · show F.used + (t.size : Int) ≤ _; omega)
  have okG : MakeOkG F dir x kd part g t := ⟨hx, hk1, hkd, hM, by omega, hg, by omega, hm, ht, hr, tree_u hT, tree_r hT⟩
  rcases hk with e | e
  · subst e
    obtain rfl := hkt rfl
    refine (MakeGD_calls fb mb F d0 p dir x kd part g (hT.in_i64 hx) (by omega) okG w R HP).mono ?_
    rintro e w' ⟨⟨rfl, nb, kb, S⟩, hR⟩
    exact ⟨⟨rfl, nb, kb, hfin nb kb, S⟩, hR⟩
  · have hk1' : ¬ k = 1 := by omega
    refine (MakeG_calls fb mb F d0 p dir x kd part g t k (hT.in_i64 hx) (by omega) e okG w R HP).mono ?_
    rintro e w' ⟨⟨rfl, nb, S⟩, hR⟩
    refine ⟨⟨rfl, nb, 0, hfin nb 0, ?_⟩, hR⟩
    unfold mkN
    rw [if_neg hk1']
    exact S
end Go.Proofs.YtndjgeohkfenfaaGreatDoor.Hd

namespace Go.Proofs.YtndjgeohkfenfaaGreatDoor.Globs
open Go.RowKit Go.Proofs.YtndjgeohkfenfaaGreatDoor Go.Proofs.YtndjgeohkfenfaaGreatDoor.Hp
open Go.Proofs.YtndjgeohkfenfaaGreatDoor.Hd (fsHp Fs TreeG Glob WalkP NamesS pp finV finO fin_cells strA rightB FsOk NumsOk)
set_option linter.unusedVariables false
attribute [local go_sem] Oper.semAt_some

def StrsAt (w : World) (q : Option Addr) (l : List ByteArray) : Prop := (l.length : Int) ≤ 9223372036854775807 ∧ ∀ i (h : i < l.length), ∃ b o, q = some ⟨b, o, none⟩ ∧ b < w.heap.size ∧ w.cell? ⟨b, o + i, none⟩ = some (.string l[i])
theorem StrsAt.keep {W w : World} {q : Option Addr} {l : List ByteArray} (h : StrsAt W q l) (k : Kept W w) : StrsAt w q l :=
  ⟨h.1, fun i hi => by
    obtain ⟨b, o, e, hb, h0⟩ := h.2 i hi
    exact ⟨b, o, e, Nat.lt_of_lt_of_le hb k.1, by rw [k.cell hb]; exact h0⟩⟩
theorem strsAt_arr {w : World} {R : Hp} {p : Option Addr} {cap : Nat} {l : List ByteArray} (h : Sat w (strO p cap l * R)) : StrsAt w p l := by
  obtain ⟨h1, h2, h3⟩ := h.arr_len
  refine ⟨by unfold maxLen at h3; omega, fun i hi => ?_⟩
  obtain ⟨b, o, rfl⟩ := h.arr_addr (by omega)
  exact ⟨b, o, rfl, strO_lt h, strO_cell h i hi⟩
def TsRel (n : Nat) (w : World) (g : Nat) (iv : Value) (wr : World) : Prop := ∃ i : Nat, i + g = n ∧ iv = .int .i64 (i : Int) ∧ Below w.heap.size w wr
set_option maxRecDepth 100000 in
set_option maxHeartbeats 2000000 in
theorem texts_calls (l : List ByteArray) (pa pb : Option Addr) (ca cb : Nat) (w : World) (h : StrsAt w pa l) (k : StrsAt w pb l) :
    Calls Tryz.prog 17 #[.slice pa l.length ca, .slice pb l.length cb] w (FPost true w) := by
  have hlm : (l.length : Int) ≤ 9223372036854775807 := h.1
  have H := Lib.hid h
  have K := Lib.hid k
  clear h k
  go_enter Tryz.func17, Tryz.ntmps17
  go_wp2_with fail
  go_loopg [5] (l.length) (TsRel l.length w)
  case atStart => exact ⟨0, by omega, rfl, Below.refl _ _⟩
  case round =>
    obtain ⟨i, hig, rfl, hbel⟩ := hrel
    have hi0 : (0 : Int) ≤ i := by omega
    by_cases hi : i < l.length
    · have hil : (i : Int) < l.length := by omega
      obtain ⟨ab, ao, rfl, hab, a0⟩ := (H.out.keep (Kept.below hbel)).2 i hi
      obtain ⟨bb, bo, rfl, hbb, b0⟩ := (K.out.keep (Kept.below hbel)).2 i hi
      obtain ⟨x, hx⟩ : ∃ x, x = l[i] := ⟨_, rfl⟩
      rw [← hx] at a0 b0
      have Hig := Lib.hid hig
      clear hx hig
      go_wp2_with fail
      refine region_plan (S := (fun w' => w'.cell? ⟨ab, ao + i, none⟩ = some (.string x) ∧ w'.cell? ⟨bb, bo + i, none⟩ = some (.string x))) [(0, true), (1, true), (2, true), (3, true), (4, true), (5, true), (6, true), (7, true), (8, true)] (by kernel_rfl) (by kernel_rfl) (by kernel_rfl) ?_ ?_
      · ((try dsimp only); (first | done | (exact ⟨a0, b0⟩)))
      simp only [planOps, List.map_cons, List.map_nil, List.getElem?_toArray, List.getElem?_cons_zero, List.getElem?_cons_succ]
      repeat (first
        | ((refine plan_yes (v := ?_) (by rfl) ?_ ?_); rotate_left; (focus (intro w hSw; (try dsimp only at hSw); go_simp; try (with_reducible rfl))); (try simp only [Act.put, List.setIfInBounds_toArray, List.set_cons_zero, List.set_cons_succ]))
        | ((refine plan_no (by rfl) ?_); (try simp only [Act.put, List.setIfInBounds_toArray, List.set_cons_zero, List.set_cons_succ]))
        | ((refine plan_step (fun K hK => ?_)); (first | (fail) | (go_simp; (fail); (try go_wp2_with fail)) | go_simp); (refine hK.out _ _ ?_ (fun hHeld => ?_)); (focus ((try dsimp only); (first | done | (exact ⟨a0, b0⟩)))); clear hK K; (try simp only [Act.put, List.setIfInBounds_toArray, List.set_cons_zero, List.set_cons_succ])))
      refine plan_done ?_
      go_wp2_with fail
      go_roundg (gk - 1)
      case measure => have := Hig.out; omega
      case rel => exact ⟨i + 1, by have := Hig.out; omega, by go_num, hbel.drew⟩
    · have hge : ¬ ((i : Int) < l.length) := by omega
      go_wp2_with fail
      go_ret
      exact ⟨rfl, hbel⟩
/-- The names of where paths come to. -/
noncomputable def nmC (F : Fs) (dir : Int) (path : ByteArray) : List ByteArray := by
  classical exact if h : ∃ ks, NamesS F dir path ks then Classical.choose h else []
theorem nmC_eq {F : Fs} {dir : Int} {path : ByteArray} {ks : List ByteArray} (h : NamesS F dir path ks) : ks = nmC F dir path := by
  classical
  have hex : ∃ ks, NamesS F dir path ks := ⟨ks, h⟩
  have h2 : nmC F dir path = Classical.choose hex := by unfold nmC; rw [dif_pos hex]
  rw [h2]
  exact Hd.NamesS.one h (Classical.choose_spec hex)
theorem list_short {N : Nat} {F : Fs} (hT : TreeG N F) {k : Int} {ks : List ByteArray} (h : Hd.ListS F k ks) (x : ByteArray) (hx : x ∈ ks) : rightB x = true := by
  unfold Hd.ListS at h
  cases hf : Hd.find F.L k with
  | none =>
    rw [hf] at h
    have h : ks = [] := h
    rw [h] at hx; cases hx
  | some z =>
    rw [hf] at h
    dsimp only at h
    cases hk : z.kids with
    | none =>
      rw [hk] at h
      have h : ks = [] := h
      rw [h] at hx; cases hx
    | some kd =>
      rw [hk] at h
      have hs := (h.2 x).1 hx
      obtain ⟨v, hv⟩ := Option.isSome_iff_exists.1 hs
      exact hT.short k x v ⟨z, kd, hf, hk, hv⟩
theorem names_short {N : Nat} {F : Fs} (hT : TreeG N F) {dir : Int} {path : ByteArray} {ks : List ByteArray} (h : NamesS F dir path ks) (x : ByteArray) (hx : x ∈ ks) : rightB x = true := by
  unfold NamesS at h
  split at h
  · exact list_short hT h x hx
  · split at h
    · rw [h] at hx; cases hx
    · exact list_short hT h x hx
theorem right_le {s : ByteArray} (h : rightB s = true) : s.size ≤ 32 := by
  unfold rightB at h
  simp only [Bool.and_eq_true, decide_eq_true_eq] at h
  exact h.1.2
theorem nmC_right {N : Nat} {F : Fs} (hT : TreeG N F) (dir : Int) (path x : ByteArray) (hx : x ∈ nmC F dir path) : rightB x = true := by
  classical
  by_cases hex : ∃ ks, NamesS F dir path ks
  · obtain ⟨ks, hks⟩ := hex
    rw [← nmC_eq hks] at hx
    exact names_short hT hks x hx
  · have h2 : nmC F dir path = [] := by unfold nmC; rw [dif_neg hex]
    rw [h2] at hx; cases hx
def okC (F : Fs) (dir : Int) (s : ByteArray) : Bool := decide ((WalkP F dir s false).2 = 0)
theorem finOk {N : Nat} {F : Fs} (hT : TreeG N F) (hN : N ≤ 1000000) {dir : Int} (hd : Hd.I64 dir) : FinOk N F dir (nmC F dir) (okC F dir) where
  tree := hT
  hN := hN
  hd := hd
  names path ks h := nmC_eq h
  short path x hx := by have := right_le (nmC_right hT dir path x hx); omega
  good s := rfl
/-- What Expand answers at a tree. -/
noncomputable abbrev expC (F : Fs) (dir : Int) (t : List Ch) : List ByteArray := expandO (nmC F dir) (okC F dir) t
theorem chars_stay {w W : World} {ao : Option Addr} {cap : Nat} {t : List Ch} (h : CharsAt w ao cap t) (hk : ∀ k i n, w.cell? ⟨k, i, none⟩ = some (.int .u8 n) → W.heap[k]? = w.heap[k]?) : CharsAt W ao cap t := by
  refine ⟨h.1, h.2.1, fun i hi => ?_⟩
  obtain ⟨b, o, e, hb, c0, c1⟩ := h.2.2 i hi
  have hW := hk b _ _ c0
  have hc : ∀ j, W.cell? ⟨b, j, none⟩ = w.cell? ⟨b, j, none⟩ := fun j => World.cell?_of_block (w := w) hW
  exact ⟨b, o, e, World.block_lt_of_cell? W _ ((hc _).trans c0), (hc _).trans c0, (hc _).trans c1⟩
theorem expand_at (fb mb N : Nat) (F : Fs) (hT : TreeG N F) (hN : N ≤ 1000000) (dir : Int) (hd : Hd.I64 dir) (t : List Ch) (ao : Option Addr) (cap : Nat) (w : World) (R : Hp) (hG : Glob R) (hC : CharsAt w ao cap t) (ht : t.length ≤ 400)
    (hB : (foundO (nmC F dir) (okC F dir) t).length ≤ 1000000) (h : Sat w (fsHp fb mb F * R)) :
    Calls Tryz.prog 22 #[pp fb, .int .i64 dir, .slice ao t.length cap] w fun e w' => ExpPost (expC F dir t) (fsHp fb mb F * R) e w' ∧ Ran w w' := by
  obtain ⟨h1, T, hA, hs, hST, hconv, hkeep⟩ := Sat.part h
  refine (expand_calls fb mb N F dir (nmC F dir) (okC F dir) (finOk hT hN hd) t ao cap w T (hG.conv hconv) (fun W S' hS => chars_stay hC fun k i n hc => hkeep W _ hS k (World.block_lt_of_cell? w _ hc) ?_) ht hB hST).mono ?_
  · cases e : h1 k with
    | none => rfl
    | some o => exact absurd hc (Hd.fs_nou8 fb mb F h1 hA k o e w i n (hs k o e))
  · rintro e w' ⟨⟨p, c, rfl, hS⟩, hR⟩
    refine ⟨⟨p, c, rfl, ?_⟩, hR⟩
    have := hconv w' (strO p c (expC F dir t) * fsHp fb mb F) (hS.perm (by ac_rfl))
    exact this.perm (by ac_rfl)
set_option maxHeartbeats 1000000 in
theorem lbare_calls (fb mb N : Nat) (F : Fs) (hT : TreeG N F) (hN : N ≤ 1000000) (s : ByteArray) (w : World) (R : Hp) (hG : Glob R) (hs : s.size ≤ 400) (hB : (foundO (nmC F 1) (okC F 1) (markL (bs s) false)).length ≤ 1000000) (h : Sat w (fsHp fb mb F * R)) :
    Calls Tryz.prog 18 #[pp fb, .string s] w fun e w' => ExpPost (expC F 1 (markL (bs s) false)) (fsHp fb mb F * R) e w' ∧ Ran w w' := by
  have hO := Lib.hid (of_calls s false w (by omega))
  have hml : (markL (bs s) false).length = s.size := by unfold markL; rw [List.length_map, bs_length]
  have H := Lib.hid h
  have HG := Lib.hid hG
  have HT := Lib.hid hT
  have HB := Lib.hid hB
  have Hml := Lib.hid hml
  clear h hG hT hB hml
  go_enter Tryz.func18, Tryz.ntmps18
  go_wp2_with fail
  refine hO.out.mono ?_
  rintro e w1 ⟨p, c, rfl, C1, B1⟩
  have hE := Lib.hid (expand_at fb mb N F HT.out hN 1 Hd.i64_1 (markL (bs s) false) p c w1 R HG.out C1 (by rw [Hml.out]; exact hs) HB.out (H.out.below B1))
  have R1 : Ran w w1 := B1.mono (Nat.zero_le _)
  clear C1 hO B1
  go_wp2_with fail
  refine hE.out.mono ?_
  rintro e w2 ⟨⟨q, qc, rfl, S2⟩, R2⟩
  have R3 := Below.trans R1 R2
  have S2 := Lib.hid S2
  clear hE R2
  go_wp2_with fail
  go_ret
  exact ⟨⟨q, qc, rfl, S2.out⟩, R3⟩
end Go.Proofs.YtndjgeohkfenfaaGreatDoor.Globs

