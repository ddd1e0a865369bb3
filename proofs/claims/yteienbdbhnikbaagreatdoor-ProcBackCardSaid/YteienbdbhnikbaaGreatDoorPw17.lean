/- HandlesPlays, part 17 of 31: the texts NdZ NeA, joined by a program. -/
import Derived.Test.YteienbdbhnikbaaGreatDoorPw16
import Derived.Test.YteienbdbhnikbaaGreatDoorPw15
namespace Go.Proofs.YteienbdbhnikbaaGreatDoor.Hd
open Go.RowKit Go.Maps Go.Proofs.YteienbdbhnikbaaGreatDoor Go.Proofs.YteienbdbhnikbaaGreatDoor.Hp
set_option linter.unusedVariables false
attribute [local go_sem] Oper.semAt_some

structure MakeOkG (F : Fs) (d : Int) (x : Nd) (kd : Kd) (s : ByteArray) (g : Nat) (t : ByteArray) : Prop where
  root : find F.L d = some x
  kind : x.kind = 1
  kids : x.kids = some kd
  new : kd.M s = none
  kn : kd.n ≤ 1000000
  free : FreeN F.L g
  n : F.n ≤ 1000000
  most : (F.L.length : Int) < F.most
  small : t.size ≤ 4096
  room : (t.size : Int) ≤ F.room - F.used
  used : 0 ≤ F.used ∧ F.used ≤ 1000000000
  rm : 0 ≤ F.room ∧ F.room ≤ 1000000000
/-- What the node's making leaves. -/
theorem made_satG {fb mb nb : Nat} {F : Fs} {d : Int} {x : Nd} {kd : Kd} {s : ByteArray} {g : Nat} {t : ByteArray} {y : Nd} (hb : y.b = nb) (ht : y.text = t) (ok : MakeOkG F d x kd s g t) {X : Hp} (hX2 : ∀ x', nds (upd F.L d x') = ndHp x' * X) {w : World} {R : Hp}
    (h : Sat w (pts fb (fsO { F with used := F.used + (t.size : Int) } mb) * (K.smap kd.b (K.putM kd.M s (g : Int)) (kd.sz + 1) (kd.n + 1) * (pmap mb (putP (blk F.L) (g : Int) nb) (F.L.length + 1) (F.n + 1) * (ndHp y * (pts x.b (ndO x) * (X * R))))))) :
    Sat w (fsHp fb mb (madeG F d x kd s g y) * R) := by
  refine h.perm ?_
  unfold fsHp madeG
  dsimp only
  rw [blk_cons, hb, blk_upd F.L d x { x with kids := some { kd with M := K.putM kd.M s (g : Int), sz := kd.sz + 1, n := kd.n + 1 } } ok.root rfl, List.length_cons, upd_len]
  show _ = pts fb (fsO { F with used := F.used + (y.text.size : Int) } mb) * (pmap mb (putP (blk F.L) (g : Int) nb) (F.L.length + 1) (F.n + 1) * (ndHp y * nds (upd F.L d { x with kids := some { kd with M := K.putM kd.M s (g : Int), sz := kd.sz + 1, n := kd.n + 1 } }))) * R
  rw [hX2, ht]
  have e : ndHp { x with kids := some { kd with M := K.putM kd.M s (g : Int), sz := kd.sz + 1, n := kd.n + 1 } } = pts x.b (ndO x) * K.smap kd.b (K.putM kd.M s (g : Int)) (kd.sz + 1) (kd.n + 1) := by
    unfold ndHp ndO
    dsimp only
    rw [ok.kids]
    rfl
  rw [e]
  ac_rfl
set_option maxRecDepth 100000 in
set_option maxHeartbeats 8000000 in
theorem MakeG_calls (fb mb : Nat) (F : Fs) (d0 : Int) (p : ByteArray) (d : Int) (x : Nd) (kd : Kd) (s : ByteArray) (g : Nat) (t : ByteArray) (k : Int) (hdi : I64 d) (hss : s.size ≤ 1000000) (hk : k = 2 ∨ k = 3) (ok : MakeOkG F d x kd s g t) (w : World) (R : Hp)
    (HP0 : Calls Tryz.prog 67 #[pp fb, .int .i64 d0, .string p, .int .i64 k] w fun e w' => (e = .returned (.tuple #[.int .i64 d, .string s, .int .i64 0]) ∧ Sat w' (fsHp fb mb F * R)) ∧ Ran w w') :
    Calls Tryz.prog 33 #[pp fb, .int .i64 d0, .string p, .int .i64 k, .string t] w fun e w' => (e = .returned (.tuple #[.int .i64 (g : Int), .int .i64 0]) ∧ ∃ nb, Sat w' (fsHp fb mb (madeG F d x kd s g ⟨nb, k, t, none, 0, 1, 0⟩) * R)) ∧ Ran w w' := by
  have HP := Lib.hid HP0
  have Hdi := Lib.hid hdi
  have Ok := Lib.hid ok
  have hts : (t.size : Int) ≤ 4096 := by have := ok.small; omega
  have hk1 : (1 : Int) ≤ k := by omega
  have hk3 : k ≤ 3 := by omega
  have hkn : ¬ k = 1 := by omega
  have hkb : (k == 1) = false := by simp [hkn]
  clear HP0 ok hdi
  go_enter Tryz.func33, Tryz.ntmps33
  go_wp2_with fail
  refine HP.out.mono ?_
  rintro e w1 ⟨⟨rfl, S1⟩, R1⟩
  have S1 := S1.drew
  have R1 := Lib.hid (Ran.drewN R1 1)
  obtain ⟨c0, c1, c2, c3⟩ := fs_cells S1
  have hln := pmap_len Tryz.underlying113 (S1.perm (show _ = pmap mb (blk F.L) F.L.length F.n * (pts fb (fsO F mb) * nds F.L * R) by unfold fsHp; ac_rfl))
  obtain ⟨o1, o2, o3, o4, o5, o6⟩ := And.intro Ok.out.most (And.intro Ok.out.room (And.intro Ok.out.used.1 (And.intro Ok.out.used.2 (And.intro Ok.out.rm.1 Ok.out.rm.2))))
  have hwr : IntKind.i64.wrap (F.room - F.used) = F.room - F.used := IntWalk.i64_in _ (by omega)
  have hle1 : ¬ F.most ≤ (F.L.length : Int) := by omega
  have hle2 : decide (F.most ≤ (F.L.length : Int)) = false := decide_eq_false hle1
  have hle3 : ¬ F.room - F.used < (t.size : Int) := by omega
  have hle4 : decide (F.room - F.used < (t.size : Int)) = false := decide_eq_false hle3
  have S1 := Lib.hid S1
  clear HP
  go_wp2_with fail
  refine region_plan (S := (fun w' => w'.cell? ⟨fb, 0, none⟩ = some (.int .i64 F.most) ∧ w'.cell? ⟨fb, 1, none⟩ = some (.int .i64 F.room) ∧ w'.cell? ⟨fb, 2, none⟩ = some (.int .i64 F.used) ∧ w'.cell? ⟨fb, 3, none⟩ = some (.map (some mb)) ∧ ∀ ty, (Builtin.len_ #[113] ty #[.map (some mb)]).run Tryz.prog w' = .ok (.int .i64 (F.L.length : Int)) w')) [(0, true), (1, true), (2, true), (3, true), (4, true), (5, true), (6, true), (7, true), (8, true), (9, true), (10, true), (11, true), (12, true), (13, true), (14, true), (15, true), (16, true), (17, true), (18, true), (19, true), (20, true), (21, true), (22, true), (23, true), (24, true)] (by kernel_rfl) (by kernel_rfl) (by kernel_rfl) ?_ ?_
  · ((try dsimp only); (first | done | (exact ⟨c0, c1, c2, c3, hln⟩)))
  simp only [planOps, List.map_cons, List.map_nil, List.getElem?_toArray, List.getElem?_cons_zero, List.getElem?_cons_succ]
  repeat (first
    | ((refine plan_yes (v := ?_) (by rfl) ?_ ?_); rotate_left; (focus (intro w hSw; (try dsimp only at hSw); go_simp; try (with_reducible rfl))); (try simp only [Act.put, List.setIfInBounds_toArray, List.set_cons_zero, List.set_cons_succ]))
    | ((refine plan_no (by rfl) ?_); (try simp only [Act.put, List.setIfInBounds_toArray, List.set_cons_zero, List.set_cons_succ]))
    | ((refine plan_step (fun K hK => ?_)); (first | (fail) | (go_simp; (fail); (try go_wp2_with fail)) | go_simp); (refine hK.out _ _ ?_ (fun hHeld => ?_)); (focus ((try dsimp only); (first | done | (exact ⟨c0, c1, c2, c3, hln⟩)))); clear hK K; (try simp only [Act.put, List.setIfInBounds_toArray, List.set_cons_zero, List.set_cons_succ])))
  refine plan_done ?_
  obtain ⟨w2, hw2⟩ : ∃ w2, w2 = w1.drew := ⟨_, rfl⟩
  have S1 := S1.out
  rw [← hw2] at S1 c0 c1 c2 c3 ⊢
  have R1 : Hid (Ran w w2) := Lib.hid (by rw [hw2]; exact R1.out)
  have HLk := Lib.hid (fun (k : Int) (hk : I64 k) => fs_look S1 k hk)
  have hLn : F.L.length ≤ 1000000 := Nat.le_trans (pmap_le (S1.perm (show _ = pmap mb (blk F.L) F.L.length F.n * (pts fb (fsO F mb) * nds F.L * R) by unfold fsHp; ac_rfl))) Ok.out.n
  have hg1 := Ok.out.free.pos
  have hg2 := Ok.out.free.le
  have hgI : (g : Int) ≤ 1000001 := by omega
  -- what comes
  obtain ⟨X, hX1, hX2⟩ := focus F.L d x Ok.out.root
  have hgn1 : (g : Int) ≠ d := fun e => by
    have := Ok.out.free.none
    rw [e, Ok.out.root] at this
    cases this
  have T1 := (S1.alloc (ndO ⟨w2.heap.size, k, t, none, 0, 1, 0⟩)).perm (show _ = pmap mb (blk F.L) F.L.length F.n * (pts w2.heap.size (ndO ⟨w2.heap.size, k, t, none, 0, 1, 0⟩) * (pts fb (fsO F mb) * (ndHp x * (X * R)))) by unfold fsHp; rw [hX1]; ac_rfl)
  obtain ⟨w3, hrun1, T2, R2⟩ := pmap_put Tryz.underlying113 T1 (by have := Ok.out.n; unfold maxLen; omega) (g : Int) (by unfold I64; omega) (by unfold blk; rw [Ok.out.free.none]; rfl) w2.heap.size
  have cm1 : (w2.alloc (ndO ⟨w2.heap.size, k, t, none, 0, 1, 0⟩)).cell? ⟨fb, 3, none⟩ = some (.map (some mb)) := by
    have := (T1.perm (show _ = pts fb (fsO F mb) * (pmap mb (blk F.L) F.L.length F.n * (pts w2.heap.size (ndO ⟨w2.heap.size, k, t, none, 0, 1, 0⟩) * (ndHp x * (X * R)))) by ac_rfl)).get
    rw [cell_at this]; rfl
  have T2f := T2.perm (show _ = pts fb (fsO F mb) * (pmap mb (putP (blk F.L) (g : Int) w2.heap.size) (F.L.length + 1) (F.n + 1) * (pts w2.heap.size (ndO ⟨w2.heap.size, k, t, none, 0, 1, 0⟩) * (ndHp x * (X * R)))) by ac_rfl)
  have cm2 : w3.cell? ⟨fb, 3, none⟩ = some (.map (some mb)) := by rw [cell_at T2f.get]; rfl
  have hl2 := pmap_look Tryz.underlying113 zeroNode T2 d Hdi.out
  rw [show putP (blk F.L) (g : Int) w2.heap.size d = some x.b by unfold putP; rw [if_neg (fun e => hgn1 e.symm)]; unfold blk; rw [Ok.out.root]; rfl] at hl2
  unfold pv at hl2
  have T2x := T2.perm (show _ = pts x.b (ndO x) * (kidsHp x.kids * (pts fb (fsO F mb) * (pmap mb (putP (blk F.L) (g : Int) w2.heap.size) (F.L.length + 1) (F.n + 1) * (pts w2.heap.size (ndO ⟨w2.heap.size, k, t, none, 0, 1, 0⟩) * (X * R))))) by unfold ndHp; ac_rfl)
  obtain ⟨-, -, d2, -⟩ := nd_cells T2x
  rw [Ok.out.kids] at d2
  unfold kv at d2
  dsimp only at d2
  have T2k := T2x.perm (show _ = K.smap kd.b kd.M kd.sz kd.n * (pts x.b (ndO x) * (pts fb (fsO F mb) * (pmap mb (putP (blk F.L) (g : Int) w2.heap.size) (F.L.length + 1) (F.n + 1) * (pts w2.heap.size (ndO ⟨w2.heap.size, k, t, none, 0, 1, 0⟩) * (X * R))))) by rw [Ok.out.kids]; show pts x.b (ndO x) * (K.smap kd.b kd.M kd.sz kd.n * _) = _; ac_rfl)
  obtain ⟨w4, hrun2, T3, R3⟩ := K.smap_put T2k (by have := Ok.out.kn; unfold maxLen; omega) (s) (by unfold maxLen; omega) Ok.out.new (g : Int) (by unfold I64; omega)
  have T3f := T3.perm (show _ = pts fb (fsO F mb) * (K.smap kd.b (K.putM kd.M (s) (g : Int)) (kd.sz + 1) (kd.n + 1) * (pts x.b (ndO x) * (pmap mb (putP (blk F.L) (g : Int) w2.heap.size) (F.L.length + 1) (F.n + 1) * (pts w2.heap.size (ndO ⟨w2.heap.size, k, t, none, 0, 1, 0⟩) * (X * R))))) by ac_rfl)
  have cu : w4.cell? ⟨fb, 2, none⟩ = some (.int .i64 F.used) := by rw [cell_at T3f.get]; rfl
  have f4 : ∀ i, w4.frozen? ⟨fb, i, none⟩ = false := fun i => free_at T3f.get i
  have T4 := T3f.set (i := 2) (.int .i64 (F.used + (t.size : Int)))
  have T5 := Lib.hid (made_satG (nb := w2.heap.size) (y := ⟨w2.heap.size, k, t, none, 0, 1, 0⟩) rfl rfl Ok.out hX2 (T4.perm (show pts fb (fsO { F with used := F.used + (t.size : Int) } mb) * _ = pts fb (fsO { F with used := F.used + (t.size : Int) } mb) * (K.smap kd.b (K.putM kd.M (s) (g : Int)) (kd.sz + 1) (kd.n + 1) * (pmap mb (putP (blk F.L) (g : Int) w2.heap.size) (F.L.length + 1) (F.n + 1) * (ndHp ⟨w2.heap.size, k, t, none, 0, 1, 0⟩ * (pts x.b (ndO x) * (X * R))))) by unfold ndHp kidsHp; dsimp only; rw [sep_emp]; ac_rfl)))
  have R5 := Lib.hid (Ran.set (Below.trans (Below.trans (Ran.new R1.out (ndO ⟨w2.heap.size, k, t, none, 0, 1, 0⟩)) R2) R3) ⟨fb, 2, none⟩ (.int .i64 (F.used + (t.size : Int))))
  unfold ndO kv at hrun1 cm1
  dsimp only at hrun1 cm1
  have hg1I : (1 : Int) ≤ (g : Int) := by omega
  clear S1 T1 T2 T2f T2x T2k T3 T3f T4 R2 R3 hX1 hX2 hw2 hln
  go_wp2_with fail
  go_loopg [15] (g - 1) (fun (gk : Nat) (v15 : Value) (wr : World) => ∃ i : Nat, v15 = .int .i64 (i : Int) ∧ 1 ≤ i ∧ i + gk = g ∧ w2 = wr)
  case atStart => exact ⟨1, rfl, Nat.le_refl _, by omega, rfl⟩
  case round =>
    obtain ⟨i, rfl, hi1, hig, rfl⟩ := hrel
    by_cases hlt : i < g
    · have hs := Ok.out.free.least i hi1 hlt
      obtain ⟨z, hz⟩ := Option.isSome_iff_exists.1 hs
      have hl := HLk.out (i : Int) (by unfold I64; omega)
      rw [show blk F.L (i : Int) = some z.b by unfold blk; rw [hz]; rfl] at hl
      unfold pv at hl
      have hiI : (i : Int) ≤ 1000001 := by omega
      have hi0 : (0 : Int) ≤ (i : Int) := by omega
      clear hs hz hrun1 hrun2 cm1 cm2 hl2 d2 cu f4
      go_wp2_with fail
      go_roundg (gk - 1)
      case rel => exact ⟨i + 1, by simp, by omega, by omega, rfl⟩
      case measure => omega
    · have hie : i = g := by omega
      subst hie
      have hl := HLk.out (i : Int) (by unfold I64; omega)
      rw [show blk F.L (i : Int) = none by unfold blk; rw [Ok.out.free.none]; rfl] at hl
      unfold pv at hl
      clear hlt
      go_wp2_with fail
      go_ret2
      exact ⟨⟨rfl, w2.heap.size, T5.out⟩, R5.out⟩
set_option maxRecDepth 100000 in
set_option maxHeartbeats 8000000 in
theorem MakeGD_calls (fb mb : Nat) (F : Fs) (d0 : Int) (p : ByteArray) (d : Int) (x : Nd) (kd : Kd) (s : ByteArray) (g : Nat) (hdi : I64 d) (hss : s.size ≤ 1000000) (ok : MakeOkG F d x kd s g ⟨#[]⟩) (w : World) (R : Hp)
    (HP0 : Calls Tryz.prog 67 #[pp fb, .int .i64 d0, .string p, .int .i64 1] w fun e w' => (e = .returned (.tuple #[.int .i64 d, .string s, .int .i64 0]) ∧ Sat w' (fsHp fb mb F * R)) ∧ Ran w w') :
    Calls Tryz.prog 33 #[pp fb, .int .i64 d0, .string p, .int .i64 1, .string ⟨#[]⟩] w fun e w' => (e = .returned (.tuple #[.int .i64 (g : Int), .int .i64 0]) ∧ ∃ nb kb, Sat w' (fsHp fb mb (madeG F d x kd s g ⟨nb, 1, ⟨#[]⟩, some ⟨kb, fun _ => none, 0, 0⟩, d, 1, 0⟩) * R)) ∧ Ran w w' := by
  have HP := Lib.hid HP0
  have Hdi := Lib.hid hdi
  have Ok := Lib.hid ok
  clear HP0 ok hdi
  go_enter Tryz.func33, Tryz.ntmps33
  go_wp2_with fail
  refine HP.out.mono ?_
  rintro e w1 ⟨⟨rfl, S1⟩, R1⟩
  have S1 := S1.drew
  have R1 := Lib.hid (Ran.drewN R1 1)
  obtain ⟨c0, c1, c2, c3⟩ := fs_cells S1
  have hln := pmap_len Tryz.underlying113 (S1.perm (show _ = pmap mb (blk F.L) F.L.length F.n * (pts fb (fsO F mb) * nds F.L * R) by unfold fsHp; ac_rfl))
  obtain ⟨o1, o2, o3, o4, o5, o6⟩ := And.intro Ok.out.most (And.intro Ok.out.room (And.intro Ok.out.used.1 (And.intro Ok.out.used.2 (And.intro Ok.out.rm.1 Ok.out.rm.2))))
  have hwr : IntKind.i64.wrap (F.room - F.used) = F.room - F.used := IntWalk.i64_in _ (by omega)
  have hle1 : ¬ F.most ≤ (F.L.length : Int) := by omega
  have hle2 : decide (F.most ≤ (F.L.length : Int)) = false := decide_eq_false hle1
  have o7 : (0 : Int) ≤ F.room - F.used := o2
  have hle3 : ¬ F.room - F.used < 0 := by omega
  have hle4 : decide (F.room - F.used < 0) = false := decide_eq_false hle3
  have S1 := Lib.hid S1
  clear HP
  go_wp2_with fail
  refine region_plan (S := (fun w' => w'.cell? ⟨fb, 0, none⟩ = some (.int .i64 F.most) ∧ w'.cell? ⟨fb, 1, none⟩ = some (.int .i64 F.room) ∧ w'.cell? ⟨fb, 2, none⟩ = some (.int .i64 F.used) ∧ w'.cell? ⟨fb, 3, none⟩ = some (.map (some mb)) ∧ ∀ ty, (Builtin.len_ #[113] ty #[.map (some mb)]).run Tryz.prog w' = .ok (.int .i64 (F.L.length : Int)) w')) [(0, true), (1, true), (2, true), (3, true), (4, true), (5, true), (6, true), (7, true), (8, true), (9, true), (10, true), (11, true), (12, true), (13, true), (14, true), (15, true), (16, true), (17, true), (18, true), (19, true), (20, true), (21, true), (22, true), (23, true), (24, true)] (by kernel_rfl) (by kernel_rfl) (by kernel_rfl) ?_ ?_
  · ((try dsimp only); (first | done | (exact ⟨c0, c1, c2, c3, hln⟩)))
  simp only [planOps, List.map_cons, List.map_nil, List.getElem?_toArray, List.getElem?_cons_zero, List.getElem?_cons_succ]
  repeat (first
    | ((refine plan_yes (v := ?_) (by rfl) ?_ ?_); rotate_left; (focus (intro w hSw; (try dsimp only at hSw); go_simp; try (with_reducible rfl))); (try simp only [Act.put, List.setIfInBounds_toArray, List.set_cons_zero, List.set_cons_succ]))
    | ((refine plan_no (by rfl) ?_); (try simp only [Act.put, List.setIfInBounds_toArray, List.set_cons_zero, List.set_cons_succ]))
    | ((refine plan_step (fun K hK => ?_)); (first | (fail) | (go_simp; (fail); (try go_wp2_with fail)) | go_simp); (refine hK.out _ _ ?_ (fun hHeld => ?_)); (focus ((try dsimp only); (first | done | (exact ⟨c0, c1, c2, c3, hln⟩)))); clear hK K; (try simp only [Act.put, List.setIfInBounds_toArray, List.set_cons_zero, List.set_cons_succ])))
  refine plan_done ?_
  obtain ⟨w2, hw2⟩ : ∃ w2, w2 = w1.drew := ⟨_, rfl⟩
  have S1 := S1.out
  rw [← hw2] at S1 c0 c1 c2 c3 ⊢
  have R1 : Hid (Ran w w2) := Lib.hid (by rw [hw2]; exact R1.out)
  have HLk := Lib.hid (fun (k : Int) (hk : I64 k) => fs_look S1 k hk)
  have hLn : F.L.length ≤ 1000000 := Nat.le_trans (pmap_le (S1.perm (show _ = pmap mb (blk F.L) F.L.length F.n * (pts fb (fsO F mb) * nds F.L * R) by unfold fsHp; ac_rfl))) Ok.out.n
  have hg1 := Ok.out.free.pos
  have hg2 := Ok.out.free.le
  have hgI : (g : Int) ≤ 1000001 := by omega
  -- what comes
  obtain ⟨X, hX1, hX2⟩ := focus F.L d x Ok.out.root
  have hgn1 : (g : Int) ≠ d := fun e => by
    have := Ok.out.free.none
    rw [e, Ok.out.root] at this
    cases this
  have U1 := K.smap_made (S1.alloc (ndO ⟨w2.heap.size, 1, ⟨#[]⟩, some ⟨w2.heap.size + 1, fun _ => none, 0, 0⟩, d, 1, 0⟩))
  rw [World.size_alloc] at U1
  obtain ⟨kb, hkb⟩ : ∃ kb, kb = w2.heap.size + 1 := ⟨_, rfl⟩
  rw [← hkb] at U1
  obtain ⟨wn, hwn⟩ : ∃ wn, wn = (w2.alloc (ndO ⟨w2.heap.size, 1, ⟨#[]⟩, some ⟨kb, fun _ => none, 0, 0⟩, d, 1, 0⟩)).alloc (.map #[] 0) := ⟨_, rfl⟩
  rw [← hwn] at U1
  have Rn : Ran w wn := by rw [hwn]; exact Ran.new (Ran.new R1.out _) _
  have T1 := U1.perm (show _ = pmap mb (blk F.L) F.L.length F.n * (ndHp ⟨w2.heap.size, 1, ⟨#[]⟩, some ⟨kb, fun _ => none, 0, 0⟩, d, 1, 0⟩ * (pts fb (fsO F mb) * (ndHp x * (X * R)))) by unfold fsHp; rw [hX1, show ndHp ⟨w2.heap.size, 1, ⟨#[]⟩, some ⟨kb, fun _ => none, 0, 0⟩, d, 1, 0⟩ = pts w2.heap.size (ndO ⟨w2.heap.size, 1, ⟨#[]⟩, some ⟨kb, fun _ => none, 0, 0⟩, d, 1, 0⟩) * K.smap kb (fun _ => none) 0 0 from rfl]; ac_rfl)
  obtain ⟨w3, hrun1, T2, R2⟩ := pmap_put Tryz.underlying113 T1 (by have := Ok.out.n; unfold maxLen; omega) (g : Int) (by unfold I64; omega) (by unfold blk; rw [Ok.out.free.none]; rfl) w2.heap.size
  have cm1 : wn.cell? ⟨fb, 3, none⟩ = some (.map (some mb)) := by
    have := (T1.perm (show _ = pts fb (fsO F mb) * (pmap mb (blk F.L) F.L.length F.n * (ndHp ⟨w2.heap.size, 1, ⟨#[]⟩, some ⟨kb, fun _ => none, 0, 0⟩, d, 1, 0⟩ * (ndHp x * (X * R)))) by ac_rfl)).get
    rw [cell_at this]; rfl
  have T2f := T2.perm (show _ = pts fb (fsO F mb) * (pmap mb (putP (blk F.L) (g : Int) w2.heap.size) (F.L.length + 1) (F.n + 1) * (ndHp ⟨w2.heap.size, 1, ⟨#[]⟩, some ⟨kb, fun _ => none, 0, 0⟩, d, 1, 0⟩ * (ndHp x * (X * R)))) by ac_rfl)
  have cm2 : w3.cell? ⟨fb, 3, none⟩ = some (.map (some mb)) := by rw [cell_at T2f.get]; rfl
  have hl2 := pmap_look Tryz.underlying113 zeroNode T2 d Hdi.out
  rw [show putP (blk F.L) (g : Int) w2.heap.size d = some x.b by unfold putP; rw [if_neg (fun e => hgn1 e.symm)]; unfold blk; rw [Ok.out.root]; rfl] at hl2
  unfold pv at hl2
  have T2x := T2.perm (show _ = pts x.b (ndO x) * (kidsHp x.kids * (pts fb (fsO F mb) * (pmap mb (putP (blk F.L) (g : Int) w2.heap.size) (F.L.length + 1) (F.n + 1) * (ndHp ⟨w2.heap.size, 1, ⟨#[]⟩, some ⟨kb, fun _ => none, 0, 0⟩, d, 1, 0⟩ * (X * R))))) by show _ = pts x.b (ndO x) * (kidsHp x.kids * _); rw [show ndHp x = pts x.b (ndO x) * kidsHp x.kids from rfl]; ac_rfl)
  obtain ⟨-, -, d2, -⟩ := nd_cells T2x
  rw [Ok.out.kids] at d2
  unfold kv at d2
  dsimp only at d2
  have T2k := T2x.perm (show _ = K.smap kd.b kd.M kd.sz kd.n * (pts x.b (ndO x) * (pts fb (fsO F mb) * (pmap mb (putP (blk F.L) (g : Int) w2.heap.size) (F.L.length + 1) (F.n + 1) * (ndHp ⟨w2.heap.size, 1, ⟨#[]⟩, some ⟨kb, fun _ => none, 0, 0⟩, d, 1, 0⟩ * (X * R))))) by rw [Ok.out.kids]; show pts x.b (ndO x) * (K.smap kd.b kd.M kd.sz kd.n * _) = _; ac_rfl)
  obtain ⟨w4, hrun2, T3, R3⟩ := K.smap_put T2k (by have := Ok.out.kn; unfold maxLen; omega) (s) (by unfold maxLen; omega) Ok.out.new (g : Int) (by unfold I64; omega)
  have T3f := T3.perm (show _ = pts fb (fsO F mb) * (K.smap kd.b (K.putM kd.M (s) (g : Int)) (kd.sz + 1) (kd.n + 1) * (pts x.b (ndO x) * (pmap mb (putP (blk F.L) (g : Int) w2.heap.size) (F.L.length + 1) (F.n + 1) * (ndHp ⟨w2.heap.size, 1, ⟨#[]⟩, some ⟨kb, fun _ => none, 0, 0⟩, d, 1, 0⟩ * (X * R))))) by ac_rfl)
  have cu : w4.cell? ⟨fb, 2, none⟩ = some (.int .i64 F.used) := by rw [cell_at T3f.get]; rfl
  have f4 : ∀ i, w4.frozen? ⟨fb, i, none⟩ = false := fun i => free_at T3f.get i
  have T4 := T3f.set (i := 2) (.int .i64 F.used)
  have eu : F.used + (((⟨#[]⟩ : ByteArray).size : Nat) : Int) = F.used := by show F.used + 0 = F.used; omega
  have T5 := Lib.hid (made_satG (nb := w2.heap.size) (y := ⟨w2.heap.size, 1, ⟨#[]⟩, some ⟨kb, fun _ => none, 0, 0⟩, d, 1, 0⟩) rfl rfl Ok.out hX2 (T4.perm (show pts fb (fsO { F with used := F.used } mb) * _ = pts fb (fsO { F with used := F.used + (((⟨#[]⟩ : ByteArray).size : Nat) : Int) } mb) * (K.smap kd.b (K.putM kd.M (s) (g : Int)) (kd.sz + 1) (kd.n + 1) * (pmap mb (putP (blk F.L) (g : Int) w2.heap.size) (F.L.length + 1) (F.n + 1) * (ndHp ⟨w2.heap.size, 1, ⟨#[]⟩, some ⟨kb, fun _ => none, 0, 0⟩, d, 1, 0⟩ * (pts x.b (ndO x) * (X * R))))) by rw [eu]; ac_rfl)))
  have R5 := Lib.hid (Ran.set (Below.trans (Below.trans Rn R2) R3) ⟨fb, 2, none⟩ (.int .i64 F.used))
  rw [hwn] at hrun1 cm1
  unfold ndO kv at hrun1 cm1
  dsimp only at hrun1 cm1
  rw [hkb] at hrun1 cm1
  have hmk : ∀ W : World, (Instr.makeMap 116 none).run Tryz.prog W = .ok (.map (some W.heap.size)) (W.alloc (.map #[] 0)) := fun W => rfl
  have hg1I : (1 : Int) ≤ (g : Int) := by omega
  clear S1 U1 hwn Rn eu hkb T1 T2 T2f T2x T2k T3 T3f T4 R2 R3 hX1 hX2 hw2 hln
  go_wp2_with fail
  go_loopg [15] (g - 1) (fun (gk : Nat) (v15 : Value) (wr : World) => ∃ i : Nat, v15 = .int .i64 (i : Int) ∧ 1 ≤ i ∧ i + gk = g ∧ w2 = wr)
  case atStart => exact ⟨1, rfl, Nat.le_refl _, by omega, rfl⟩
  case round =>
    obtain ⟨i, rfl, hi1, hig, rfl⟩ := hrel
    by_cases hlt : i < g
    · have hs := Ok.out.free.least i hi1 hlt
      obtain ⟨z, hz⟩ := Option.isSome_iff_exists.1 hs
      have hl := HLk.out (i : Int) (by unfold I64; omega)
      rw [show blk F.L (i : Int) = some z.b by unfold blk; rw [hz]; rfl] at hl
      unfold pv at hl
      have hiI : (i : Int) ≤ 1000001 := by omega
      have hi0 : (0 : Int) ≤ (i : Int) := by omega
      clear hs hz hrun1 hrun2 cm1 cm2 hl2 d2 cu f4
      go_wp2_with fail
      go_roundg (gk - 1)
      case rel => exact ⟨i + 1, by simp, by omega, by omega, rfl⟩
      case measure => omega
    · have hie : i = g := by omega
      subst hie
      have hl := HLk.out (i : Int) (by unfold I64; omega)
      rw [show blk F.L (i : Int) = none by unfold blk; rw [Ok.out.free.none]; rfl] at hl
      unfold pv at hl
      clear hlt
      go_wp2_with fail
      go_ret2
      exact ⟨⟨rfl, w2.heap.size, kb, T5.out⟩, R5.out⟩
set_option maxRecDepth 100000 in
theorem MakeG_bad (fb mb : Nat) (F : Fs) (d0 d er : Int) (p s : ByteArray) (k : Int) (t : ByteArray) (hk : k = 2 ∨ k = 3) (ht : t.size ≤ 4096) (he : er ≠ 0) (w : World) (R : Hp)
    (HP0 : Calls Tryz.prog 67 #[pp fb, .int .i64 d0, .string p, .int .i64 k] w fun e w' => (e = .returned (.tuple #[.int .i64 d, .string s, .int .i64 er]) ∧ Sat w' (fsHp fb mb F * R)) ∧ Ran w w') :
    Calls Tryz.prog 33 #[pp fb, .int .i64 d0, .string p, .int .i64 k, .string t] w fun e w' => (e = .returned (.tuple #[.int .i64 0, .int .i64 er]) ∧ Sat w' (fsHp fb mb F * R)) ∧ Ran w w' := by
  have HP := Lib.hid HP0
  have hts : (t.size : Int) ≤ 4096 := by omega
  have hk1 : (1 : Int) ≤ k := by omega
  have hk3 : k ≤ 3 := by omega
  have hkn : ¬ k = 1 := by omega
  have hkb : (k == 1) = false := by simp [hkn]
  clear HP0
  go_enter Tryz.func33, Tryz.ntmps33
  go_wp2_with fail
  refine HP.out.mono ?_
  rintro e w1 ⟨⟨rfl, S1⟩, R1⟩
  have S1 := Lib.hid S1
  have R1 := Lib.hid R1
  go_wp2_with fail
  go_ret2
  exact ⟨⟨rfl, S1.out⟩, R1.out⟩
set_option maxRecDepth 100000 in
set_option maxHeartbeats 8000000 in
theorem MakeG_room (fb mb : Nat) (F : Fs) (d0 d : Int) (p s : ByteArray) (k : Int) (t : ByteArray) (hk : k = 2 ∨ k = 3) (ht : t.size ≤ 4096) (hr : F.most ≤ (F.L.length : Int) ∨ F.room - F.used < (t.size : Int)) (hu : 0 ≤ F.used ∧ F.used ≤ 1000000000) (hrm : 0 ≤ F.room ∧ F.room ≤ 1000000000) (w : World) (R : Hp)
    (HP0 : Calls Tryz.prog 67 #[pp fb, .int .i64 d0, .string p, .int .i64 k] w fun e w' => (e = .returned (.tuple #[.int .i64 d, .string s, .int .i64 0]) ∧ Sat w' (fsHp fb mb F * R)) ∧ Ran w w') :
    Calls Tryz.prog 33 #[pp fb, .int .i64 d0, .string p, .int .i64 k, .string t] w fun e w' => (e = .returned (.tuple #[.int .i64 0, .int .i64 15]) ∧ Sat w' (fsHp fb mb F * R)) ∧ Ran w w' := by
  have HP := Lib.hid HP0
  have hts : (t.size : Int) ≤ 4096 := by omega
  have hk1 : (1 : Int) ≤ k := by omega
  have hk3 : k ≤ 3 := by omega
  have hkn : ¬ k = 1 := by omega
  have hkb : (k == 1) = false := by simp [hkn]
  have hwr : IntKind.i64.wrap (F.room - F.used) = F.room - F.used := IntWalk.i64_in _ (by omega)
  clear HP0
  by_cases hm : F.most ≤ (F.L.length : Int)
  · have hm2 : decide (F.most ≤ (F.L.length : Int)) = true := decide_eq_true hm
    clear hr
    go_enter Tryz.func33, Tryz.ntmps33
    go_wp2_with fail
    refine HP.out.mono ?_
    rintro e w1 ⟨⟨rfl, S1⟩, R1⟩
    have S1 := S1.drew
    have R1 := Lib.hid (Ran.drewN R1 1)
    obtain ⟨c0, c1, c2, c3⟩ := fs_cells S1
    have hln := pmap_len Tryz.underlying113 (S1.perm (show _ = pmap mb (blk F.L) F.L.length F.n * (pts fb (fsO F mb) * nds F.L * R) by unfold fsHp; ac_rfl))
    have S1 := Lib.hid S1
    go_wp2_with fail
    refine region_plan (S := (fun w' => w'.cell? ⟨fb, 0, none⟩ = some (.int .i64 F.most) ∧ w'.cell? ⟨fb, 1, none⟩ = some (.int .i64 F.room) ∧ w'.cell? ⟨fb, 2, none⟩ = some (.int .i64 F.used) ∧ w'.cell? ⟨fb, 3, none⟩ = some (.map (some mb)) ∧ ∀ ty, (Builtin.len_ #[113] ty #[.map (some mb)]).run Tryz.prog w' = .ok (.int .i64 (F.L.length : Int)) w')) [(0, true), (1, true), (2, true), (3, true), (4, true), (5, true), (6, true), (7, true), (8, true), (9, true), (10, true), (11, true), (12, true), (13, true), (14, true), (15, true), (16, true), (17, true), (18, true), (19, true), (20, true), (21, true), (22, true), (23, true), (24, true)] (by kernel_rfl) (by kernel_rfl) (by kernel_rfl) ?_ ?_
    · ((try dsimp only); (first | done | (exact ⟨c0, c1, c2, c3, hln⟩)))
    simp only [planOps, List.map_cons, List.map_nil, List.getElem?_toArray, List.getElem?_cons_zero, List.getElem?_cons_succ]
    repeat (first
      | ((refine plan_yes (v := ?_) (by rfl) ?_ ?_); rotate_left; (focus (intro w hSw; (try dsimp only at hSw); go_simp; try (with_reducible rfl))); (try simp only [Act.put, List.setIfInBounds_toArray, List.set_cons_zero, List.set_cons_succ]))
      | ((refine plan_no (by rfl) ?_); (try simp only [Act.put, List.setIfInBounds_toArray, List.set_cons_zero, List.set_cons_succ]))
      | ((refine plan_step (fun K hK => ?_)); (first | (fail) | (go_simp; (fail); (try go_wp2_with fail)) | go_simp); (refine hK.out _ _ ?_ (fun hHeld => ?_)); (focus ((try dsimp only); (first | done | (exact ⟨c0, c1, c2, c3, hln⟩)))); clear hK K; (try simp only [Act.put, List.setIfInBounds_toArray, List.set_cons_zero, List.set_cons_succ])))
    refine plan_done ?_
    go_wp2_with fail
    go_ret2
    exact ⟨⟨rfl, S1.out⟩, R1.out⟩
  · have hm2 : decide (F.most ≤ (F.L.length : Int)) = false := decide_eq_false hm
    have hm3 : F.room - F.used < (t.size : Int) := hr.resolve_left hm
    have hm4 : decide (F.room - F.used < (t.size : Int)) = true := decide_eq_true hm3
    clear hr
    go_enter Tryz.func33, Tryz.ntmps33
    go_wp2_with fail
    refine HP.out.mono ?_
    rintro e w1 ⟨⟨rfl, S1⟩, R1⟩
    have S1 := S1.drew
    have R1 := Lib.hid (Ran.drewN R1 1)
    obtain ⟨c0, c1, c2, c3⟩ := fs_cells S1
    have hln := pmap_len Tryz.underlying113 (S1.perm (show _ = pmap mb (blk F.L) F.L.length F.n * (pts fb (fsO F mb) * nds F.L * R) by unfold fsHp; ac_rfl))
    have S1 := Lib.hid S1
    go_wp2_with fail
    refine region_plan (S := (fun w' => w'.cell? ⟨fb, 0, none⟩ = some (.int .i64 F.most) ∧ w'.cell? ⟨fb, 1, none⟩ = some (.int .i64 F.room) ∧ w'.cell? ⟨fb, 2, none⟩ = some (.int .i64 F.used) ∧ w'.cell? ⟨fb, 3, none⟩ = some (.map (some mb)) ∧ ∀ ty, (Builtin.len_ #[113] ty #[.map (some mb)]).run Tryz.prog w' = .ok (.int .i64 (F.L.length : Int)) w')) [(0, true), (1, true), (2, true), (3, true), (4, true), (5, true), (6, true), (7, true), (8, true), (9, true), (10, true), (11, true), (12, true), (13, true), (14, true), (15, true), (16, true), (17, true), (18, true), (19, true), (20, true), (21, true), (22, true), (23, true), (24, true)] (by kernel_rfl) (by kernel_rfl) (by kernel_rfl) ?_ ?_
    · ((try dsimp only); (first | done | (exact ⟨c0, c1, c2, c3, hln⟩)))
    simp only [planOps, List.map_cons, List.map_nil, List.getElem?_toArray, List.getElem?_cons_zero, List.getElem?_cons_succ]
    repeat (first
      | ((refine plan_yes (v := ?_) (by rfl) ?_ ?_); rotate_left; (focus (intro w hSw; (try dsimp only at hSw); go_simp; try (with_reducible rfl))); (try simp only [Act.put, List.setIfInBounds_toArray, List.set_cons_zero, List.set_cons_succ]))
      | ((refine plan_no (by rfl) ?_); (try simp only [Act.put, List.setIfInBounds_toArray, List.set_cons_zero, List.set_cons_succ]))
      | ((refine plan_step (fun K hK => ?_)); (first | (fail) | (go_simp; (fail); (try go_wp2_with fail)) | go_simp); (refine hK.out _ _ ?_ (fun hHeld => ?_)); (focus ((try dsimp only); (first | done | (exact ⟨c0, c1, c2, c3, hln⟩)))); clear hK K; (try simp only [Act.put, List.setIfInBounds_toArray, List.set_cons_zero, List.set_cons_succ])))
    refine plan_done ?_
    go_wp2_with fail
    go_ret2
    exact ⟨⟨rfl, S1.out⟩, R1.out⟩
end Go.Proofs.YteienbdbhnikbaaGreatDoor.Hd

namespace Go.Proofs.YteienbdbhnikbaaGreatDoor.Hd
open Go.RowKit Go.Maps Go.Proofs.YteienbdbhnikbaaGreatDoor Go.Proofs.YteienbdbhnikbaaGreatDoor.Hp
set_option linter.unusedVariables false
attribute [local go_sem] Oper.semAt_some

theorem blk_gone {L : NL} (h : (L.map Prod.fst).Nodup) (k : Int) : blk (delA L k) = delP (blk L) k := by
  funext j
  show (find (delA L k) j).map Nd.b = if j = k then none else (find L j).map Nd.b
  rw [find_findA, findA_del L k j h, find_findA]
  by_cases e : j = k
  · rw [if_pos e, if_pos e]; rfl
  · rw [if_neg e, if_neg e]
set_option maxRecDepth 100000 in
set_option maxHeartbeats 8000000 in
theorem sweepN_calls (fb mb : Nat) (F : Fs) (k : Int) (x : Nd) (hk : I64 k) (hx : find F.L k = some x) (hnd : (F.L.map Prod.fst).Nodup) (hu : 0 ≤ F.used ∧ F.used ≤ 1000000000) (ht : x.text.size ≤ 1000000) (w : World) (R : Hp) (h : Sat w (fsHp fb mb F * R)) :
    Calls Tryz.prog 73 #[pp fb, .int .i64 k] w fun e w' => (e = .returned (.tuple #[]) ∧ Sat w' (fsHp fb mb (sweepG F k x) * R)) ∧ Ran w w' := by
  obtain ⟨c0, c1, c2, c3⟩ := fs_cells h
  have hl := fs_look h k hk
  rw [show blk F.L k = some x.b by unfold blk; rw [hx]; rfl] at hl
  unfold pv at hl
  obtain ⟨d0, d1, d2, d3, d4, d5⟩ := fs_at h hx
  unfold sweepG
  by_cases hk1 : k = 1
  · subst hk1
    rw [if_neg (fun e => e.1 rfl)]
    have h := Lib.hid h
    clear hx hnd hu ht
    go_enter Tryz.func73, Tryz.ntmps73
    go_wp2_with fail
    go_end0
    exact ⟨⟨rfl, h.out⟩, Below.refl 0 _⟩
  have hkb : (k == 1) = false := by simp [hk1]
  by_cases hn0 : x.names = 0
  case neg =>
    rw [if_neg (fun e => hn0 e.2.1)]
    have hnb : (x.names == 0) = false := by simp [hn0]
    have h := Lib.hid h
    clear hx hnd hu ht
    go_enter Tryz.func73, Tryz.ntmps73
    go_wp2_with fail
    go_end0
    exact ⟨⟨rfl, h.out⟩, Below.refl 0 _⟩
  by_cases hh0 : x.holds = 0
  case neg =>
    rw [if_neg (fun e => hh0 e.2.2)]
    have hnb : (x.holds == 0) = false := by simp [hh0]
    rw [hn0] at d4
    have h := Lib.hid h
    clear hx hnd hu ht hn0
    go_enter Tryz.func73, Tryz.ntmps73
    go_wp2_with fail
    go_end0
    exact ⟨⟨rfl, h.out⟩, Below.refl 0 _⟩
  rw [if_pos ⟨hk1, hn0, hh0⟩]
  rw [hn0] at d4
  rw [hh0] at d5
  obtain ⟨X, e1, -, e3⟩ := focusA ndHp F.L k x (by rw [← find_findA]; exact hx)
  have hlen := delA_len F.L k (by rw [← find_findA, hx]; rfl)
  obtain ⟨u, hue⟩ : ∃ u, u = F.used - (x.text.size : Int) := ⟨_, rfl⟩
  have Sf := h.perm (show _ = pts fb (fsO F mb) * (pmap mb (blk F.L) F.L.length F.n * nds F.L * R) by unfold fsHp; ac_rfl)
  have f0 : ∀ i, w.frozen? ⟨fb, i, none⟩ = false := fun i => free_at Sf.get i
  have S2 := ((used_back (u := u) h).drew).perm (show _ = pts fb (fsO { F with used := u } mb) * (pmap mb (blk F.L) ((delA F.L k).length + 1) F.n * (ndHp x * (X * R))) by unfold fsHp nds; dsimp only; rw [e1, ← hlen]; ac_rfl)
  obtain ⟨wd, hwd⟩ : ∃ wd, wd = (w.setCell ⟨fb, 2, none⟩ (.int .i64 u)).drew := ⟨_, rfl⟩
  rw [← hwd] at S2
  have c3' : wd.cell? ⟨fb, 3, none⟩ = some (.map (some mb)) := by rw [cell_at S2.get]; rfl
  obtain ⟨w2, hrun, S3, R3⟩ := pmap_del Tryz.underlying113 (S2.perm (show _ = pmap mb (blk F.L) ((delA F.L k).length + 1) F.n * (pts fb (fsO { F with used := u } mb) * (ndHp x * (X * R))) by ac_rfl)) k hk (by unfold blk; rw [hx]; rfl) 0
  have S4 : Sat w2 (fsHp fb mb (goneF F k x) * R) := by
    refine (S3.perm (show _ = ndHp x * (fsHp fb mb (goneF F k x) * R) from ?_)).right
    unfold fsHp goneF nds
    dsimp only
    rw [blk_gone hnd, e3, ← hue]
    show _ = ndHp x * (pts fb (fsO { F with used := u } mb) * _ * R)
    ac_rfl
  have S4 := Lib.hid S4
  have R4 := Lib.hid (Below.trans (show Ran w wd by rw [hwd]; exact Ran.drewN (Ran.set (Below.refl 0 w) ⟨fb, 2, none⟩ (.int .i64 u)) 1) R3)
  obtain ⟨hu1, hu2⟩ := hu
  have hts : (x.text.size : Int) ≤ 1000000 := by omega
  have hwr : IntKind.i64.wrap (F.used - (x.text.size : Int)) = F.used - (x.text.size : Int) := IntWalk.i64_in _ (by omega)
  clear h hx hnd hn0 hh0 Sf S2 S3 R3 e1 e3 hlen ht
  go_enter Tryz.func73, Tryz.ntmps73
  go_upto_region 2 with fail
  go_still_tail 12, (by kernel_rfl)
  go_upto_region 3 with fail
  rw [← hue, ← hwd]
  clear hwd
  go_wp2_with fail
  go_end0
  exact ⟨⟨rfl, S4.out⟩, R4.out⟩
set_option maxRecDepth 100000 in
set_option maxHeartbeats 8000000 in
theorem DropN_calls (fb mb : Nat) (F : Fs) (k : Int) (hk : I64 k) (hs : FsOk F) (hnd : (F.L.map Prod.fst).Nodup) (hu : 0 ≤ F.used ∧ F.used ≤ 1000000000) (w : World) (R : Hp) (h : Sat w (fsHp fb mb F * R)) :
    Calls Tryz.prog 48 #[pp fb, .int .i64 k] w fun e w' => (e = .returned (.int .i64 (dropE F k)) ∧ Sat w' (fsHp fb mb (dropG F k) * R)) ∧ Ran w w' := by
  have HS := Stat_calls fb mb F k hk (hs.small k) w R h
  unfold statE statV at HS
  unfold dropE dropG
  cases hx : find F.L k with
  | none =>
    rw [hx] at HS
    have HS := Lib.hid HS
    have H0 := Lib.hid h
    clear h hx hs hnd hu
    dsimp only
    go_enter Tryz.func48, Tryz.ntmps48
    go_wp2_with fail
    refine HS.out.mono ?_
    rintro e w1 ⟨rfl, hB⟩
    have S1 := Lib.hid (H0.out.below hB)
    have R1 := Lib.hid (below_ran hB)
    clear hB HS
    go_wp2_with fail
    go_ret
    exact ⟨⟨rfl, S1.out.old _⟩, Ran.new R1.out _⟩
  | some x =>
  rw [hx] at HS
  have HS := Lib.hid HS
  have H0 := Lib.hid h
  have hh := (hs k x hx).holds
  have ht := (hs k x hx).text
  obtain ⟨hh1, hh2⟩ := hh
  have Hx := Lib.hid hx
  dsimp only
  by_cases h0 : x.holds = 0
  · rw [if_pos h0, if_pos h0]
    have h0b : (x.holds == 0) = true := by simp [h0]
    clear h hs hx hnd hu
    go_enter Tryz.func48, Tryz.ntmps48
    go_wp2_with fail
    refine HS.out.mono ?_
    rintro e w1 ⟨rfl, hB⟩
    have S1 := (H0.out.below hB).alloc (infoO x.kind (sizeN x) x.names x.holds)
    have R1 := Lib.hid (Ran.new (below_ran hB) (infoO x.kind (sizeN x) x.names x.holds))
    obtain ⟨r0, r1, r2, r3⟩ := info_cells S1
    rw [h0] at r3 S1 r0 r1 r2
    have S1 := Lib.hid S1.right
    rw [h0] at R1 ⊢
    clear hB HS h0 h0b
    go_wp2_with fail
    go_ret
    exact ⟨⟨rfl, S1.out⟩, R1.out⟩
  · rw [if_neg h0, if_neg h0]
    have h0b : (x.holds == 0) = false := by simp [h0]
    have Hnd := Lib.hid hnd
    have Hu := Lib.hid hu
    have Ht := Lib.hid ht
    clear h hs hx hnd hu ht
    go_enter Tryz.func48, Tryz.ntmps48
    go_wp2_with fail
    refine HS.out.mono ?_
    rintro e w1 ⟨rfl, hB⟩
    have S0 := (H0.out.below hB).alloc (infoO x.kind (sizeN x) x.names x.holds)
    have R1 := Lib.hid (Ran.new (below_ran hB) (infoO x.kind (sizeN x) x.names x.holds))
    obtain ⟨r0, r1, r2, r3⟩ := info_cells S0
    have S1 := S0.right
    obtain ⟨c0, c1, c2, c3⟩ := fs_cells S1
    have hl := fs_look S1 k hk
    rw [show blk F.L k = some x.b by unfold blk; rw [Hx.out]; rfl] at hl
    unfold pv at hl
    obtain ⟨X, S2, back⟩ := fs_node S1 Hx.out
    obtain ⟨d0, d1, d2, d3, d4, d5⟩ := nd_cells S2
    have f0 : ∀ i, (w1.alloc (infoO x.kind (sizeN x) x.names x.holds)).frozen? ⟨x.b, i, none⟩ = false := fun i => free_at S2.get i
    have S3 := back _ { x with holds := x.holds - 1 } (F.put k { x with holds := x.holds - 1 }) R rfl rfl rfl (S2.set (i := 5) (.int .i64 (x.holds - 1)))
    have HW := Lib.hid (sweepN_calls fb mb (F.put k { x with holds := x.holds - 1 }) k { x with holds := x.holds - 1 } hk (by show find (upd F.L k _) k = _; rw [find_upd F.L k k _ (by rw [Hx.out]; rfl), if_pos rfl]) (by show ((upd F.L k _).map Prod.fst).Nodup; rw [upd_updA, keys_upd]; exact Hnd.out) Hu.out Ht.out _ R S3)
    have R1 := Lib.hid (Ran.set R1.out ⟨x.b, 5, none⟩ (.int .i64 (x.holds - 1)))
    clear hB HS S1 S2 back S0 S3
    go_wp2_with fail
    refine HW.out.mono ?_
    rintro e w2 ⟨⟨rfl, S5⟩, R5⟩
    have S5 := Lib.hid S5
    have R5 := Lib.hid (Below.trans R1.out R5)
    go_wp2_with fail
    go_ret
    exact ⟨⟨rfl, S5.out⟩, R5.out⟩
set_option maxRecDepth 100000 in
set_option maxHeartbeats 4000000 in
theorem fgoneN_calls (xb fb mb : Nat) (F : Fs) (k : Int) (a : Nat) (m : Md) (hk : I64 k) (hs : FsOk F) (hnd : (F.L.map Prod.fst).Nodup) (hu : 0 ≤ F.used ∧ F.used ≤ 1000000000) (w : World) (R : Hp)
    (h : Sat w (fsHp fb mb F * (pts xb (flO fb k a m) * R))) :
    Calls Tryz.prog 183 #[pp xb] w fun e w' => (e = .returned (.tuple #[]) ∧ Sat w' (fsHp fb mb (dropG F k) * (pts xb (flO fb k a m) * R))) ∧ Ran w w' := by
  have HD := Lib.hid (DropN_calls fb mb F k hk hs hnd hu w.drew _ h.drew)
  obtain ⟨d0', d1', -⟩ := fl_cells h.right.drew
  clear h
  go_enter Tryz.func183, Tryz.ntmps183
  go_wp2_with fail
  refine region_plan (S := (fun w' => w'.cell? ⟨xb, 0, none⟩ = some (pp fb) ∧ w'.cell? ⟨xb, 1, none⟩ = some (.int .i64 k))) [(0, true), (1, true), (2, true), (3, true), (4, true), (5, true), (6, true), (7, true), (8, false)] (by kernel_rfl) (by kernel_rfl) (by kernel_rfl) ?_ ?_
  · ((try dsimp only); (first | done | (first | exact ⟨d0', d1'⟩ | exact K5)))
  simp only [planOps, List.map_cons, List.map_nil, List.getElem?_toArray, List.getElem?_cons_zero, List.getElem?_cons_succ]
  repeat (first
    | ((refine plan_yes (v := ?_) (by rfl) ?_ ?_); rotate_left; (focus (intro w hSw; (try dsimp only at hSw); go_simp; try (with_reducible rfl))); (try simp only [Act.put, List.setIfInBounds_toArray, List.set_cons_zero, List.set_cons_succ]))
    | ((refine plan_no (by rfl) ?_); (try simp only [Act.put, List.setIfInBounds_toArray, List.set_cons_zero, List.set_cons_succ]))
    | ((refine plan_step (fun K hK => ?_)); (first | (go_simp; ((go_at_call 48; refine HD.out.mono ?_; rintro e w5 ⟨⟨rfl, S5⟩, R5⟩; have K5 := (And.intro (fl_cells S5.right).1 (fl_cells S5.right).2.1))); (try go_wp2_with fail)) | go_simp); (refine hK.out _ _ ?_ (fun hHeld => ?_)); (focus ((try dsimp only); (first | done | (first | exact ⟨d0', d1'⟩ | exact K5)))); clear hK K; (try simp only [Act.put, List.setIfInBounds_toArray, List.set_cons_zero, List.set_cons_succ])))
  refine plan_done ?_
  have S5 := Lib.hid S5
  have R5 := Lib.hid (Below.trans (Ran.drewN (Below.refl 0 w) 1) R5)
  go_wp2_with fail
  go_end0
  exact ⟨⟨rfl, S5.out⟩, R5.out⟩
end Go.Proofs.YteienbdbhnikbaaGreatDoor.Hd

