/- Make of a directory in the root walked. (printed by gen_hdq.py) -/
import Derived.Test.YtljlpkeddbfpaaaGreatDoorHdP
namespace Go.Proofs.YtljlpkeddbfpaaaGreatDoor.Hd
open Go.RowKit Go.Maps Go.Proofs.YtljlpkeddbfpaaaGreatDoor Go.Proofs.YtljlpkeddbfpaaaGreatDoor.Hp
set_option linter.unusedVariables false
attribute [local go_sem] Oper.semAt_some

set_option maxRecDepth 100000 in
set_option maxHeartbeats 8000000 in
theorem MakeD_calls (fb mb : Nat) (F : Fs) (x : Nd) (kd : Kd) (c : UInt8) (g : Nat) (ok : MakeOk F x kd c g ⟨#[]⟩) (w : World) (R : Hp) (h : Sat w (fsHp fb mb F * R)) :
    Calls Tryz.prog 35 #[pp fb, .int .i64 1, .string (nm c), .int .i64 1, .string ⟨#[]⟩] w fun e w' => (e = .returned (.tuple #[.int .i64 (g : Int), .int .i64 0]) ∧ ∃ nb kb, Sat w' (fsHp fb mb (madeF F x kd c g ⟨nb, 1, ⟨#[]⟩, some ⟨kb, fun _ => none, 0, 0⟩, 1, 1, 0⟩) * R)) ∧ Ran w w' := by
  have HP := Lib.hid (place_calls fb mb F x kd c 1 ok.simple ok.root ok.kind ok.kids ok.new w R h)
  have H0 := Lib.hid h
  have Ok := Lib.hid ok
  clear h ok
  go_enter Tryz.func35, Tryz.ntmps35
  go_wp2_with fail
  refine HP.out.mono ?_
  rintro e w1 ⟨rfl, hB⟩
  have S1 := (H0.out.below hB).drew
  have R1 := Lib.hid (Ran.drewN (below_ran hB) 1)
  obtain ⟨c0, c1, c2, c3⟩ := fs_cells S1
  have hln := pmap_len Tryz.underlying101 (S1.perm (show _ = pmap mb (blk F.L) F.L.length F.n * (pts fb (fsO F mb) * nds F.L * R) by unfold fsHp; ac_rfl))
  obtain ⟨o1, o2, o3, o4, o5, o6⟩ := And.intro Ok.out.most (And.intro Ok.out.room (And.intro Ok.out.used.1 (And.intro Ok.out.used.2 (And.intro Ok.out.rm.1 Ok.out.rm.2))))
  have hwr : IntKind.i64.wrap (F.room - F.used) = F.room - F.used := IntWalk.i64_in _ (by omega)
  have hle1 : ¬ F.most ≤ (F.L.length : Int) := by omega
  have hle2 : decide (F.most ≤ (F.L.length : Int)) = false := decide_eq_false hle1
  have o7 : (0 : Int) ≤ F.room - F.used := o2
  have hle3 : ¬ F.room - F.used < 0 := by omega
  have hle4 : decide (F.room - F.used < 0) = false := decide_eq_false hle3
  have S1 := Lib.hid S1
  clear hB HP
  go_wp2_with fail
  refine Go.Proofs.YtljlpkeddbfpaaaGreatDoor.region_plan (S := (fun w' => w'.cell? ⟨fb, 0, none⟩ = some (.int .i64 F.most) ∧ w'.cell? ⟨fb, 1, none⟩ = some (.int .i64 F.room) ∧ w'.cell? ⟨fb, 2, none⟩ = some (.int .i64 F.used) ∧ w'.cell? ⟨fb, 3, none⟩ = some (.map (some mb)) ∧ ∀ ty, (Builtin.len_ #[101] ty #[.map (some mb)]).run Tryz.prog w' = .ok (.int .i64 (F.L.length : Int)) w')) [(0, true), (1, true), (2, true), (3, true), (4, true), (5, true), (6, true), (7, true), (8, true), (9, true), (10, true), (11, true), (12, true), (13, true), (14, true), (15, true), (16, true), (17, true), (18, true), (19, true), (20, true), (21, true), (22, true), (23, true), (24, true)] (by kernel_rfl) (by kernel_rfl) (by kernel_rfl) ?_ ?_
  · ((try dsimp only); (first | done | (exact ⟨c0, c1, c2, c3, hln⟩)))
  simp only [Go.Proofs.YtljlpkeddbfpaaaGreatDoor.planOps, List.map_cons, List.map_nil, List.getElem?_toArray, List.getElem?_cons_zero, List.getElem?_cons_succ]
  repeat (first
    | ((refine Go.Proofs.YtljlpkeddbfpaaaGreatDoor.plan_yes (v := ?_) (by rfl) ?_ ?_); rotate_left; (focus (intro w hSw; (try dsimp only at hSw); go_simp; try (with_reducible rfl))); (try simp only [Act.put, List.setIfInBounds_toArray, List.set_cons_zero, List.set_cons_succ]))
    | ((refine Go.Proofs.YtljlpkeddbfpaaaGreatDoor.plan_no (by rfl) ?_); (try simp only [Act.put, List.setIfInBounds_toArray, List.set_cons_zero, List.set_cons_succ]))
    | ((refine Go.Proofs.YtljlpkeddbfpaaaGreatDoor.plan_step (fun K hK => ?_)); (first | (fail) | (go_simp; (fail); (try go_wp2_with fail)) | go_simp); (refine hK.out _ _ ?_ (fun hHeld => ?_)); (focus ((try dsimp only); (first | done | (exact ⟨c0, c1, c2, c3, hln⟩)))); clear hK K; (try simp only [Act.put, List.setIfInBounds_toArray, List.set_cons_zero, List.set_cons_succ])))
  refine Go.Proofs.YtljlpkeddbfpaaaGreatDoor.plan_done ?_
  obtain ⟨w2, hw2⟩ : ∃ w2, w2 = w1.drew := ⟨_, rfl⟩
  have S1 := S1.out
  rw [← hw2] at S1 c0 c1 c2 c3 ⊢
  have R1 : Hid (Ran w w2) := Lib.hid (by rw [hw2]; exact R1.out)
  have HLk := Lib.hid (fun (k : Int) (hk : I64 k) => fs_look S1 k hk)
  have hLn : F.L.length ≤ 1000000 := Nat.le_trans (pmap_le (S1.perm (show _ = pmap mb (blk F.L) F.L.length F.n * (pts fb (fsO F mb) * nds F.L * R) by unfold fsHp; ac_rfl))) Ok.out.n
  have hg1 := Ok.out.free.pos
  have hg2 := Ok.out.free.le
  have hgI : (g : Int) ≤ 1000001 := by omega
  -- what comes
  obtain ⟨X, hX1, hX2⟩ := focus F.L 1 x Ok.out.root
  have hgn1 : (g : Int) ≠ 1 := fun e => by
    have := Ok.out.free.none
    rw [e, Ok.out.root] at this
    cases this
  have U1 := K.smap_made (S1.alloc (ndO ⟨w2.heap.size, 1, ⟨#[]⟩, some ⟨w2.heap.size + 1, fun _ => none, 0, 0⟩, 1, 1, 0⟩))
  rw [World.size_alloc] at U1
  obtain ⟨kb, hkb⟩ : ∃ kb, kb = w2.heap.size + 1 := ⟨_, rfl⟩
  rw [← hkb] at U1
  obtain ⟨wn, hwn⟩ : ∃ wn, wn = (w2.alloc (ndO ⟨w2.heap.size, 1, ⟨#[]⟩, some ⟨kb, fun _ => none, 0, 0⟩, 1, 1, 0⟩)).alloc (.map #[] 0) := ⟨_, rfl⟩
  rw [← hwn] at U1
  have Rn : Ran w wn := by rw [hwn]; exact Ran.new (Ran.new R1.out _) _
  have T1 := U1.perm (show _ = pmap mb (blk F.L) F.L.length F.n * (ndHp ⟨w2.heap.size, 1, ⟨#[]⟩, some ⟨kb, fun _ => none, 0, 0⟩, 1, 1, 0⟩ * (pts fb (fsO F mb) * (ndHp x * (X * R)))) by unfold fsHp; rw [hX1, show ndHp ⟨w2.heap.size, 1, ⟨#[]⟩, some ⟨kb, fun _ => none, 0, 0⟩, 1, 1, 0⟩ = pts w2.heap.size (ndO ⟨w2.heap.size, 1, ⟨#[]⟩, some ⟨kb, fun _ => none, 0, 0⟩, 1, 1, 0⟩) * K.smap kb (fun _ => none) 0 0 from rfl]; ac_rfl)
  obtain ⟨w3, hrun1, T2, R2⟩ := pmap_put Tryz.underlying101 T1 (by have := Ok.out.n; unfold maxLen; omega) (g : Int) (by unfold I64; omega) (by unfold blk; rw [Ok.out.free.none]; rfl) w2.heap.size
  have cm1 : wn.cell? ⟨fb, 3, none⟩ = some (.map (some mb)) := by
    have := (T1.perm (show _ = pts fb (fsO F mb) * (pmap mb (blk F.L) F.L.length F.n * (ndHp ⟨w2.heap.size, 1, ⟨#[]⟩, some ⟨kb, fun _ => none, 0, 0⟩, 1, 1, 0⟩ * (ndHp x * (X * R)))) by ac_rfl)).get
    rw [cell_at this]; rfl
  have T2f := T2.perm (show _ = pts fb (fsO F mb) * (pmap mb (putP (blk F.L) (g : Int) w2.heap.size) (F.L.length + 1) (F.n + 1) * (ndHp ⟨w2.heap.size, 1, ⟨#[]⟩, some ⟨kb, fun _ => none, 0, 0⟩, 1, 1, 0⟩ * (ndHp x * (X * R)))) by ac_rfl)
  have cm2 : w3.cell? ⟨fb, 3, none⟩ = some (.map (some mb)) := by rw [cell_at T2f.get]; rfl
  have hl2 := pmap_look Tryz.underlying101 zeroNode T2 1 (by unfold I64; omega)
  rw [show putP (blk F.L) (g : Int) w2.heap.size 1 = some x.b by unfold putP; rw [if_neg (fun e => hgn1 e.symm)]; unfold blk; rw [Ok.out.root]; rfl] at hl2
  unfold pv at hl2
  have T2x := T2.perm (show _ = pts x.b (ndO x) * (kidsHp x.kids * (pts fb (fsO F mb) * (pmap mb (putP (blk F.L) (g : Int) w2.heap.size) (F.L.length + 1) (F.n + 1) * (ndHp ⟨w2.heap.size, 1, ⟨#[]⟩, some ⟨kb, fun _ => none, 0, 0⟩, 1, 1, 0⟩ * (X * R))))) by show _ = pts x.b (ndO x) * (kidsHp x.kids * _); rw [show ndHp x = pts x.b (ndO x) * kidsHp x.kids from rfl]; ac_rfl)
  obtain ⟨-, -, d2, -⟩ := nd_cells T2x
  rw [Ok.out.kids] at d2
  unfold kv at d2
  dsimp only at d2
  have T2k := T2x.perm (show _ = K.smap kd.b kd.M kd.sz kd.n * (pts x.b (ndO x) * (pts fb (fsO F mb) * (pmap mb (putP (blk F.L) (g : Int) w2.heap.size) (F.L.length + 1) (F.n + 1) * (ndHp ⟨w2.heap.size, 1, ⟨#[]⟩, some ⟨kb, fun _ => none, 0, 0⟩, 1, 1, 0⟩ * (X * R))))) by rw [Ok.out.kids]; show pts x.b (ndO x) * (K.smap kd.b kd.M kd.sz kd.n * _) = _; ac_rfl)
  obtain ⟨w4, hrun2, T3, R3⟩ := K.smap_put T2k (by have := Ok.out.kn; unfold maxLen; omega) (nm c) (by show 1 ≤ 9223372036854775807; omega) Ok.out.new (g : Int) (by unfold I64; omega)
  have T3f := T3.perm (show _ = pts fb (fsO F mb) * (K.smap kd.b (K.putM kd.M (nm c) (g : Int)) (kd.sz + 1) (kd.n + 1) * (pts x.b (ndO x) * (pmap mb (putP (blk F.L) (g : Int) w2.heap.size) (F.L.length + 1) (F.n + 1) * (ndHp ⟨w2.heap.size, 1, ⟨#[]⟩, some ⟨kb, fun _ => none, 0, 0⟩, 1, 1, 0⟩ * (X * R))))) by ac_rfl)
  have cu : w4.cell? ⟨fb, 2, none⟩ = some (.int .i64 F.used) := by rw [cell_at T3f.get]; rfl
  have f4 : ∀ i, w4.frozen? ⟨fb, i, none⟩ = false := fun i => free_at T3f.get i
  have T4 := T3f.set (i := 2) (.int .i64 F.used)
  have eu : F.used + (((⟨#[]⟩ : ByteArray).size : Nat) : Int) = F.used := by show F.used + 0 = F.used; omega
  have T5 := Lib.hid (made_sat (nb := w2.heap.size) (y := ⟨w2.heap.size, 1, ⟨#[]⟩, some ⟨kb, fun _ => none, 0, 0⟩, 1, 1, 0⟩) rfl rfl Ok.out hX2 (T4.perm (show pts fb (fsO { F with used := F.used } mb) * _ = pts fb (fsO { F with used := F.used + (((⟨#[]⟩ : ByteArray).size : Nat) : Int) } mb) * (K.smap kd.b (K.putM kd.M (nm c) (g : Int)) (kd.sz + 1) (kd.n + 1) * (pmap mb (putP (blk F.L) (g : Int) w2.heap.size) (F.L.length + 1) (F.n + 1) * (ndHp ⟨w2.heap.size, 1, ⟨#[]⟩, some ⟨kb, fun _ => none, 0, 0⟩, 1, 1, 0⟩ * (pts x.b (ndO x) * (X * R))))) by rw [eu]; ac_rfl)))
  have R5 := Lib.hid (Ran.set (Below.trans (Below.trans Rn R2) R3) ⟨fb, 2, none⟩ (.int .i64 F.used))
  rw [hwn] at hrun1 cm1
  unfold ndO kv at hrun1 cm1
  dsimp only at hrun1 cm1
  rw [hkb] at hrun1 cm1
  have hmk : ∀ W : World, (Instr.makeMap 98 none).run Tryz.prog W = .ok (.map (some W.heap.size)) (W.alloc (.map #[] 0)) := fun W => rfl
  have hg1I : (1 : Int) ≤ (g : Int) := by omega
  clear S1 U1 hwn Rn eu hkb T1 T2 T2f T2x T2k T3 T3f T4 R2 R3 hX1 hX2 hw2 hln
  go_wp2_with fail
  go_loopg [15] (g - 1) (fun (gk : Nat) (v15 : Value) (wr : World) => ∃ i : Nat, v15 = .int .i64 (i : Int) ∧ 1 ≤ i ∧ i + gk = g ∧ w2 = wr)
  case atStart => exact ⟨1, rfl, Nat.le_refl _, by omega, rfl⟩
  case round =>
    obtain ⟨i, rfl, hi1, hig, rfl⟩ := hrel
    by_cases hlt : i < g
    · have hs := Ok.out.free.least i hi1 hlt
      obtain ⟨z, hz⟩ := Option.isSome_iff_exists.1 hs
      have hl := HLk.out (i : Int) (by unfold I64; omega)
      rw [show blk F.L (i : Int) = some z.b by unfold blk; rw [hz]; rfl] at hl
      unfold pv at hl
      have hiI : (i : Int) ≤ 1000001 := by omega
      have hi0 : (0 : Int) ≤ (i : Int) := by omega
      clear hs hz hrun1 hrun2 cm1 cm2 hl2 d2 cu f4
      go_wp2_with fail
      go_roundg (gk - 1)
      case rel => exact ⟨i + 1, by simp, by omega, by omega, rfl⟩
      case measure => omega
    · have hie : i = g := by omega
      subst hie
      have hl := HLk.out (i : Int) (by unfold I64; omega)
      rw [show blk F.L (i : Int) = none by unfold blk; rw [Ok.out.free.none]; rfl] at hl
      unfold pv at hl
      clear hlt
      go_wp2_with fail
      go_ret2
      exact ⟨⟨rfl, w2.heap.size, kb, T5.out⟩, R5.out⟩
end Go.Proofs.YtljlpkeddbfpaaaGreatDoor.Hd
