/- HandlesPlays, part 14 of 34: the texts HdP HdQ HdR HdS HdT, joined by a program. -/
import Derived.Test.YtljlpkeddbfpaaaGreatDoorHm13
namespace Go.Proofs.YtljlpkeddbfpaaaGreatDoor.Hd
open Go.RowKit Go.Maps Go.Proofs.YtljlpkeddbfpaaaGreatDoor Go.Proofs.YtljlpkeddbfpaaaGreatDoor.Hp
set_option linter.unusedVariables false
attribute [local go_sem] Oper.semAt_some

structure FreeN (L : NL) (g : Nat) : Prop where
  pos : 1 ≤ g
  le : g ≤ L.length + 1
  none : find L (g : Int) = none
  least : ∀ j : Nat, 1 ≤ j → j < g → (find L (j : Int)).isSome = true
theorem find_cons (L : NL) (k j : Int) (x : Nd) : find ((k, x) :: L) j = if j = k then some x else find L j := by
  show (if k = j then some x else find L j) = _
  by_cases e : j = k
  · subst e; simp
  · rw [if_neg e, if_neg (fun h => e h.symm)]
theorem blk_cons (L : NL) (k : Int) (x : Nd) : blk ((k, x) :: L) = putP (blk L) k x.b := by
  funext j
  unfold blk putP
  rw [find_cons]
  by_cases e : j = k
  · rw [if_pos e, if_pos e]; rfl
  · rw [if_neg e, if_neg e]
/-- A tree with one node more, named in the root. -/
def madeF (F : Fs) (x : Nd) (kd : Kd) (c : UInt8) (g : Nat) (y : Nd) : Fs :=
  { F with L := ((g : Int), y) :: upd F.L 1 { x with kids := some { kd with M := K.putM kd.M (nm c) (g : Int), sz := kd.sz + 1, n := kd.n + 1 } }, used := F.used + (y.text.size : Int), n := F.n + 1 }
structure MakeOk (F : Fs) (x : Nd) (kd : Kd) (c : UInt8) (g : Nat) (t : ByteArray) : Prop where
  simple : Simple c
  root : find F.L 1 = some x
  kind : x.kind = 1
  kids : x.kids = some kd
  new : kd.M (nm c) = none
  kn : kd.n ≤ 1000000
  free : FreeN F.L g
  n : F.n ≤ 1000000
  most : (F.L.length : Int) < F.most
  small : t.size ≤ 4096
  room : (t.size : Int) ≤ F.room - F.used
  used : 0 ≤ F.used ∧ F.used ≤ 1000000000
  rm : 0 ≤ F.room ∧ F.room ≤ 1000000000
/-- What the node's making leaves. -/
theorem made_sat {fb mb nb : Nat} {F : Fs} {x : Nd} {kd : Kd} {c : UInt8} {g : Nat} {t : ByteArray} {y : Nd} (hb : y.b = nb) (ht : y.text = t) (ok : MakeOk F x kd c g t) {X : Hp} (hX2 : ∀ x', nds (upd F.L 1 x') = ndHp x' * X) {w : World} {R : Hp}
    (h : Sat w (pts fb (fsO { F with used := F.used + (t.size : Int) } mb) * (K.smap kd.b (K.putM kd.M (nm c) (g : Int)) (kd.sz + 1) (kd.n + 1) * (pmap mb (putP (blk F.L) (g : Int) nb) (F.L.length + 1) (F.n + 1) * (ndHp y * (pts x.b (ndO x) * (X * R))))))) :
    Sat w (fsHp fb mb (madeF F x kd c g y) * R) := by
  refine h.perm ?_
  unfold fsHp madeF
  dsimp only
  rw [blk_cons, hb, blk_upd F.L 1 x { x with kids := some { kd with M := K.putM kd.M (nm c) (g : Int), sz := kd.sz + 1, n := kd.n + 1 } } ok.root rfl, List.length_cons, upd_len]
  show _ = pts fb (fsO { F with used := F.used + (y.text.size : Int) } mb) * (pmap mb (putP (blk F.L) (g : Int) nb) (F.L.length + 1) (F.n + 1) * (ndHp y * nds (upd F.L 1 { x with kids := some { kd with M := K.putM kd.M (nm c) (g : Int), sz := kd.sz + 1, n := kd.n + 1 } }))) * R
  rw [hX2, ht]
  have e : ndHp { x with kids := some { kd with M := K.putM kd.M (nm c) (g : Int), sz := kd.sz + 1, n := kd.n + 1 } } = pts x.b (ndO x) * K.smap kd.b (K.putM kd.M (nm c) (g : Int)) (kd.sz + 1) (kd.n + 1) := by
    unfold ndHp ndO
    dsimp only
    rw [ok.kids]
    rfl
  rw [e]
  ac_rfl
set_option maxRecDepth 100000 in
set_option maxHeartbeats 8000000 in
theorem Make_calls (fb mb : Nat) (F : Fs) (x : Nd) (kd : Kd) (c : UInt8) (g : Nat) (t : ByteArray) (k : Int) (hk : k = 2 ∨ k = 3) (ok : MakeOk F x kd c g t) (w : World) (R : Hp) (h : Sat w (fsHp fb mb F * R)) :
    Calls Tryz.prog 35 #[pp fb, .int .i64 1, .string (nm c), .int .i64 k, .string t] w fun e w' => (e = .returned (.tuple #[.int .i64 (g : Int), .int .i64 0]) ∧ ∃ nb, Sat w' (fsHp fb mb (madeF F x kd c g ⟨nb, k, t, none, 0, 1, 0⟩) * R)) ∧ Ran w w' := by
  have HP := Lib.hid (place_calls fb mb F x kd c k ok.simple ok.root ok.kind ok.kids ok.new w R h)
  have H0 := Lib.hid h
  have Ok := Lib.hid ok
  have hts : (t.size : Int) ≤ 4096 := by have := ok.small; omega
  have hk1 : (1 : Int) ≤ k := by omega
  have hk3 : k ≤ 3 := by omega
  have hkn : ¬ k = 1 := by omega
  have hkb : (k == 1) = false := by simp [hkn]
  clear h ok
  go_enter Tryz.func35, Tryz.ntmps35
  go_wp2_with fail
  refine HP.out.mono ?_
  rintro e w1 ⟨rfl, hB⟩
  have S1 := (H0.out.below hB).drew
  have R1 := Lib.hid (Ran.drewN (below_ran hB) 1)
  obtain ⟨c0, c1, c2, c3⟩ := fs_cells S1
  have hln := pmap_len Tryz.underlying101 (S1.perm (show _ = pmap mb (blk F.L) F.L.length F.n * (pts fb (fsO F mb) * nds F.L * R) by unfold fsHp; ac_rfl))
  obtain ⟨o1, o2, o3, o4, o5, o6⟩ := And.intro Ok.out.most (And.intro Ok.out.room (And.intro Ok.out.used.1 (And.intro Ok.out.used.2 (And.intro Ok.out.rm.1 Ok.out.rm.2))))
  have hwr : IntKind.i64.wrap (F.room - F.used) = F.room - F.used := IntWalk.i64_in _ (by omega)
  have hle1 : ¬ F.most ≤ (F.L.length : Int) := by omega
  have hle2 : decide (F.most ≤ (F.L.length : Int)) = false := decide_eq_false hle1
  have hle3 : ¬ F.room - F.used < (t.size : Int) := by omega
  have hle4 : decide (F.room - F.used < (t.size : Int)) = false := decide_eq_false hle3
  have S1 := Lib.hid S1
  clear hB HP
  go_wp2_with fail
  refine region_plan (S := (fun w' => w'.cell? ⟨fb, 0, none⟩ = some (.int .i64 F.most) ∧ w'.cell? ⟨fb, 1, none⟩ = some (.int .i64 F.room) ∧ w'.cell? ⟨fb, 2, none⟩ = some (.int .i64 F.used) ∧ w'.cell? ⟨fb, 3, none⟩ = some (.map (some mb)) ∧ ∀ ty, (Builtin.len_ #[101] ty #[.map (some mb)]).run Tryz.prog w' = .ok (.int .i64 (F.L.length : Int)) w')) [(0, true), (1, true), (2, true), (3, true), (4, true), (5, true), (6, true), (7, true), (8, true), (9, true), (10, true), (11, true), (12, true), (13, true), (14, true), (15, true), (16, true), (17, true), (18, true), (19, true), (20, true), (21, true), (22, true), (23, true), (24, true)] (by kernel_rfl) (by kernel_rfl) (by kernel_rfl) ?_ ?_
  · ((try dsimp only); (first | done | (exact ⟨c0, c1, c2, c3, hln⟩)))
  simp only [planOps, List.map_cons, List.map_nil, List.getElem?_toArray, List.getElem?_cons_zero, List.getElem?_cons_succ]
  repeat (first
    | ((refine plan_yes (v := ?_) (by rfl) ?_ ?_); rotate_left; (focus (intro w hSw; (try dsimp only at hSw); go_simp; try (with_reducible rfl))); (try simp only [Act.put, List.setIfInBounds_toArray, List.set_cons_zero, List.set_cons_succ]))
    | ((refine plan_no (by rfl) ?_); (try simp only [Act.put, List.setIfInBounds_toArray, List.set_cons_zero, List.set_cons_succ]))
    | ((refine plan_step (fun K hK => ?_)); (first | (fail) | (go_simp; (fail); (try go_wp2_with fail)) | go_simp); (refine hK.out _ _ ?_ (fun hHeld => ?_)); (focus ((try dsimp only); (first | done | (exact ⟨c0, c1, c2, c3, hln⟩)))); clear hK K; (try simp only [Act.put, List.setIfInBounds_toArray, List.set_cons_zero, List.set_cons_succ])))
  refine plan_done ?_
  obtain ⟨w2, hw2⟩ : ∃ w2, w2 = w1.drew := ⟨_, rfl⟩
  have S1 := S1.out
  rw [← hw2] at S1 c0 c1 c2 c3 ⊢
  have R1 : Hid (Ran w w2) := Lib.hid (by rw [hw2]; exact R1.out)
  have HLk := Lib.hid (fun (k : Int) (hk : I64 k) => fs_look S1 k hk)
  have hLn : F.L.length ≤ 1000000 := Nat.le_trans (pmap_le (S1.perm (show _ = pmap mb (blk F.L) F.L.length F.n * (pts fb (fsO F mb) * nds F.L * R) by unfold fsHp; ac_rfl))) Ok.out.n
  have hg1 := Ok.out.free.pos
  have hg2 := Ok.out.free.le
  have hgI : (g : Int) ≤ 1000001 := by omega
  -- what comes
  obtain ⟨X, hX1, hX2⟩ := focus F.L 1 x Ok.out.root
  have hgn1 : (g : Int) ≠ 1 := fun e => by
    have := Ok.out.free.none
    rw [e, Ok.out.root] at this
    cases this
  have T1 := (S1.alloc (ndO ⟨w2.heap.size, k, t, none, 0, 1, 0⟩)).perm (show _ = pmap mb (blk F.L) F.L.length F.n * (pts w2.heap.size (ndO ⟨w2.heap.size, k, t, none, 0, 1, 0⟩) * (pts fb (fsO F mb) * (ndHp x * (X * R)))) by unfold fsHp; rw [hX1]; ac_rfl)
  obtain ⟨w3, hrun1, T2, R2⟩ := pmap_put Tryz.underlying101 T1 (by have := Ok.out.n; unfold maxLen; omega) (g : Int) (by unfold I64; omega) (by unfold blk; rw [Ok.out.free.none]; rfl) w2.heap.size
  have cm1 : (w2.alloc (ndO ⟨w2.heap.size, k, t, none, 0, 1, 0⟩)).cell? ⟨fb, 3, none⟩ = some (.map (some mb)) := by
    have := (T1.perm (show _ = pts fb (fsO F mb) * (pmap mb (blk F.L) F.L.length F.n * (pts w2.heap.size (ndO ⟨w2.heap.size, k, t, none, 0, 1, 0⟩) * (ndHp x * (X * R)))) by ac_rfl)).get
    rw [cell_at this]; rfl
  have T2f := T2.perm (show _ = pts fb (fsO F mb) * (pmap mb (putP (blk F.L) (g : Int) w2.heap.size) (F.L.length + 1) (F.n + 1) * (pts w2.heap.size (ndO ⟨w2.heap.size, k, t, none, 0, 1, 0⟩) * (ndHp x * (X * R)))) by ac_rfl)
  have cm2 : w3.cell? ⟨fb, 3, none⟩ = some (.map (some mb)) := by rw [cell_at T2f.get]; rfl
  have hl2 := pmap_look Tryz.underlying101 zeroNode T2 1 (by unfold I64; omega)
  rw [show putP (blk F.L) (g : Int) w2.heap.size 1 = some x.b by unfold putP; rw [if_neg (fun e => hgn1 e.symm)]; unfold blk; rw [Ok.out.root]; rfl] at hl2
  unfold pv at hl2
  have T2x := T2.perm (show _ = pts x.b (ndO x) * (kidsHp x.kids * (pts fb (fsO F mb) * (pmap mb (putP (blk F.L) (g : Int) w2.heap.size) (F.L.length + 1) (F.n + 1) * (pts w2.heap.size (ndO ⟨w2.heap.size, k, t, none, 0, 1, 0⟩) * (X * R))))) by unfold ndHp; ac_rfl)
  obtain ⟨-, -, d2, -⟩ := nd_cells T2x
  rw [Ok.out.kids] at d2
  unfold kv at d2
  dsimp only at d2
  have T2k := T2x.perm (show _ = K.smap kd.b kd.M kd.sz kd.n * (pts x.b (ndO x) * (pts fb (fsO F mb) * (pmap mb (putP (blk F.L) (g : Int) w2.heap.size) (F.L.length + 1) (F.n + 1) * (pts w2.heap.size (ndO ⟨w2.heap.size, k, t, none, 0, 1, 0⟩) * (X * R))))) by rw [Ok.out.kids]; show pts x.b (ndO x) * (K.smap kd.b kd.M kd.sz kd.n * _) = _; ac_rfl)
  obtain ⟨w4, hrun2, T3, R3⟩ := K.smap_put T2k (by have := Ok.out.kn; unfold maxLen; omega) (nm c) (by show 1 ≤ 9223372036854775807; omega) Ok.out.new (g : Int) (by unfold I64; omega)
  have T3f := T3.perm (show _ = pts fb (fsO F mb) * (K.smap kd.b (K.putM kd.M (nm c) (g : Int)) (kd.sz + 1) (kd.n + 1) * (pts x.b (ndO x) * (pmap mb (putP (blk F.L) (g : Int) w2.heap.size) (F.L.length + 1) (F.n + 1) * (pts w2.heap.size (ndO ⟨w2.heap.size, k, t, none, 0, 1, 0⟩) * (X * R))))) by ac_rfl)
  have cu : w4.cell? ⟨fb, 2, none⟩ = some (.int .i64 F.used) := by rw [cell_at T3f.get]; rfl
  have f4 : ∀ i, w4.frozen? ⟨fb, i, none⟩ = false := fun i => free_at T3f.get i
  have T4 := T3f.set (i := 2) (.int .i64 (F.used + (t.size : Int)))
  have T5 := Lib.hid (made_sat (nb := w2.heap.size) (y := ⟨w2.heap.size, k, t, none, 0, 1, 0⟩) rfl rfl Ok.out hX2 (T4.perm (show pts fb (fsO { F with used := F.used + (t.size : Int) } mb) * _ = pts fb (fsO { F with used := F.used + (t.size : Int) } mb) * (K.smap kd.b (K.putM kd.M (nm c) (g : Int)) (kd.sz + 1) (kd.n + 1) * (pmap mb (putP (blk F.L) (g : Int) w2.heap.size) (F.L.length + 1) (F.n + 1) * (ndHp ⟨w2.heap.size, k, t, none, 0, 1, 0⟩ * (pts x.b (ndO x) * (X * R))))) by unfold ndHp kidsHp; dsimp only; rw [sep_emp]; ac_rfl)))
  have R5 := Lib.hid (Ran.set (Below.trans (Below.trans (Ran.new R1.out (ndO ⟨w2.heap.size, k, t, none, 0, 1, 0⟩)) R2) R3) ⟨fb, 2, none⟩ (.int .i64 (F.used + (t.size : Int))))
  unfold ndO kv at hrun1 cm1
  dsimp only at hrun1 cm1
  have hg1I : (1 : Int) ≤ (g : Int) := by omega
  clear S1 T1 T2 T2f T2x T2k T3 T3f T4 R2 R3 hX1 hX2 hw2 hln
  go_wp2_with fail
  go_loopg [15] (g - 1) (fun (gk : Nat) (v15 : Value) (wr : World) => ∃ i : Nat, v15 = .int .i64 (i : Int) ∧ 1 ≤ i ∧ i + gk = g ∧ w2 = wr)
  case atStart => exact ⟨1, rfl, Nat.le_refl _, by omega, rfl⟩
  case round =>
    obtain ⟨i, rfl, hi1, hig, rfl⟩ := hrel
    by_cases hlt : i < g
    · have hs := Ok.out.free.least i hi1 hlt
      obtain ⟨z, hz⟩ := Option.isSome_iff_exists.1 hs
      have hl := HLk.out (i : Int) (by unfold I64; omega)
      rw [show blk F.L (i : Int) = some z.b by unfold blk; rw [hz]; rfl] at hl
      unfold pv at hl
      have hiI : (i : Int) ≤ 1000001 := by omega
      have hi0 : (0 : Int) ≤ (i : Int) := by omega
      clear hs hz hrun1 hrun2 cm1 cm2 hl2 d2 cu f4
      go_wp2_with fail
      go_roundg (gk - 1)
      case rel => exact ⟨i + 1, by simp, by omega, by omega, rfl⟩
      case measure => omega
    · have hie : i = g := by omega
      subst hie
      have hl := HLk.out (i : Int) (by unfold I64; omega)
      rw [show blk F.L (i : Int) = none by unfold blk; rw [Ok.out.free.none]; rfl] at hl
      unfold pv at hl
      clear hlt
      go_wp2_with fail
      go_ret2
      exact ⟨⟨rfl, w2.heap.size, T5.out⟩, R5.out⟩
end Go.Proofs.YtljlpkeddbfpaaaGreatDoor.Hd

namespace Go.Proofs.YtljlpkeddbfpaaaGreatDoor.Hd
open Go.RowKit Go.Maps Go.Proofs.YtljlpkeddbfpaaaGreatDoor Go.Proofs.YtljlpkeddbfpaaaGreatDoor.Hp
set_option linter.unusedVariables false
attribute [local go_sem] Oper.semAt_some

set_option maxRecDepth 100000 in
set_option maxHeartbeats 8000000 in
theorem MakeD_calls (fb mb : Nat) (F : Fs) (x : Nd) (kd : Kd) (c : UInt8) (g : Nat) (ok : MakeOk F x kd c g ⟨#[]⟩) (w : World) (R : Hp) (h : Sat w (fsHp fb mb F * R)) :
    Calls Tryz.prog 35 #[pp fb, .int .i64 1, .string (nm c), .int .i64 1, .string ⟨#[]⟩] w fun e w' => (e = .returned (.tuple #[.int .i64 (g : Int), .int .i64 0]) ∧ ∃ nb kb, Sat w' (fsHp fb mb (madeF F x kd c g ⟨nb, 1, ⟨#[]⟩, some ⟨kb, fun _ => none, 0, 0⟩, 1, 1, 0⟩) * R)) ∧ Ran w w' := by
  have HP := Lib.hid (place_calls fb mb F x kd c 1 ok.simple ok.root ok.kind ok.kids ok.new w R h)
  have H0 := Lib.hid h
  have Ok := Lib.hid ok
  clear h ok
  go_enter Tryz.func35, Tryz.ntmps35
  go_wp2_with fail
  refine HP.out.mono ?_
  rintro e w1 ⟨rfl, hB⟩
  have S1 := (H0.out.below hB).drew
  have R1 := Lib.hid (Ran.drewN (below_ran hB) 1)
  obtain ⟨c0, c1, c2, c3⟩ := fs_cells S1
  have hln := pmap_len Tryz.underlying101 (S1.perm (show _ = pmap mb (blk F.L) F.L.length F.n * (pts fb (fsO F mb) * nds F.L * R) by unfold fsHp; ac_rfl))
  obtain ⟨o1, o2, o3, o4, o5, o6⟩ := And.intro Ok.out.most (And.intro Ok.out.room (And.intro Ok.out.used.1 (And.intro Ok.out.used.2 (And.intro Ok.out.rm.1 Ok.out.rm.2))))
  have hwr : IntKind.i64.wrap (F.room - F.used) = F.room - F.used := IntWalk.i64_in _ (by omega)
  have hle1 : ¬ F.most ≤ (F.L.length : Int) := by omega
  have hle2 : decide (F.most ≤ (F.L.length : Int)) = false := decide_eq_false hle1
  have o7 : (0 : Int) ≤ F.room - F.used := o2
  have hle3 : ¬ F.room - F.used < 0 := by omega
  have hle4 : decide (F.room - F.used < 0) = false := decide_eq_false hle3
  have S1 := Lib.hid S1
  clear hB HP
  go_wp2_with fail
  refine region_plan (S := (fun w' => w'.cell? ⟨fb, 0, none⟩ = some (.int .i64 F.most) ∧ w'.cell? ⟨fb, 1, none⟩ = some (.int .i64 F.room) ∧ w'.cell? ⟨fb, 2, none⟩ = some (.int .i64 F.used) ∧ w'.cell? ⟨fb, 3, none⟩ = some (.map (some mb)) ∧ ∀ ty, (Builtin.len_ #[101] ty #[.map (some mb)]).run Tryz.prog w' = .ok (.int .i64 (F.L.length : Int)) w')) [(0, true), (1, true), (2, true), (3, true), (4, true), (5, true), (6, true), (7, true), (8, true), (9, true), (10, true), (11, true), (12, true), (13, true), (14, true), (15, true), (16, true), (17, true), (18, true), (19, true), (20, true), (21, true), (22, true), (23, true), (24, true)] (by kernel_rfl) (by kernel_rfl) (by kernel_rfl) ?_ ?_
  · ((try dsimp only); (first | done | (exact ⟨c0, c1, c2, c3, hln⟩)))
  simp only [planOps, List.map_cons, List.map_nil, List.getElem?_toArray, List.getElem?_cons_zero, List.getElem?_cons_succ]
  repeat (first
    | ((refine plan_yes (v := ?_) (by rfl) ?_ ?_); rotate_left; (focus (intro w hSw; (try dsimp only at hSw); go_simp; try (with_reducible rfl))); (try simp only [Act.put, List.setIfInBounds_toArray, List.set_cons_zero, List.set_cons_succ]))
    | ((refine plan_no (by rfl) ?_); (try simp only [Act.put, List.setIfInBounds_toArray, List.set_cons_zero, List.set_cons_succ]))
    | ((refine plan_step (fun K hK => ?_)); (first | (fail) | (go_simp; (fail); (try go_wp2_with fail)) | go_simp); (refine hK.out _ _ ?_ (fun hHeld => ?_)); (focus ((try dsimp only); (first | done | (exact ⟨c0, c1, c2, c3, hln⟩)))); clear hK K; (try simp only [Act.put, List.setIfInBounds_toArray, List.set_cons_zero, List.set_cons_succ])))
  refine plan_done ?_
  obtain ⟨w2, hw2⟩ : ∃ w2, w2 = w1.drew := ⟨_, rfl⟩
  have S1 := S1.out
  rw [← hw2] at S1 c0 c1 c2 c3 ⊢
  have R1 : Hid (Ran w w2) := Lib.hid (by rw [hw2]; exact R1.out)
  have HLk := Lib.hid (fun (k : Int) (hk : I64 k) => fs_look S1 k hk)
  have hLn : F.L.length ≤ 1000000 := Nat.le_trans (pmap_le (S1.perm (show _ = pmap mb (blk F.L) F.L.length F.n * (pts fb (fsO F mb) * nds F.L * R) by unfold fsHp; ac_rfl))) Ok.out.n
  have hg1 := Ok.out.free.pos
  have hg2 := Ok.out.free.le
  have hgI : (g : Int) ≤ 1000001 := by omega
  -- what comes
  obtain ⟨X, hX1, hX2⟩ := focus F.L 1 x Ok.out.root
  have hgn1 : (g : Int) ≠ 1 := fun e => by
    have := Ok.out.free.none
    rw [e, Ok.out.root] at this
    cases this
  have U1 := K.smap_made (S1.alloc (ndO ⟨w2.heap.size, 1, ⟨#[]⟩, some ⟨w2.heap.size + 1, fun _ => none, 0, 0⟩, 1, 1, 0⟩))
  rw [World.size_alloc] at U1
  obtain ⟨kb, hkb⟩ : ∃ kb, kb = w2.heap.size + 1 := ⟨_, rfl⟩
  rw [← hkb] at U1
  obtain ⟨wn, hwn⟩ : ∃ wn, wn = (w2.alloc (ndO ⟨w2.heap.size, 1, ⟨#[]⟩, some ⟨kb, fun _ => none, 0, 0⟩, 1, 1, 0⟩)).alloc (.map #[] 0) := ⟨_, rfl⟩
  rw [← hwn] at U1
  have Rn : Ran w wn := by rw [hwn]; exact Ran.new (Ran.new R1.out _) _
  have T1 := U1.perm (show _ = pmap mb (blk F.L) F.L.length F.n * (ndHp ⟨w2.heap.size, 1, ⟨#[]⟩, some ⟨kb, fun _ => none, 0, 0⟩, 1, 1, 0⟩ * (pts fb (fsO F mb) * (ndHp x * (X * R)))) by unfold fsHp; rw [hX1, show ndHp ⟨w2.heap.size, 1, ⟨#[]⟩, some ⟨kb, fun _ => none, 0, 0⟩, 1, 1, 0⟩ = pts w2.heap.size (ndO ⟨w2.heap.size, 1, ⟨#[]⟩, some ⟨kb, fun _ => none, 0, 0⟩, 1, 1, 0⟩) * K.smap kb (fun _ => none) 0 0 from rfl]; ac_rfl)
  obtain ⟨w3, hrun1, T2, R2⟩ := pmap_put Tryz.underlying101 T1 (by have := Ok.out.n; unfold maxLen; omega) (g : Int) (by unfold I64; omega) (by unfold blk; rw [Ok.out.free.none]; rfl) w2.heap.size
  have cm1 : wn.cell? ⟨fb, 3, none⟩ = some (.map (some mb)) := by
    have := (T1.perm (show _ = pts fb (fsO F mb) * (pmap mb (blk F.L) F.L.length F.n * (ndHp ⟨w2.heap.size, 1, ⟨#[]⟩, some ⟨kb, fun _ => none, 0, 0⟩, 1, 1, 0⟩ * (ndHp x * (X * R)))) by ac_rfl)).get
    rw [cell_at this]; rfl
  have T2f := T2.perm (show _ = pts fb (fsO F mb) * (pmap mb (putP (blk F.L) (g : Int) w2.heap.size) (F.L.length + 1) (F.n + 1) * (ndHp ⟨w2.heap.size, 1, ⟨#[]⟩, some ⟨kb, fun _ => none, 0, 0⟩, 1, 1, 0⟩ * (ndHp x * (X * R)))) by ac_rfl)
  have cm2 : w3.cell? ⟨fb, 3, none⟩ = some (.map (some mb)) := by rw [cell_at T2f.get]; rfl
  have hl2 := pmap_look Tryz.underlying101 zeroNode T2 1 (by unfold I64; omega)
  rw [show putP (blk F.L) (g : Int) w2.heap.size 1 = some x.b by unfold putP; rw [if_neg (fun e => hgn1 e.symm)]; unfold blk; rw [Ok.out.root]; rfl] at hl2
  unfold pv at hl2
  have T2x := T2.perm (show _ = pts x.b (ndO x) * (kidsHp x.kids * (pts fb (fsO F mb) * (pmap mb (putP (blk F.L) (g : Int) w2.heap.size) (F.L.length + 1) (F.n + 1) * (ndHp ⟨w2.heap.size, 1, ⟨#[]⟩, some ⟨kb, fun _ => none, 0, 0⟩, 1, 1, 0⟩ * (X * R))))) by show _ = pts x.b (ndO x) * (kidsHp x.kids * _); rw [show ndHp x = pts x.b (ndO x) * kidsHp x.kids from rfl]; ac_rfl)
  obtain ⟨-, -, d2, -⟩ := nd_cells T2x
  rw [Ok.out.kids] at d2
  unfold kv at d2
  dsimp only at d2
  have T2k := T2x.perm (show _ = K.smap kd.b kd.M kd.sz kd.n * (pts x.b (ndO x) * (pts fb (fsO F mb) * (pmap mb (putP (blk F.L) (g : Int) w2.heap.size) (F.L.length + 1) (F.n + 1) * (ndHp ⟨w2.heap.size, 1, ⟨#[]⟩, some ⟨kb, fun _ => none, 0, 0⟩, 1, 1, 0⟩ * (X * R))))) by rw [Ok.out.kids]; show pts x.b (ndO x) * (K.smap kd.b kd.M kd.sz kd.n * _) = _; ac_rfl)
  obtain ⟨w4, hrun2, T3, R3⟩ := K.smap_put T2k (by have := Ok.out.kn; unfold maxLen; omega) (nm c) (by show 1 ≤ 9223372036854775807; omega) Ok.out.new (g : Int) (by unfold I64; omega)
  have T3f := T3.perm (show _ = pts fb (fsO F mb) * (K.smap kd.b (K.putM kd.M (nm c) (g : Int)) (kd.sz + 1) (kd.n + 1) * (pts x.b (ndO x) * (pmap mb (putP (blk F.L) (g : Int) w2.heap.size) (F.L.length + 1) (F.n + 1) * (ndHp ⟨w2.heap.size, 1, ⟨#[]⟩, some ⟨kb, fun _ => none, 0, 0⟩, 1, 1, 0⟩ * (X * R))))) by ac_rfl)
  have cu : w4.cell? ⟨fb, 2, none⟩ = some (.int .i64 F.used) := by rw [cell_at T3f.get]; rfl
  have f4 : ∀ i, w4.frozen? ⟨fb, i, none⟩ = false := fun i => free_at T3f.get i
  have T4 := T3f.set (i := 2) (.int .i64 F.used)
  have eu : F.used + (((⟨#[]⟩ : ByteArray).size : Nat) : Int) = F.used := by show F.used + 0 = F.used; omega
  have T5 := Lib.hid (made_sat (nb := w2.heap.size) (y := ⟨w2.heap.size, 1, ⟨#[]⟩, some ⟨kb, fun _ => none, 0, 0⟩, 1, 1, 0⟩) rfl rfl Ok.out hX2 (T4.perm (show pts fb (fsO { F with used := F.used } mb) * _ = pts fb (fsO { F with used := F.used + (((⟨#[]⟩ : ByteArray).size : Nat) : Int) } mb) * (K.smap kd.b (K.putM kd.M (nm c) (g : Int)) (kd.sz + 1) (kd.n + 1) * (pmap mb (putP (blk F.L) (g : Int) w2.heap.size) (F.L.length + 1) (F.n + 1) * (ndHp ⟨w2.heap.size, 1, ⟨#[]⟩, some ⟨kb, fun _ => none, 0, 0⟩, 1, 1, 0⟩ * (pts x.b (ndO x) * (X * R))))) by rw [eu]; ac_rfl)))
  have R5 := Lib.hid (Ran.set (Below.trans (Below.trans Rn R2) R3) ⟨fb, 2, none⟩ (.int .i64 F.used))
  rw [hwn] at hrun1 cm1
  unfold ndO kv at hrun1 cm1
  dsimp only at hrun1 cm1
  rw [hkb] at hrun1 cm1
  have hmk : ∀ W : World, (Instr.makeMap 98 none).run Tryz.prog W = .ok (.map (some W.heap.size)) (W.alloc (.map #[] 0)) := fun W => rfl
  have hg1I : (1 : Int) ≤ (g : Int) := by omega
  clear S1 U1 hwn Rn eu hkb T1 T2 T2f T2x T2k T3 T3f T4 R2 R3 hX1 hX2 hw2 hln
  go_wp2_with fail
  go_loopg [15] (g - 1) (fun (gk : Nat) (v15 : Value) (wr : World) => ∃ i : Nat, v15 = .int .i64 (i : Int) ∧ 1 ≤ i ∧ i + gk = g ∧ w2 = wr)
  case atStart => exact ⟨1, rfl, Nat.le_refl _, by omega, rfl⟩
  case round =>
    obtain ⟨i, rfl, hi1, hig, rfl⟩ := hrel
    by_cases hlt : i < g
    · have hs := Ok.out.free.least i hi1 hlt
      obtain ⟨z, hz⟩ := Option.isSome_iff_exists.1 hs
      have hl := HLk.out (i : Int) (by unfold I64; omega)
      rw [show blk F.L (i : Int) = some z.b by unfold blk; rw [hz]; rfl] at hl
      unfold pv at hl
      have hiI : (i : Int) ≤ 1000001 := by omega
      have hi0 : (0 : Int) ≤ (i : Int) := by omega
      clear hs hz hrun1 hrun2 cm1 cm2 hl2 d2 cu f4
      go_wp2_with fail
      go_roundg (gk - 1)
      case rel => exact ⟨i + 1, by simp, by omega, by omega, rfl⟩
      case measure => omega
    · have hie : i = g := by omega
      subst hie
      have hl := HLk.out (i : Int) (by unfold I64; omega)
      rw [show blk F.L (i : Int) = none by unfold blk; rw [Ok.out.free.none]; rfl] at hl
      unfold pv at hl
      clear hlt
      go_wp2_with fail
      go_ret2
      exact ⟨⟨rfl, w2.heap.size, kb, T5.out⟩, R5.out⟩
end Go.Proofs.YtljlpkeddbfpaaaGreatDoor.Hd

namespace Go.Proofs.YtljlpkeddbfpaaaGreatDoor.Hd
open Go.RowKit Go.Maps Go.Proofs.YtljlpkeddbfpaaaGreatDoor Go.Proofs.YtljlpkeddbfpaaaGreatDoor.Hp
set_option linter.unusedVariables false
attribute [local go_sem] Oper.semAt_some

/-- The root, when it is new. -/
def rootN (b kb : Nat) : Nd := ⟨b, 1, ⟨#[]⟩, some ⟨kb, fun _ => none, 0, 0⟩, 1, 0, 0⟩
def newF (most room : Int) (b kb : Nat) : Fs := ⟨most, room, 0, [((1 : Int), rootN b kb)], 1⟩
set_option maxRecDepth 100000 in
set_option maxHeartbeats 8000000 in
theorem New_calls (most room : Int) (h1 : 1 ≤ most) (h2 : most ≤ 1024) (h3 : 0 ≤ room) (h4 : room ≤ 1048576) (w : World) (R : Hp) (h : Sat w R) :
    Calls Tryz.prog 29 #[.int .i64 most, .int .i64 room] w fun e w' => (∃ fb mb b kb, e = .returned (.tuple #[pp fb, .int .i64 0]) ∧ Sat w' (fsHp fb mb (newF most room b kb) * R)) ∧ Ran w w' := by
  have hmk1 : ∀ W : World, (Instr.makeMap 101 none).run Tryz.prog W = .ok (.map (some W.heap.size)) (W.alloc (.map #[] 0)) := fun W => rfl
  have hmk2 : ∀ W : World, (Instr.makeMap 98 none).run Tryz.prog W = .ok (.map (some W.heap.size)) (W.alloc (.map #[] 0)) := fun W => rfl
  have S1 := pmap_made h
  have S2 := K.smap_made S1
  rw [World.size_alloc] at S2
  have S3 := S2.alloc (ndO (rootN (w.heap.size + 1 + 1) (w.heap.size + 1)))
  rw [World.size_alloc, World.size_alloc] at S3
  have S4 := S3.perm (show _ = pmap w.heap.size (fun _ => none) 0 0 * (pts (w.heap.size + 1 + 1) (ndO (rootN (w.heap.size + 1 + 1) (w.heap.size + 1))) * (K.smap (w.heap.size + 1) (fun _ => none) 0 0 * R)) by ac_rfl)
  obtain ⟨w3, hrun, S5, R5⟩ := pmap_put Tryz.underlying101 S4 (by unfold maxLen; omega) 1 (by unfold I64; omega) rfl (w.heap.size + 1 + 1)
  have S6 := Lib.hid ((S5.alloc (fsO (newF most room (w.heap.size + 1 + 1) (w.heap.size + 1)) w.heap.size)).perm (show _ = fsHp w3.heap.size w.heap.size (newF most room (w.heap.size + 1 + 1) (w.heap.size + 1)) * R by
    unfold fsHp
    rw [show blk (newF most room (w.heap.size + 1 + 1) (w.heap.size + 1)).L = putP (fun _ => none) 1 (w.heap.size + 1 + 1) by
      unfold newF; dsimp only; rw [blk_cons]; rfl]
    show _ = pts w3.heap.size (fsO (newF most room (w.heap.size + 1 + 1) (w.heap.size + 1)) w.heap.size) * (pmap w.heap.size (putP (fun _ => none) 1 (w.heap.size + 1 + 1)) (0 + 1) (0 + 1) * ((pts (w.heap.size + 1 + 1) (ndO (rootN (w.heap.size + 1 + 1) (w.heap.size + 1))) * K.smap (w.heap.size + 1) (fun _ => none) 0 0) * emp)) * R
    rw [sep_emp]
    ac_rfl))
  have R6 := Lib.hid (Ran.new (Below.trans (Ran.new (Ran.new (Ran.new (Below.refl 0 w) (.map #[] 0)) (.map #[] 0)) (ndO (rootN (w.heap.size + 1 + 1) (w.heap.size + 1)))) R5) (fsO (newF most room (w.heap.size + 1 + 1) (w.heap.size + 1)) w.heap.size))
  unfold ndO rootN kv at hrun
  dsimp only at hrun
  clear h S1 S2 S3 S4 S5 R5
  go_enter Tryz.func29, Tryz.ntmps29
  go_wp2_with fail
  go_ret2
  exact ⟨⟨w3.heap.size, w.heap.size, w.heap.size + 1 + 1, w.heap.size + 1, rfl, S6.out⟩, R6.out⟩
set_option maxRecDepth 100000 in
set_option maxHeartbeats 4000000 in
theorem HNew_calls (fb pb : Nat) (w : World) (R : Hp) (h : Sat w R) :
    Calls Tryz.prog 30 #[pp fb, pp pb] w fun e w' => (∃ tb hm, e = .returned (.tuple #[pp tb, .int .i64 0]) ∧ Sat w' (tabHp tb fb pb hm [] 0 * R)) ∧ Ran w w' := by
  have hmk1 : ∀ W : World, (Instr.makeMap 79 none).run Tryz.prog W = .ok (.map (some W.heap.size)) (W.alloc (.map #[] 0)) := fun W => rfl
  have S1 := pmap_made h
  have S2 := S1.alloc (tbO fb pb w.heap.size)
  rw [World.size_alloc] at S2
  have S3 := Lib.hid (S2.perm (show _ = tabHp (w.heap.size + 1) fb pb w.heap.size [] 0 * R by
    unfold tabHp
    show _ = pts (w.heap.size + 1) (tbO fb pb w.heap.size) * (pmap w.heap.size (fun _ => none) 0 0 * emp) * R
    rw [sep_emp]
    ac_rfl))
  have R3 := Lib.hid (Ran.new (Ran.new (Below.refl 0 w) (.map #[] 0)) (tbO fb pb w.heap.size))
  clear h S1 S2
  go_enter Tryz.func30, Tryz.ntmps30
  go_wp2_with fail
  go_ret2
  exact ⟨⟨w.heap.size + 1, w.heap.size, rfl, S3.out⟩, R3.out⟩
end Go.Proofs.YtljlpkeddbfpaaaGreatDoor.Hd

namespace Go.Proofs.YtljlpkeddbfpaaaGreatDoor.Hd
open Go.RowKit Go.Maps Go.Proofs.YtljlpkeddbfpaaaGreatDoor Go.Proofs.YtljlpkeddbfpaaaGreatDoor.Hp
set_option linter.unusedVariables false

theorem find_made (F : Fs) (x : Nd) (kd : Kd) (c : UInt8) (g : Nat) (y : Nd) (hx : find F.L 1 = some x) (j : Int) :
    find (madeF F x kd c g y).L j = if j = (g : Int) then some y else if j = 1 then some { x with kids := some { kd with M := K.putM kd.M (nm c) (g : Int), sz := kd.sz + 1, n := kd.n + 1 } } else find F.L j := by
  unfold madeF
  dsimp only
  rw [find_cons, find_upd F.L 1 j _ (by rw [hx]; rfl)]
/-- A tree whose nodes are 1 to g - 1, the root x with the names kd. -/
structure Beg (F : Fs) (g : Nat) (u : Nat) (x : Nd) (kd : Kd) : Prop where
  full : ∀ j : Int, (find F.L j).isSome = true ↔ 1 ≤ j ∧ j < (g : Int)
  len : F.L.length + 1 = g
  small : g ≤ 8
  n : F.n ≤ g
  root : find F.L 1 = some x
  kind : x.kind = 1
  kids : x.kids = some kd
  kn : kd.n ≤ g
  most : F.most = 8
  room : F.room = 60
  used : F.used = (u : Int)
theorem Beg.make {F : Fs} {g u : Nat} {x : Nd} {kd : Kd} (h : Beg F g u x kd) {c : UInt8} (hc : Simple c) (hM : kd.M (nm c) = none) {t : ByteArray} (ht : t.size ≤ 60 - u) (hu : u ≤ 60) : MakeOk F x kd c g t where
  simple := hc
  root := h.root
  kind := h.kind
  kids := h.kids
  new := hM
  kn := by have := h.kn; have := h.small; omega
  free := {
    pos := by have := h.len; omega
    le := by have := h.len; omega
    none := by
      cases hf : find F.L (g : Int) with
      | none => rfl
      | some z =>
        have := (h.full (g : Int)).1 (by rw [hf]; rfl)
        omega
    least := fun j h1 h2 => (h.full (j : Int)).2 (by omega) }
  n := by have := h.n; have := h.small; omega
  most := by rw [h.most]; have := h.len; have := h.small; omega
  small := by omega
  room := by rw [h.room, h.used]; omega
  used := by rw [h.used]; omega
  rm := by rw [h.room]; omega
theorem Beg.next {F : Fs} {g u : Nat} {x : Nd} {kd : Kd} (h : Beg F g u x kd) (hs : g + 1 ≤ 8) (c : UInt8) (y : Nd) (g1 : 2 ≤ g) :
    Beg (madeF F x kd c g y) (g + 1) (u + y.text.size) { x with kids := some { kd with M := K.putM kd.M (nm c) (g : Int), sz := kd.sz + 1, n := kd.n + 1 } } { kd with M := K.putM kd.M (nm c) (g : Int), sz := kd.sz + 1, n := kd.n + 1 } where
  full j := by
    rw [find_made F x kd c g y h.root]
    by_cases e : j = (g : Int)
    · rw [if_pos e]; subst e; simp; omega
    · rw [if_neg e]
      by_cases e1 : j = 1
      · rw [if_pos e1]; subst e1; simp; omega
      · rw [if_neg e1, h.full j]; omega
  len := by
    show ((g : Int), y) :: upd F.L 1 _ |>.length |> (· + 1) |> (· = g + 1)
    simp only [List.length_cons, upd_len]
    have := h.len; omega
  small := hs
  n := by show F.n + 1 ≤ g + 1; have := h.n; omega
  root := by
    rw [find_made F x kd c g y h.root, if_neg (by omega), if_pos rfl]
  kind := h.kind
  kids := rfl
  kn := by show kd.n + 1 ≤ g + 1; have := h.kn; omega
  most := h.most
  room := h.room
  used := by show F.used + (y.text.size : Int) = _; rw [h.used]; omega
theorem beg_new (b kb : Nat) : Beg (newF 8 60 b kb) 2 0 (rootN b kb) ⟨kb, fun _ => none, 0, 0⟩ where
  full j := by
    show (if (1 : Int) = j then some (rootN b kb) else none).isSome = true ↔ _
    by_cases e : (1 : Int) = j
    · rw [if_pos e]; subst e; simp
    · rw [if_neg e]; simp; omega
  len := rfl
  small := by omega
  n := by show 1 ≤ 2; omega
  root := rfl
  kind := rfl
  kids := rfl
  kn := Nat.zero_le _
  most := rfl
  room := rfl
  used := rfl
abbrev xyz : ByteArray := ⟨#[120, 121, 122]⟩
/-- The tree when the calls begin. -/
structure Begun (F : Fs) : Prop where
  n2 : ∃ b, find F.L 2 = some ⟨b, 2, xyz, none, 0, 1, 0⟩
  n3 : ∃ b, find F.L 3 = some ⟨b, 2, ⟨#[]⟩, none, 0, 1, 0⟩
  n4 : ∃ b, find F.L 4 = some ⟨b, 3, nm 97, none, 0, 1, 0⟩
  n5 : ∃ b kd, find F.L 5 = some ⟨b, 1, ⟨#[]⟩, some kd, 1, 1, 0⟩ ∧ kd.sz = 0
  n1 : ∃ b kd, find F.L 1 = some ⟨b, 1, ⟨#[]⟩, some kd, 1, 0, 0⟩ ∧ kd.sz = 4
  only : ∀ j : Int, (find F.L j).isSome = true ↔ 1 ≤ j ∧ j < 6
  room : F.room = 60
  used : F.used = 4
  names : ∃ b kd, find F.L 1 = some ⟨b, 1, ⟨#[]⟩, some kd, 1, 0, 0⟩ ∧ kd.M = K.putM (K.putM (K.putM (K.putM (fun _ => none) (nm 97) 2) (nm 98) 3) (nm 108) 4) (nm 100) 5
  empty : ∃ b kd, find F.L 5 = some ⟨b, 1, ⟨#[]⟩, some kd, 1, 1, 0⟩ ∧ kd.M = fun _ => none
end Go.Proofs.YtljlpkeddbfpaaaGreatDoor.Hd

namespace Go.Proofs.YtljlpkeddbfpaaaGreatDoor.Hd
open Go.RowKit Go.Maps Go.Proofs.YtljlpkeddbfpaaaGreatDoor Go.Proofs.YtljlpkeddbfpaaaGreatDoor.Hp
set_option linter.unusedVariables false
attribute [local go_sem] Oper.semAt_some

abbrev woO (a b c : Value) : Obj := .cells #[a, b, c] 28 (0, 0)
theorem wo_cells {w : World} {b : Nat} {x y z : Value} {S : Hp} (h : Sat w (pts b (woO x y z) * S)) : w.cell? ⟨b, 0, none⟩ = some x ∧ w.cell? ⟨b, 1, none⟩ = some y ∧ w.cell? ⟨b, 2, none⟩ = some z := by
  have hb := h.get
  refine ⟨?_, ?_, ?_⟩ <;> rw [cell_at hb] <;> rfl
theorem putM_ne (M : K.SM) (k j : ByteArray) (v : Int) (h : j ≠ k) : K.putM M k v j = M j := if_neg h
abbrev dN (d : Kd) (c : UInt8) (g : Nat) : Kd := { d with M := K.putM d.M (nm c) (g : Int), sz := d.sz + 1, n := d.n + 1 }
abbrev xN (x : Nd) (d : Kd) : Nd := { x with kids := some d }
abbrev bd1 (kb : Nat) : Kd := ⟨kb, fun _ => none, 0, 0⟩
abbrev bd2 (kb : Nat) : Kd := dN (bd1 kb) 97 2
abbrev bd3 (kb : Nat) : Kd := dN (bd2 kb) 98 3
abbrev bd4 (kb : Nat) : Kd := dN (bd3 kb) 108 4
abbrev bx2 (b kb : Nat) : Nd := xN (rootN b kb) (bd2 kb)
abbrev bx3 (b kb : Nat) : Nd := xN (bx2 b kb) (bd3 kb)
abbrev bx4 (b kb : Nat) : Nd := xN (bx3 b kb) (bd4 kb)
abbrev bF1 (b kb : Nat) : Fs := newF 8 60 b kb
abbrev bF2 (b kb b2 : Nat) : Fs := madeF (bF1 b kb) (rootN b kb) (bd1 kb) 97 2 ⟨b2, 2, xyz, none, 0, 1, 0⟩
abbrev bF3 (b kb b2 b3 : Nat) : Fs := madeF (bF2 b kb b2) (bx2 b kb) (bd2 kb) 98 3 ⟨b3, 2, ⟨#[]⟩, none, 0, 1, 0⟩
abbrev bF4 (b kb b2 b3 b4 : Nat) : Fs := madeF (bF3 b kb b2 b3) (bx3 b kb) (bd3 kb) 108 4 ⟨b4, 3, nm 97, none, 0, 1, 0⟩
abbrev bF5 (b kb b2 b3 b4 b5 k5 : Nat) : Fs := madeF (bF4 b kb b2 b3 b4) (bx4 b kb) (bd4 kb) 100 5 ⟨b5, 1, ⟨#[]⟩, some ⟨k5, fun _ => none, 0, 0⟩, 1, 1, 0⟩
theorem begun_facts (b kb b2 b3 b4 b5 k5 : Nat) : MakeOk (bF1 b kb) (rootN b kb) (bd1 kb) 97 2 xyz ∧ MakeOk (bF2 b kb b2) (bx2 b kb) (bd2 kb) 98 3 ⟨#[]⟩ ∧ MakeOk (bF3 b kb b2 b3) (bx3 b kb) (bd3 kb) 108 4 (nm 97) ∧ MakeOk (bF4 b kb b2 b3 b4) (bx4 b kb) (bd4 kb) 100 5 ⟨#[]⟩ ∧ Begun (bF5 b kb b2 b3 b4 b5 k5) := by
  obtain ⟨F1, hF⟩ : ∃ F, F = newF 8 60 b kb := ⟨_, rfl⟩
  obtain ⟨x, hx⟩ : ∃ x, x = rootN b kb := ⟨_, rfl⟩
  obtain ⟨d, hd⟩ : ∃ d : Kd, d = ⟨kb, fun _ => none, 0, 0⟩ := ⟨_, rfl⟩
  have B1 := beg_new b kb
  rw [← hF, ← hx, ← hd] at B1
  have hM1 : d.M = fun _ => none := by rw [hd]
  have ok1 : MakeOk F1 x d 97 2 xyz := B1.make (.inl rfl) (by rw [hM1]) (by decide) (by omega)
  have B2 := B1.next (by omega) 97 ⟨b2, 2, xyz, none, 0, 1, 0⟩ (by omega)
  obtain ⟨F2, hF2⟩ : ∃ F2, F2 = madeF F1 x d 97 2 ⟨b2, 2, xyz, none, 0, 1, 0⟩ := ⟨_, rfl⟩
  have f2 := find_made F1 x d 97 2 ⟨b2, 2, xyz, none, 0, 1, 0⟩ B1.root
  obtain ⟨d2, hd2⟩ : ∃ d2 : Kd, d2 = { d with M := K.putM d.M (nm 97) ((2 : Nat) : Int), sz := d.sz + 1, n := d.n + 1 } := ⟨_, rfl⟩
  rw [← hd2] at B2
  obtain ⟨x2, hx2⟩ : ∃ x2 : Nd, x2 = { x with kids := some d2 } := ⟨_, rfl⟩
  rw [← hx2, ← hF2] at B2
  rw [← hF2] at f2
  have ok2 : MakeOk F2 x2 d2 98 3 ⟨#[]⟩ := B2.make (.inr (.inl rfl)) (by rw [hd2]; exact (putM_ne d.M (nm 97) (nm 98) ((2 : Nat) : Int) (by decide)).trans (by rw [hM1])) (Nat.zero_le _) (Nat.le_of_ble_eq_true rfl)
  have B3 := B2.next (by omega) 98 ⟨b3, 2, ⟨#[]⟩, none, 0, 1, 0⟩ (by omega)
  obtain ⟨F3, hF3⟩ : ∃ F3, F3 = madeF F2 x2 d2 98 3 ⟨b3, 2, ⟨#[]⟩, none, 0, 1, 0⟩ := ⟨_, rfl⟩
  have f3 := find_made F2 x2 d2 98 3 ⟨b3, 2, ⟨#[]⟩, none, 0, 1, 0⟩ B2.root
  obtain ⟨d3, hd3⟩ : ∃ d3 : Kd, d3 = { d2 with M := K.putM d2.M (nm 98) ((3 : Nat) : Int), sz := d2.sz + 1, n := d2.n + 1 } := ⟨_, rfl⟩
  rw [← hd3] at B3
  obtain ⟨x3, hx3⟩ : ∃ x3 : Nd, x3 = { x2 with kids := some d3 } := ⟨_, rfl⟩
  rw [← hx3, ← hF3] at B3
  rw [← hF3] at f3
  have ok3 : MakeOk F3 x3 d3 108 4 (nm 97) := B3.make (.inr (.inr (.inl rfl))) (by rw [hd3]; refine (putM_ne d2.M (nm 98) (nm 108) ((3 : Nat) : Int) (by decide)).trans ?_; rw [hd2]; exact (putM_ne d.M (nm 97) (nm 108) ((2 : Nat) : Int) (by decide)).trans (by rw [hM1])) (Nat.le_of_ble_eq_true rfl) (Nat.le_of_ble_eq_true rfl)
  have B4 := B3.next (by omega) 108 ⟨b4, 3, nm 97, none, 0, 1, 0⟩ (by omega)
  obtain ⟨F4, hF4⟩ : ∃ F4, F4 = madeF F3 x3 d3 108 4 ⟨b4, 3, nm 97, none, 0, 1, 0⟩ := ⟨_, rfl⟩
  have f4 := find_made F3 x3 d3 108 4 ⟨b4, 3, nm 97, none, 0, 1, 0⟩ B3.root
  obtain ⟨d4, hd4⟩ : ∃ d4 : Kd, d4 = { d3 with M := K.putM d3.M (nm 108) ((4 : Nat) : Int), sz := d3.sz + 1, n := d3.n + 1 } := ⟨_, rfl⟩
  rw [← hd4] at B4
  obtain ⟨x4, hx4⟩ : ∃ x4 : Nd, x4 = { x3 with kids := some d4 } := ⟨_, rfl⟩
  rw [← hx4, ← hF4] at B4
  rw [← hF4] at f4
  have ok4 : MakeOk F4 x4 d4 100 5 ⟨#[]⟩ := B4.make (.inr (.inr (.inr rfl))) (by rw [hd4]; refine (putM_ne d3.M (nm 108) (nm 100) ((4 : Nat) : Int) (by decide)).trans ?_; rw [hd3]; refine (putM_ne d2.M (nm 98) (nm 100) ((3 : Nat) : Int) (by decide)).trans ?_; rw [hd2]; exact (putM_ne d.M (nm 97) (nm 100) ((2 : Nat) : Int) (by decide)).trans (by rw [hM1])) (Nat.zero_le _) (Nat.le_of_ble_eq_true rfl)
  have B5 := B4.next (by omega) 100 ⟨b5, 1, ⟨#[]⟩, some ⟨k5, fun _ => none, 0, 0⟩, 1, 1, 0⟩ (by omega)
  have f5 := find_made F4 x4 d4 100 5 ⟨b5, 1, ⟨#[]⟩, some ⟨k5, fun _ => none, 0, 0⟩, 1, 1, 0⟩ B4.root
  have key : Begun (madeF F4 x4 d4 100 5 ⟨b5, 1, ⟨#[]⟩, some ⟨k5, fun _ => none, 0, 0⟩, 1, 1, 0⟩) := ?key
  · subst hF2 hF3 hF4 hx2 hx3 hx4 hd2 hd3 hd4 hF hx hd
    exact ⟨ok1, ok2, ok3, ok4, key⟩
  have hroot : x4.b = b ∧ x4.kind = 1 ∧ x4.text = ⟨#[]⟩ ∧ x4.par = 1 ∧ x4.names = 0 ∧ x4.holds = 0 := by rw [hx4, hx3, hx2, hx]; exact ⟨rfl, rfl, rfl, rfl, rfl, rfl⟩
  refine { n2 := ⟨b2, ?_⟩, n3 := ⟨b3, ?_⟩, n4 := ⟨b4, ?_⟩, n5 := ⟨b5, ⟨k5, fun _ => none, 0, 0⟩, ?_, rfl⟩, n1 := ⟨b, { d4 with M := K.putM d4.M (nm 100) ((5 : Nat) : Int), sz := d4.sz + 1, n := d4.n + 1 }, ?_, ?_⟩, only := fun j => ?_, room := B5.room, used := B5.used, names := ⟨b, { d4 with M := K.putM d4.M (nm 100) ((5 : Nat) : Int), sz := d4.sz + 1, n := d4.n + 1 }, ?_, ?_⟩, empty := ⟨b5, ⟨k5, fun _ => none, 0, 0⟩, ?_, rfl⟩ }
  · rw [f5, if_neg (by omega), if_neg (by omega), f4, if_neg (by omega), if_neg (by omega), f3, if_neg (by omega), if_neg (by omega), f2, if_pos (by omega)]
  · rw [f5, if_neg (by omega), if_neg (by omega), f4, if_neg (by omega), if_neg (by omega), f3, if_pos (by omega)]
  · rw [f5, if_neg (by omega), if_neg (by omega), f4, if_pos (by omega)]
  · rw [f5, if_pos (by omega)]
  · rw [f5, if_neg (by omega), if_pos rfl]
    obtain ⟨h1, h2, h3, h4, h5, h6⟩ := hroot
    rw [Option.some.injEq, Nd.mk.injEq]
    exact ⟨h1, h2, h3, rfl, h4, h5, h6⟩
  · show d4.sz + 1 = 4
    rw [hd4, hd3, hd2, hd]
  · exact B5.full j
  · rw [f5, if_neg (by omega), if_pos rfl]
    obtain ⟨h1, h2, h3, h4, h5, h6⟩ := hroot
    rw [Option.some.injEq, Nd.mk.injEq]
    exact ⟨h1, h2, h3, rfl, h4, h5, h6⟩
  · show K.putM d4.M (nm 100) ((5 : Nat) : Int) = _
    rw [hd4, hd3, hd2, hd]
    rfl
  · rw [f5, if_pos (by omega)]
set_option maxRecDepth 100000 in
set_option maxHeartbeats 8000000 in
theorem begun_calls (w : World) (R : Hp) (h : Sat w R) :
    Calls Tryz.prog 9 #[] w fun e w' => (∃ fb mb tb hm bp F, e = .returned (.tuple #[.agg #[pp fb, pp bp, pp tb], .bool true]) ∧ Begun F ∧ Sat w' (fsHp fb mb F * (tabHp tb fb bp hm [] 0 * (Spill.poolX bp 40 3 4 0 0 0 0 * R)))) ∧ Ran w w' := by
  have S0 := h.alloc (woO (.pointer none) (.pointer none) (.pointer none))
  have HN := Lib.hid (New_calls 8 60 (by omega) (by omega) (by omega) (by omega) _ _ S0)
  have R0 := Lib.hid (Ran.new (Below.refl 0 w) (woO (.pointer none) (.pointer none) (.pointer none)))
  clear h S0
  go_enter Tryz.func9, Tryz.ntmps9
  go_wp2_with fail
  refine HN.out.mono ?_
  rintro e w1 ⟨⟨fb, mb, b, kb, rfl, S1⟩, R1⟩
  have R1 := Lib.hid (Below.trans R0.out R1)
  have HP := Lib.hid (Spill.xnew 40 3 4 w1 _ S1 (by omega) (by omega) (by omega) (by omega))
  clear S1 R0 HN
  go_wp2_with fail
  refine HP.out.mono ?_
  rintro e w2 ⟨bp, rfl, S2, R2⟩
  have R2 := Lib.hid (Below.trans R1.out R2)
  have HM := Lib.hid (Make_calls fb mb (bF1 b kb) (rootN b kb) (bd1 kb) 97 2 xyz 2 (.inl rfl) (begun_facts b kb 0 0 0 0 0).1 w2 _ (S2.perm (show _ = fsHp fb mb (bF1 b kb) * (pts w.heap.size (woO (.pointer none) (.pointer none) (.pointer none)) * (Spill.poolX bp 40 3 4 0 0 0 0 * R)) by ac_rfl)))
  clear S2 R1 HP
  go_wp2_with fail
  refine HM.out.mono ?_
  rintro e w3 ⟨⟨rfl, b2, S3⟩, R3⟩
  have R3 := Lib.hid (Below.trans R2.out R3)
  have HM2 := Lib.hid (Make_calls fb mb (bF2 b kb b2) (bx2 b kb) (bd2 kb) 98 3 ⟨#[]⟩ 2 (.inl rfl) (begun_facts b kb b2 0 0 0 0).2.1 w3 _ S3)
  clear S3 R2 HM
  go_wp2_with fail
  refine HM2.out.mono ?_
  rintro e w4 ⟨⟨rfl, b3, S4⟩, R4⟩
  have R4 := Lib.hid (Below.trans R3.out R4)
  have HM3 := Lib.hid (Make_calls fb mb (bF3 b kb b2 b3) (bx3 b kb) (bd3 kb) 108 4 (nm 97) 3 (.inr rfl) (begun_facts b kb b2 b3 0 0 0).2.2.1 w4 _ S4)
  clear S4 R3 HM2
  go_wp2_with fail
  refine HM3.out.mono ?_
  rintro e w5 ⟨⟨rfl, b4, S5⟩, R5⟩
  have R5 := Lib.hid (Below.trans R4.out R5)
  have HM4 := Lib.hid (MakeD_calls fb mb (bF4 b kb b2 b3 b4) (bx4 b kb) (bd4 kb) 100 5 (begun_facts b kb b2 b3 b4 0 0).2.2.2.1 w5 _ S5)
  clear S5 R4 HM3
  go_wp2_with fail
  refine HM4.out.mono ?_
  rintro e w6 ⟨⟨rfl, b5, k5, S6⟩, R6⟩
  have R6 := Lib.hid (Below.trans R5.out R6)
  have HB := Lib.hid (begun_facts b kb b2 b3 b4 b5 k5).2.2.2.2
  obtain ⟨F, hF⟩ : ∃ F, F = bF5 b kb b2 b3 b4 b5 k5 := ⟨_, rfl⟩
  have S6 : Sat w6 (fsHp fb mb F * (pts w.heap.size (woO (.pointer none) (.pointer none) (.pointer none)) * (Spill.poolX bp 40 3 4 0 0 0 0 * R))) := by rw [hF]; exact S6
  have HB : Hid (Begun F) := Lib.hid (by rw [hF]; exact HB.out)
  have HN2 := Lib.hid (HNew_calls fb bp w6 _ S6)
  clear S6 R5 HM4 hF
  go_wp2_with fail
  refine HN2.out.mono ?_
  rintro e w7 ⟨⟨tb, hm, rfl, S7⟩, R7⟩
  have R7 := Lib.hid (Below.trans R6.out R7)
  have S8 := S7.perm (show _ = pts w.heap.size (woO (.pointer none) (.pointer none) (.pointer none)) * (fsHp fb mb F * (tabHp tb fb bp hm [] 0 * (Spill.poolX bp 40 3 4 0 0 0 0 * R))) by ac_rfl)
  obtain ⟨z0, z1, z2⟩ := wo_cells S8
  have f0 : ∀ i, w7.frozen? ⟨w.heap.size, i, none⟩ = false := fun i => free_at S8.get i
  have S9 := ((S8.set (i := 0) (pp fb)).set (i := 1) (pp bp)).set (i := 2) (pp tb)
  obtain ⟨r0, r1, r2⟩ := wo_cells (x := pp fb) (y := pp bp) (z := pp tb) S9
  have S9 := Lib.hid S9.right
  clear S7 S8 R6 HN2
  go_wp2_with fail
  refine bodyPost_ret (v := .tuple #[.agg #[pp fb, pp bp, pp tb], .bool true]) (by simp [results, Tryz.results9, go_sem, r0, r1, r2]) rfl ?_
  exact ⟨⟨fb, mb, tb, hm, bp, F, rfl, HB.out, S9.out⟩, Ran.set (Ran.set (Ran.set R7.out _ _) _ _) _ _⟩
end Go.Proofs.YtljlpkeddbfpaaaGreatDoor.Hd

