/- Make of a file or a link in the root walked. -/
import Derived.Test.YtljlpkeddbfpaaaGreatDoorHdN
namespace Go.Proofs.YtljlpkeddbfpaaaGreatDoor.Hd
open Go.RowKit Go.Maps Go.Proofs.YtljlpkeddbfpaaaGreatDoor Go.Proofs.YtljlpkeddbfpaaaGreatDoor.Hp
set_option linter.unusedVariables false
attribute [local go_sem] Oper.semAt_some

theorem find_findA : ∀ (L : NL) (k : Int), find L k = findA L k
  | [], _ => rfl
  | p :: L, k => by unfold find findA; rw [find_findA L k]
structure FreeN (L : NL) (g : Nat) : Prop where
  pos : 1 ≤ g
  le : g ≤ L.length + 1
  none : find L (g : Int) = none
  least : ∀ j : Nat, 1 ≤ j → j < g → (find L (j : Int)).isSome = true
theorem freeN (L : NL) : ∃ g, FreeN L g := by
  obtain ⟨g, h1, h2, h3, h4⟩ := free_number L
  exact ⟨g, h1, h2, by rw [find_findA]; exact h3, fun j a b => by rw [find_findA]; exact h4 j a b⟩
theorem find_cons (L : NL) (k j : Int) (x : Nd) : find ((k, x) :: L) j = if j = k then some x else find L j := by
  show (if k = j then some x else find L j) = _
  by_cases e : j = k
  · subst e; simp
  · rw [if_neg e, if_neg (fun h => e h.symm)]
theorem blk_cons (L : NL) (k : Int) (x : Nd) : blk ((k, x) :: L) = putP (blk L) k x.b := by
  funext j
  unfold blk putP
  rw [find_cons]
  by_cases e : j = k
  · rw [if_pos e, if_pos e]; rfl
  · rw [if_neg e, if_neg e]
/-- A tree with one node more, named in the root. -/
def madeF (F : Fs) (x : Nd) (kd : Kd) (c : UInt8) (g : Nat) (y : Nd) : Fs :=
  { F with L := ((g : Int), y) :: upd F.L 1 { x with kids := some { kd with M := K.putM kd.M (nm c) (g : Int), sz := kd.sz + 1, n := kd.n + 1 } }, used := F.used + (y.text.size : Int), n := F.n + 1 }
structure MakeOk (F : Fs) (x : Nd) (kd : Kd) (c : UInt8) (g : Nat) (t : ByteArray) : Prop where
  simple : Simple c
  root : find F.L 1 = some x
  kind : x.kind = 1
  kids : x.kids = some kd
  new : kd.M (nm c) = none
  kn : kd.n ≤ 1000000
  free : FreeN F.L g
  n : F.n ≤ 1000000
  most : (F.L.length : Int) < F.most
  small : t.size ≤ 4096
  room : (t.size : Int) ≤ F.room - F.used
  used : 0 ≤ F.used ∧ F.used ≤ 1000000000
  rm : 0 ≤ F.room ∧ F.room ≤ 1000000000
/-- What the node's making leaves. -/
theorem made_sat {fb mb nb : Nat} {F : Fs} {x : Nd} {kd : Kd} {c : UInt8} {g : Nat} {t : ByteArray} {y : Nd} (hb : y.b = nb) (ht : y.text = t) (ok : MakeOk F x kd c g t) {X : Hp} (hX2 : ∀ x', nds (upd F.L 1 x') = ndHp x' * X) {w : World} {R : Hp}
    (h : Sat w (pts fb (fsO { F with used := F.used + (t.size : Int) } mb) * (K.smap kd.b (K.putM kd.M (nm c) (g : Int)) (kd.sz + 1) (kd.n + 1) * (pmap mb (putP (blk F.L) (g : Int) nb) (F.L.length + 1) (F.n + 1) * (ndHp y * (pts x.b (ndO x) * (X * R))))))) :
    Sat w (fsHp fb mb (madeF F x kd c g y) * R) := by
  refine h.perm ?_
  unfold fsHp madeF
  dsimp only
  rw [blk_cons, hb, blk_upd F.L 1 x { x with kids := some { kd with M := K.putM kd.M (nm c) (g : Int), sz := kd.sz + 1, n := kd.n + 1 } } ok.root rfl, List.length_cons, upd_len]
  show _ = pts fb (fsO { F with used := F.used + (y.text.size : Int) } mb) * (pmap mb (putP (blk F.L) (g : Int) nb) (F.L.length + 1) (F.n + 1) * (ndHp y * nds (upd F.L 1 { x with kids := some { kd with M := K.putM kd.M (nm c) (g : Int), sz := kd.sz + 1, n := kd.n + 1 } }))) * R
  rw [hX2, ht]
  have e : ndHp { x with kids := some { kd with M := K.putM kd.M (nm c) (g : Int), sz := kd.sz + 1, n := kd.n + 1 } } = pts x.b (ndO x) * K.smap kd.b (K.putM kd.M (nm c) (g : Int)) (kd.sz + 1) (kd.n + 1) := by
    unfold ndHp ndO
    dsimp only
    rw [ok.kids]
    rfl
  rw [e]
  ac_rfl
set_option maxRecDepth 100000 in
set_option maxHeartbeats 8000000 in
theorem Make_calls (fb mb : Nat) (F : Fs) (x : Nd) (kd : Kd) (c : UInt8) (g : Nat) (t : ByteArray) (k : Int) (hk : k = 2 ∨ k = 3) (ok : MakeOk F x kd c g t) (w : World) (R : Hp) (h : Sat w (fsHp fb mb F * R)) :
    Calls Tryz.prog 35 #[pp fb, .int .i64 1, .string (nm c), .int .i64 k, .string t] w fun e w' => (e = .returned (.tuple #[.int .i64 (g : Int), .int .i64 0]) ∧ ∃ nb, Sat w' (fsHp fb mb (madeF F x kd c g ⟨nb, k, t, none, 0, 1, 0⟩) * R)) ∧ Ran w w' := by
  have HP := Lib.hid (place_calls fb mb F x kd c k ok.simple ok.root ok.kind ok.kids ok.new w R h)
  have H0 := Lib.hid h
  have Ok := Lib.hid ok
  have hts : (t.size : Int) ≤ 4096 := by have := ok.small; omega
  have hk1 : (1 : Int) ≤ k := by omega
  have hk3 : k ≤ 3 := by omega
  have hkn : ¬ k = 1 := by omega
  have hkb : (k == 1) = false := by simp [hkn]
  clear h ok
  go_enter Tryz.func35, Tryz.ntmps35
  go_wp2_with fail
  refine HP.out.mono ?_
  rintro e w1 ⟨rfl, hB⟩
  have S1 := (H0.out.below hB).drew
  have R1 := Lib.hid (Ran.drewN (below_ran hB) 1)
  obtain ⟨c0, c1, c2, c3⟩ := fs_cells S1
  have hln := pmap_len Tryz.underlying101 (S1.perm (show _ = pmap mb (blk F.L) F.L.length F.n * (pts fb (fsO F mb) * nds F.L * R) by unfold fsHp; ac_rfl))
  obtain ⟨o1, o2, o3, o4, o5, o6⟩ := And.intro Ok.out.most (And.intro Ok.out.room (And.intro Ok.out.used.1 (And.intro Ok.out.used.2 (And.intro Ok.out.rm.1 Ok.out.rm.2))))
  have hwr : IntKind.i64.wrap (F.room - F.used) = F.room - F.used := IntWalk.i64_in _ (by omega)
  have hle1 : ¬ F.most ≤ (F.L.length : Int) := by omega
  have hle2 : decide (F.most ≤ (F.L.length : Int)) = false := decide_eq_false hle1
  have hle3 : ¬ F.room - F.used < (t.size : Int) := by omega
  have hle4 : decide (F.room - F.used < (t.size : Int)) = false := decide_eq_false hle3
  have S1 := Lib.hid S1
  clear hB HP
  go_wp2_with fail
  refine Go.Proofs.YtljlpkeddbfpaaaGreatDoor.region_plan (S := (fun w' => w'.cell? ⟨fb, 0, none⟩ = some (.int .i64 F.most) ∧ w'.cell? ⟨fb, 1, none⟩ = some (.int .i64 F.room) ∧ w'.cell? ⟨fb, 2, none⟩ = some (.int .i64 F.used) ∧ w'.cell? ⟨fb, 3, none⟩ = some (.map (some mb)) ∧ ∀ ty, (Builtin.len_ #[101] ty #[.map (some mb)]).run Tryz.prog w' = .ok (.int .i64 (F.L.length : Int)) w')) [(0, true), (1, true), (2, true), (3, true), (4, true), (5, true), (6, true), (7, true), (8, true), (9, true), (10, true), (11, true), (12, true), (13, true), (14, true), (15, true), (16, true), (17, true), (18, true), (19, true), (20, true), (21, true), (22, true), (23, true), (24, true)] (by kernel_rfl) (by kernel_rfl) (by kernel_rfl) ?_ ?_
  · ((try dsimp only); (first | done | (exact ⟨c0, c1, c2, c3, hln⟩)))
  simp only [Go.Proofs.YtljlpkeddbfpaaaGreatDoor.planOps, List.map_cons, List.map_nil, List.getElem?_toArray, List.getElem?_cons_zero, List.getElem?_cons_succ]
  repeat (first
    | ((refine Go.Proofs.YtljlpkeddbfpaaaGreatDoor.plan_yes (v := ?_) (by rfl) ?_ ?_); rotate_left; (focus (intro w hSw; (try dsimp only at hSw); go_simp; try (with_reducible rfl))); (try simp only [Act.put, List.setIfInBounds_toArray, List.set_cons_zero, List.set_cons_succ]))
    | ((refine Go.Proofs.YtljlpkeddbfpaaaGreatDoor.plan_no (by rfl) ?_); (try simp only [Act.put, List.setIfInBounds_toArray, List.set_cons_zero, List.set_cons_succ]))
    | ((refine Go.Proofs.YtljlpkeddbfpaaaGreatDoor.plan_step (fun K hK => ?_)); (first | (fail) | (go_simp; (fail); (try go_wp2_with fail)) | go_simp); (refine hK.out _ _ ?_ (fun hHeld => ?_)); (focus ((try dsimp only); (first | done | (exact ⟨c0, c1, c2, c3, hln⟩)))); clear hK K; (try simp only [Act.put, List.setIfInBounds_toArray, List.set_cons_zero, List.set_cons_succ])))
  refine Go.Proofs.YtljlpkeddbfpaaaGreatDoor.plan_done ?_
  obtain ⟨w2, hw2⟩ : ∃ w2, w2 = w1.drew := ⟨_, rfl⟩
  have S1 := S1.out
  rw [← hw2] at S1 c0 c1 c2 c3 ⊢
  have R1 : Hid (Ran w w2) := Lib.hid (by rw [hw2]; exact R1.out)
  have HLk := Lib.hid (fun (k : Int) (hk : I64 k) => fs_look S1 k hk)
  have hLn : F.L.length ≤ 1000000 := Nat.le_trans (pmap_le (S1.perm (show _ = pmap mb (blk F.L) F.L.length F.n * (pts fb (fsO F mb) * nds F.L * R) by unfold fsHp; ac_rfl))) Ok.out.n
  have hg1 := Ok.out.free.pos
  have hg2 := Ok.out.free.le
  have hgI : (g : Int) ≤ 1000001 := by omega
  -- what comes
  obtain ⟨X, hX1, hX2⟩ := focus F.L 1 x Ok.out.root
  have hgn1 : (g : Int) ≠ 1 := fun e => by
    have := Ok.out.free.none
    rw [e, Ok.out.root] at this
    cases this
  have T1 := (S1.alloc (ndO ⟨w2.heap.size, k, t, none, 0, 1, 0⟩)).perm (show _ = pmap mb (blk F.L) F.L.length F.n * (pts w2.heap.size (ndO ⟨w2.heap.size, k, t, none, 0, 1, 0⟩) * (pts fb (fsO F mb) * (ndHp x * (X * R)))) by unfold fsHp; rw [hX1]; ac_rfl)
  obtain ⟨w3, hrun1, T2, R2⟩ := pmap_put Tryz.underlying101 T1 (by have := Ok.out.n; unfold maxLen; omega) (g : Int) (by unfold I64; omega) (by unfold blk; rw [Ok.out.free.none]; rfl) w2.heap.size
  have cm1 : (w2.alloc (ndO ⟨w2.heap.size, k, t, none, 0, 1, 0⟩)).cell? ⟨fb, 3, none⟩ = some (.map (some mb)) := by
    have := (T1.perm (show _ = pts fb (fsO F mb) * (pmap mb (blk F.L) F.L.length F.n * (pts w2.heap.size (ndO ⟨w2.heap.size, k, t, none, 0, 1, 0⟩) * (ndHp x * (X * R)))) by ac_rfl)).get
    rw [cell_at this]; rfl
  have T2f := T2.perm (show _ = pts fb (fsO F mb) * (pmap mb (putP (blk F.L) (g : Int) w2.heap.size) (F.L.length + 1) (F.n + 1) * (pts w2.heap.size (ndO ⟨w2.heap.size, k, t, none, 0, 1, 0⟩) * (ndHp x * (X * R)))) by ac_rfl)
  have cm2 : w3.cell? ⟨fb, 3, none⟩ = some (.map (some mb)) := by rw [cell_at T2f.get]; rfl
  have hl2 := pmap_look Tryz.underlying101 zeroNode T2 1 (by unfold I64; omega)
  rw [show putP (blk F.L) (g : Int) w2.heap.size 1 = some x.b by unfold putP; rw [if_neg (fun e => hgn1 e.symm)]; unfold blk; rw [Ok.out.root]; rfl] at hl2
  unfold pv at hl2
  have T2x := T2.perm (show _ = pts x.b (ndO x) * (kidsHp x.kids * (pts fb (fsO F mb) * (pmap mb (putP (blk F.L) (g : Int) w2.heap.size) (F.L.length + 1) (F.n + 1) * (pts w2.heap.size (ndO ⟨w2.heap.size, k, t, none, 0, 1, 0⟩) * (X * R))))) by unfold ndHp; ac_rfl)
  obtain ⟨-, -, d2, -⟩ := nd_cells T2x
  rw [Ok.out.kids] at d2
  unfold kv at d2
  dsimp only at d2
  have T2k := T2x.perm (show _ = K.smap kd.b kd.M kd.sz kd.n * (pts x.b (ndO x) * (pts fb (fsO F mb) * (pmap mb (putP (blk F.L) (g : Int) w2.heap.size) (F.L.length + 1) (F.n + 1) * (pts w2.heap.size (ndO ⟨w2.heap.size, k, t, none, 0, 1, 0⟩) * (X * R))))) by rw [Ok.out.kids]; show pts x.b (ndO x) * (K.smap kd.b kd.M kd.sz kd.n * _) = _; ac_rfl)
  obtain ⟨w4, hrun2, T3, R3⟩ := K.smap_put T2k (by have := Ok.out.kn; unfold maxLen; omega) (nm c) (by show 1 ≤ 9223372036854775807; omega) Ok.out.new (g : Int) (by unfold I64; omega)
  have T3f := T3.perm (show _ = pts fb (fsO F mb) * (K.smap kd.b (K.putM kd.M (nm c) (g : Int)) (kd.sz + 1) (kd.n + 1) * (pts x.b (ndO x) * (pmap mb (putP (blk F.L) (g : Int) w2.heap.size) (F.L.length + 1) (F.n + 1) * (pts w2.heap.size (ndO ⟨w2.heap.size, k, t, none, 0, 1, 0⟩) * (X * R))))) by ac_rfl)
  have cu : w4.cell? ⟨fb, 2, none⟩ = some (.int .i64 F.used) := by rw [cell_at T3f.get]; rfl
  have f4 : ∀ i, w4.frozen? ⟨fb, i, none⟩ = false := fun i => free_at T3f.get i
  have T4 := T3f.set (i := 2) (.int .i64 (F.used + (t.size : Int)))
  have T5 := Lib.hid (made_sat (nb := w2.heap.size) (y := ⟨w2.heap.size, k, t, none, 0, 1, 0⟩) rfl rfl Ok.out hX2 (T4.perm (show pts fb (fsO { F with used := F.used + (t.size : Int) } mb) * _ = pts fb (fsO { F with used := F.used + (t.size : Int) } mb) * (K.smap kd.b (K.putM kd.M (nm c) (g : Int)) (kd.sz + 1) (kd.n + 1) * (pmap mb (putP (blk F.L) (g : Int) w2.heap.size) (F.L.length + 1) (F.n + 1) * (ndHp ⟨w2.heap.size, k, t, none, 0, 1, 0⟩ * (pts x.b (ndO x) * (X * R))))) by unfold ndHp kidsHp; dsimp only; rw [sep_emp]; ac_rfl)))
  have R5 := Lib.hid (Ran.set (Below.trans (Below.trans (Ran.new R1.out (ndO ⟨w2.heap.size, k, t, none, 0, 1, 0⟩)) R2) R3) ⟨fb, 2, none⟩ (.int .i64 (F.used + (t.size : Int))))
  unfold ndO kv at hrun1 cm1
  dsimp only at hrun1 cm1
  have hg1I : (1 : Int) ≤ (g : Int) := by omega
  clear S1 T1 T2 T2f T2x T2k T3 T3f T4 R2 R3 hX1 hX2 hw2 hln
  go_wp2_with fail
  go_loopg [15] (g - 1) (fun (gk : Nat) (v15 : Value) (wr : World) => ∃ i : Nat, v15 = .int .i64 (i : Int) ∧ 1 ≤ i ∧ i + gk = g ∧ w2 = wr)
  case atStart => exact ⟨1, rfl, Nat.le_refl _, by omega, rfl⟩
  case round =>
    obtain ⟨i, rfl, hi1, hig, rfl⟩ := hrel
    by_cases hlt : i < g
    · have hs := Ok.out.free.least i hi1 hlt
      obtain ⟨z, hz⟩ := Option.isSome_iff_exists.1 hs
      have hl := HLk.out (i : Int) (by unfold I64; omega)
      rw [show blk F.L (i : Int) = some z.b by unfold blk; rw [hz]; rfl] at hl
      unfold pv at hl
      have hiI : (i : Int) ≤ 1000001 := by omega
      have hi0 : (0 : Int) ≤ (i : Int) := by omega
      clear hs hz hrun1 hrun2 cm1 cm2 hl2 d2 cu f4
      go_wp2_with fail
      go_roundg (gk - 1)
      case rel => exact ⟨i + 1, by simp, by omega, by omega, rfl⟩
      case measure => omega
    · have hie : i = g := by omega
      subst hie
      have hl := HLk.out (i : Int) (by unfold I64; omega)
      rw [show blk F.L (i : Int) = none by unfold blk; rw [Ok.out.free.none]; rfl] at hl
      unfold pv at hl
      clear hlt
      go_wp2_with fail
      go_ret2
      exact ⟨⟨rfl, w2.heap.size, T5.out⟩, R5.out⟩
end Go.Proofs.YtljlpkeddbfpaaaGreatDoor.Hd
