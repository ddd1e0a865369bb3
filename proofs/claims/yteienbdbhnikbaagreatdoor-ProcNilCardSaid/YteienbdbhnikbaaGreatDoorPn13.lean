/- HandlesPlays, part 13 of 18: the texts NeA NeB PmB PmC PmD PrK PrL PrM PrO PrP PrQ PrR PrS HdQ HdR, joined by a program. -/
import Derived.Test.YteienbdbhnikbaaGreatDoorPn10
import Derived.Test.YteienbdbhnikbaaGreatDoorPn11
import Derived.Test.YteienbdbhnikbaaGreatDoorPn12
import Derived.Test.YteienbdbhnikbaaGreatDoorPn4
namespace Go.Proofs.YteienbdbhnikbaaGreatDoor.Hd
open Go.RowKit Go.Maps Go.Proofs.YteienbdbhnikbaaGreatDoor Go.Proofs.YteienbdbhnikbaaGreatDoor.Hp
set_option linter.unusedVariables false
attribute [local go_sem] Oper.semAt_some

theorem blk_gone {L : NL} (h : (L.map Prod.fst).Nodup) (k : Int) : blk (delA L k) = delP (blk L) k := by
  funext j
  show (find (delA L k) j).map Nd.b = if j = k then none else (find L j).map Nd.b
  rw [find_findA, findA_del L k j h, find_findA]
  by_cases e : j = k
  · rw [if_pos e, if_pos e]; rfl
  · rw [if_neg e, if_neg e]
set_option maxRecDepth 100000 in
set_option maxHeartbeats 8000000 in
theorem sweepN_calls (fb mb : Nat) (F : Fs) (k : Int) (x : Nd) (hk : I64 k) (hx : find F.L k = some x) (hnd : (F.L.map Prod.fst).Nodup) (hu : 0 ≤ F.used ∧ F.used ≤ 1000000000) (ht : x.text.size ≤ 1000000) (w : World) (R : Hp) (h : Sat w (fsHp fb mb F * R)) :
    Calls Tryz.prog 73 #[pp fb, .int .i64 k] w fun e w' => (e = .returned (.tuple #[]) ∧ Sat w' (fsHp fb mb (sweepG F k x) * R)) ∧ Ran w w' := by
  obtain ⟨c0, c1, c2, c3⟩ := fs_cells h
  have hl := fs_look h k hk
  rw [show blk F.L k = some x.b by unfold blk; rw [hx]; rfl] at hl
  unfold pv at hl
  obtain ⟨d0, d1, d2, d3, d4, d5⟩ := fs_at h hx
  unfold sweepG
  by_cases hk1 : k = 1
  · subst hk1
    rw [if_neg (fun e => e.1 rfl)]
    have h := Lib.hid h
    clear hx hnd hu ht
    go_enter Tryz.func73, Tryz.ntmps73
    go_wp2_with fail
    go_end0
    exact ⟨⟨rfl, h.out⟩, Below.refl 0 _⟩
  have hkb : (k == 1) = false := by simp [hk1]
  by_cases hn0 : x.names = 0
  case neg =>
    rw [if_neg (fun e => hn0 e.2.1)]
    have hnb : (x.names == 0) = false := by simp [hn0]
    have h := Lib.hid h
    clear hx hnd hu ht
    go_enter Tryz.func73, Tryz.ntmps73
    go_wp2_with fail
    go_end0
    exact ⟨⟨rfl, h.out⟩, Below.refl 0 _⟩
  by_cases hh0 : x.holds = 0
  case neg =>
    rw [if_neg (fun e => hh0 e.2.2)]
    have hnb : (x.holds == 0) = false := by simp [hh0]
    rw [hn0] at d4
    have h := Lib.hid h
    clear hx hnd hu ht hn0
    go_enter Tryz.func73, Tryz.ntmps73
    go_wp2_with fail
    go_end0
    exact ⟨⟨rfl, h.out⟩, Below.refl 0 _⟩
  rw [if_pos ⟨hk1, hn0, hh0⟩]
  rw [hn0] at d4
  rw [hh0] at d5
  obtain ⟨X, e1, -, e3⟩ := focusA ndHp F.L k x (by rw [← find_findA]; exact hx)
  have hlen := delA_len F.L k (by rw [← find_findA, hx]; rfl)
  obtain ⟨u, hue⟩ : ∃ u, u = F.used - (x.text.size : Int) := ⟨_, rfl⟩
  have Sf := h.perm (show _ = pts fb (fsO F mb) * (pmap mb (blk F.L) F.L.length F.n * nds F.L * R) by unfold fsHp; ac_rfl)
  have f0 : ∀ i, w.frozen? ⟨fb, i, none⟩ = false := fun i => free_at Sf.get i
  have S2 := ((used_back (u := u) h).drew).perm (show _ = pts fb (fsO { F with used := u } mb) * (pmap mb (blk F.L) ((delA F.L k).length + 1) F.n * (ndHp x * (X * R))) by unfold fsHp nds; dsimp only; rw [e1, ← hlen]; ac_rfl)
  obtain ⟨wd, hwd⟩ : ∃ wd, wd = (w.setCell ⟨fb, 2, none⟩ (.int .i64 u)).drew := ⟨_, rfl⟩
  rw [← hwd] at S2
  have c3' : wd.cell? ⟨fb, 3, none⟩ = some (.map (some mb)) := by rw [cell_at S2.get]; rfl
  obtain ⟨w2, hrun, S3, R3⟩ := pmap_del Tryz.underlying113 (S2.perm (show _ = pmap mb (blk F.L) ((delA F.L k).length + 1) F.n * (pts fb (fsO { F with used := u } mb) * (ndHp x * (X * R))) by ac_rfl)) k hk (by unfold blk; rw [hx]; rfl) 0
  have S4 : Sat w2 (fsHp fb mb (goneF F k x) * R) := by
    refine (S3.perm (show _ = ndHp x * (fsHp fb mb (goneF F k x) * R) from ?_)).right
    unfold fsHp goneF nds
    dsimp only
    rw [blk_gone hnd, e3, ← hue]
    show _ = ndHp x * (pts fb (fsO { F with used := u } mb) * _ * R)
    ac_rfl
  have S4 := Lib.hid S4
  have R4 := Lib.hid (Below.trans (show Ran w wd by rw [hwd]; exact Ran.drewN (Ran.set (Below.refl 0 w) ⟨fb, 2, none⟩ (.int .i64 u)) 1) R3)
  obtain ⟨hu1, hu2⟩ := hu
  have hts : (x.text.size : Int) ≤ 1000000 := by omega
  have hwr : IntKind.i64.wrap (F.used - (x.text.size : Int)) = F.used - (x.text.size : Int) := IntWalk.i64_in _ (by omega)
  clear h hx hnd hn0 hh0 Sf S2 S3 R3 e1 e3 hlen ht
  go_enter Tryz.func73, Tryz.ntmps73
  go_upto_region 2 with fail
  go_still_tail 12, (by kernel_rfl)
  go_upto_region 3 with fail
  rw [← hue, ← hwd]
  clear hwd
  go_wp2_with fail
  go_end0
  exact ⟨⟨rfl, S4.out⟩, R4.out⟩
set_option maxRecDepth 100000 in
set_option maxHeartbeats 8000000 in
theorem DropN_calls (fb mb : Nat) (F : Fs) (k : Int) (hk : I64 k) (hs : FsOk F) (hnd : (F.L.map Prod.fst).Nodup) (hu : 0 ≤ F.used ∧ F.used ≤ 1000000000) (w : World) (R : Hp) (h : Sat w (fsHp fb mb F * R)) :
    Calls Tryz.prog 48 #[pp fb, .int .i64 k] w fun e w' => (e = .returned (.int .i64 (dropE F k)) ∧ Sat w' (fsHp fb mb (dropG F k) * R)) ∧ Ran w w' := by
  have HS := Stat_calls fb mb F k hk (hs.small k) w R h
  unfold statE statV at HS
  unfold dropE dropG
  cases hx : find F.L k with
  | none =>
    rw [hx] at HS
    have HS := Lib.hid HS
    have H0 := Lib.hid h
    clear h hx hs hnd hu
    dsimp only
    go_enter Tryz.func48, Tryz.ntmps48
    go_wp2_with fail
    refine HS.out.mono ?_
    rintro e w1 ⟨rfl, hB⟩
    have S1 := Lib.hid (H0.out.below hB)
    have R1 := Lib.hid (below_ran hB)
    clear hB HS
    go_wp2_with fail
    go_ret
    exact ⟨⟨rfl, S1.out.old _⟩, Ran.new R1.out _⟩
  | some x =>
  rw [hx] at HS
  have HS := Lib.hid HS
  have H0 := Lib.hid h
  have hh := (hs k x hx).holds
  have ht := (hs k x hx).text
  obtain ⟨hh1, hh2⟩ := hh
  have Hx := Lib.hid hx
  dsimp only
  by_cases h0 : x.holds = 0
  · rw [if_pos h0, if_pos h0]
    have h0b : (x.holds == 0) = true := by simp [h0]
    clear h hs hx hnd hu
    go_enter Tryz.func48, Tryz.ntmps48
    go_wp2_with fail
    refine HS.out.mono ?_
    rintro e w1 ⟨rfl, hB⟩
    have S1 := (H0.out.below hB).alloc (infoO x.kind (sizeN x) x.names x.holds)
    have R1 := Lib.hid (Ran.new (below_ran hB) (infoO x.kind (sizeN x) x.names x.holds))
    obtain ⟨r0, r1, r2, r3⟩ := info_cells S1
    rw [h0] at r3 S1 r0 r1 r2
    have S1 := Lib.hid S1.right
    rw [h0] at R1 ⊢
    clear hB HS h0 h0b
    go_wp2_with fail
    go_ret
    exact ⟨⟨rfl, S1.out⟩, R1.out⟩
  · rw [if_neg h0, if_neg h0]
    have h0b : (x.holds == 0) = false := by simp [h0]
    have Hnd := Lib.hid hnd
    have Hu := Lib.hid hu
    have Ht := Lib.hid ht
    clear h hs hx hnd hu ht
    go_enter Tryz.func48, Tryz.ntmps48
    go_wp2_with fail
    refine HS.out.mono ?_
    rintro e w1 ⟨rfl, hB⟩
    have S0 := (H0.out.below hB).alloc (infoO x.kind (sizeN x) x.names x.holds)
    have R1 := Lib.hid (Ran.new (below_ran hB) (infoO x.kind (sizeN x) x.names x.holds))
    obtain ⟨r0, r1, r2, r3⟩ := info_cells S0
    have S1 := S0.right
    obtain ⟨c0, c1, c2, c3⟩ := fs_cells S1
    have hl := fs_look S1 k hk
    rw [show blk F.L k = some x.b by unfold blk; rw [Hx.out]; rfl] at hl
    unfold pv at hl
    obtain ⟨X, S2, back⟩ := fs_node S1 Hx.out
    obtain ⟨d0, d1, d2, d3, d4, d5⟩ := nd_cells S2
    have f0 : ∀ i, (w1.alloc (infoO x.kind (sizeN x) x.names x.holds)).frozen? ⟨x.b, i, none⟩ = false := fun i => free_at S2.get i
    have S3 := back _ { x with holds := x.holds - 1 } (F.put k { x with holds := x.holds - 1 }) R rfl rfl rfl (S2.set (i := 5) (.int .i64 (x.holds - 1)))
    have HW := Lib.hid (sweepN_calls fb mb (F.put k { x with holds := x.holds - 1 }) k { x with holds := x.holds - 1 } hk (by show find (upd F.L k _) k = _; rw [find_upd F.L k k _ (by rw [Hx.out]; rfl), if_pos rfl]) (by show ((upd F.L k _).map Prod.fst).Nodup; rw [upd_updA, keys_upd]; exact Hnd.out) Hu.out Ht.out _ R S3)
    have R1 := Lib.hid (Ran.set R1.out ⟨x.b, 5, none⟩ (.int .i64 (x.holds - 1)))
    clear hB HS S1 S2 back S0 S3
    go_wp2_with fail
    refine HW.out.mono ?_
    rintro e w2 ⟨⟨rfl, S5⟩, R5⟩
    have S5 := Lib.hid S5
    have R5 := Lib.hid (Below.trans R1.out R5)
    go_wp2_with fail
    go_ret
    exact ⟨⟨rfl, S5.out⟩, R5.out⟩
set_option maxRecDepth 100000 in
set_option maxHeartbeats 4000000 in
theorem fgoneN_calls (xb fb mb : Nat) (F : Fs) (k : Int) (a : Nat) (m : Md) (hk : I64 k) (hs : FsOk F) (hnd : (F.L.map Prod.fst).Nodup) (hu : 0 ≤ F.used ∧ F.used ≤ 1000000000) (w : World) (R : Hp)
    (h : Sat w (fsHp fb mb F * (pts xb (flO fb k a m) * R))) :
    Calls Tryz.prog 183 #[pp xb] w fun e w' => (e = .returned (.tuple #[]) ∧ Sat w' (fsHp fb mb (dropG F k) * (pts xb (flO fb k a m) * R))) ∧ Ran w w' := by
  have HD := Lib.hid (DropN_calls fb mb F k hk hs hnd hu w.drew _ h.drew)
  obtain ⟨d0', d1', -⟩ := fl_cells h.right.drew
  clear h
  go_enter Tryz.func183, Tryz.ntmps183
  go_wp2_with fail
  refine region_plan (S := (fun w' => w'.cell? ⟨xb, 0, none⟩ = some (pp fb) ∧ w'.cell? ⟨xb, 1, none⟩ = some (.int .i64 k))) [(0, true), (1, true), (2, true), (3, true), (4, true), (5, true), (6, true), (7, true), (8, false)] (by kernel_rfl) (by kernel_rfl) (by kernel_rfl) ?_ ?_
  · ((try dsimp only); (first | done | (first | exact ⟨d0', d1'⟩ | exact K5)))
  simp only [planOps, List.map_cons, List.map_nil, List.getElem?_toArray, List.getElem?_cons_zero, List.getElem?_cons_succ]
  repeat (first
    | ((refine plan_yes (v := ?_) (by rfl) ?_ ?_); rotate_left; (focus (intro w hSw; (try dsimp only at hSw); go_simp; try (with_reducible rfl))); (try simp only [Act.put, List.setIfInBounds_toArray, List.set_cons_zero, List.set_cons_succ]))
    | ((refine plan_no (by rfl) ?_); (try simp only [Act.put, List.setIfInBounds_toArray, List.set_cons_zero, List.set_cons_succ]))
    | ((refine plan_step (fun K hK => ?_)); (first | (go_simp; ((go_at_call 48; refine HD.out.mono ?_; rintro e w5 ⟨⟨rfl, S5⟩, R5⟩; have K5 := (And.intro (fl_cells S5.right).1 (fl_cells S5.right).2.1))); (try go_wp2_with fail)) | go_simp); (refine hK.out _ _ ?_ (fun hHeld => ?_)); (focus ((try dsimp only); (first | done | (first | exact ⟨d0', d1'⟩ | exact K5)))); clear hK K; (try simp only [Act.put, List.setIfInBounds_toArray, List.set_cons_zero, List.set_cons_succ])))
  refine plan_done ?_
  have S5 := Lib.hid S5
  have R5 := Lib.hid (Below.trans (Ran.drewN (Below.refl 0 w) 1) R5)
  go_wp2_with fail
  go_end0
  exact ⟨⟨rfl, S5.out⟩, R5.out⟩
end Go.Proofs.YteienbdbhnikbaaGreatDoor.Hd

namespace Go.Proofs.YteienbdbhnikbaaGreatDoor.Hd
open Go.RowKit Go.Maps Go.Proofs.YteienbdbhnikbaaGreatDoor Go.Proofs.YteienbdbhnikbaaGreatDoor.Hp
set_option linter.unusedVariables false
attribute [local go_sem] Oper.semAt_some

/-- What Remove does. -/
inductive RemR (F : Fs) : Int → Fs → Prop
  | no (er : Int) : er ≠ 0 → er ≠ 43 → RemR F er F
  | ok (dir : Int) (x : Nd) (kd : Kd) (part : ByteArray) (n : Int) (y : Nd) : find F.L dir = some x → x.kids = some kd → kd.M part = some n → find F.L n = some y → (∀ t v, ¬ Ref F n t v) → RemR F 0 (sweepG (takenF F dir x kd part n y) n { y with names := y.names - 1, par := 0 })
end Go.Proofs.YteienbdbhnikbaaGreatDoor.Hd

namespace Go.Proofs.YteienbdbhnikbaaGreatDoor.Hd
open Go.RowKit Go.Maps Go.Proofs.YteienbdbhnikbaaGreatDoor Go.Proofs.YteienbdbhnikbaaGreatDoor.Hp
set_option linter.unusedVariables false

theorem zeros_size (n : Nat) : (zerosB n).size = n := by
  unfold zerosB
  show (Lib.repeatL [0] n).toArray.size = n
  rw [List.size_toArray]
  induction n with
  | zero => rfl
  | succ n ih => simpa [Lib.repeatL] using ih
theorem wr_size (t : ByteArray) (a : Nat) (d : ByteArray) : (wrB t a d).size = max t.size (a + d.size) := by
  unfold wrB
  rw [ByteArray.size_append, ByteArray.size_append, ByteArray.size_append, ByteArray.size_extract, ByteArray.size_extract, zeros_size]
  omega
theorem free_ex (L : HL) : ∃ g : Nat, Free L g := by
  obtain ⟨g, h1, h2, h3, h4⟩ := free_number L
  exact ⟨g, ⟨h1, h2, h3, h4⟩⟩
theorem tree_write {N : Nat} {F : Fs} (h : TreeG N F) {k : Int} {x : Nd} (hx : find F.L k = some x) (a : Nat) (d : ByteArray) :
    TreeG (N + 1) (writeP F k x a d).2 ∧ (∀ j, hf (writeP F k x a d).2 j = hf F j) ∧ Kp F (writeP F k x a d).2 ∧ ((writeP F k x a d).1 = 0 → a + d.size ≤ 4096) ∧ (writeP F k x a d).1 ≤ 21 := by
  unfold writeP
  by_cases h1 : 4096 < a ∨ 4096 - a < d.size
  · rw [if_pos h1]; exact ⟨h.more (Nat.le_succ _), fun _ => rfl, kp_refl F, fun e => (by cases e), (by show (21 : Int) ≤ 21; decide)⟩
  · rw [if_neg h1]
    by_cases h2 : d.size = 0
    · rw [if_pos h2]; exact ⟨h.more (Nat.le_succ _), fun _ => rfl, kp_refl F, fun _ => by omega, (by show (0 : Int) ≤ 21; decide)⟩
    · rw [if_neg h2]
      by_cases h3 : F.room - F.used < (moreB x.text a d : Int)
      · rw [if_pos h3]; exact ⟨h.more (Nat.le_succ _), fun _ => rfl, kp_refl F, fun e => (by cases e), (by show (15 : Int) ≤ 21; decide)⟩
      · rw [if_neg h3]
        obtain ⟨e1, e2, e3, e4⟩ := h.each k x hx
        have hr := h.room
        have hm : moreB x.text a d = (a + d.size) - x.text.size := rfl
        refine ⟨h.put hx { x with text := wrB x.text a d } _ rfl rfl rfl rfl ?_ ⟨e2, by show x.holds ≤ _; omega⟩ ?_ (by omega), fun j => ?_, kp_put hx _ _ rfl, fun _ => by omega, (by show (0 : Int) ≤ 21; decide)⟩
        · show (wrB x.text a d).size ≤ 4096
          rw [wr_size]; omega
        · show F.used + (moreB x.text a d : Int) + (x.text.size : Int) = F.used + ((wrB x.text a d).size : Int)
          rw [wr_size]; omega
        · rw [hf_put hx]
          by_cases e : j = k
          · rw [if_pos e, e, hf_of hx]
          · rw [if_neg e]
section
variable {c : Pls} {s : Sg} {N : Nat} {w : World} {R : Hp}
theorem sg_open (h : Sat w (SgHp c s * R)) : Sat w (fsHp c.fb c.mb s.F * (tabHp c.tb c.fb c.bp c.hm s.L s.n * (poolHp c s.p s.tot * (pipeHp c.bp s.p * (snksHp s.L * R))))) := h.perm (by unfold SgHp; ac_rfl)
theorem sg_shut {F : Fs} {L : HL} {n tot : Nat} {p : Pp} (h : Sat w (fsHp c.fb c.mb F * (tabHp c.tb c.fb c.bp c.hm L n * (poolHp c p tot * (pipeHp c.bp p * (snksHp L * R)))))) : Sat w (SgHp c ⟨F, L, n, p, tot⟩ * R) := h.perm (by unfold SgHp; ac_rfl)
theorem sg_tab (h : Sat w (SgHp c s * R)) : Sat w (tabHp c.tb c.fb c.bp c.hm s.L s.n * (fsHp c.fb c.mb s.F * (poolHp c s.p s.tot * (pipeHp c.bp s.p * (snksHp s.L * R))))) := h.perm (by unfold SgHp; ac_rfl)
theorem sg_pipe (h : Sat w (SgHp c s * R)) : ∃ X : Hp, Sat w (tabHp c.tb c.fb c.bp c.hm s.L s.n * (Spill.bufX s.p.bb c.bp 3 4 s.p.frm s.p.data * X)) :=
  ⟨_, h.perm (show _ = tabHp c.tb c.fb c.bp c.hm s.L s.n * (Spill.bufX s.p.bb c.bp 3 4 s.p.frm s.p.data * (fsHp c.fb c.mb s.F * (poolHp c s.p s.tot * (pts s.p.eb (ebO 2) * (snksHp s.L * R))))) by unfold SgHp pipeHp; ac_rfl)⟩
theorem InvT.id64 (hI : InvT N s) (hN : N ≤ 900000) {k : Int} {y : Hn} (hy : findA s.L k = some y) : I64 k := by
  have := hI.ids k y hy
  unfold I64; omega
theorem Unref_file_oneN (tb fb mb pb hm n : Nat) (F : Fs) (L : HL) (id k : Int) (y : Hn) (a : Nat) (m : Md) (hid : I64 id) (hy : findA L id = some y) (hyt : y.t = .file k a m) (hnd : NodupK L) (h1 : y.refs = 1) (hk : I64 k) (hs : FsOk F) (hfn : (F.L.map Prod.fst).Nodup) (hu : 0 ≤ F.used ∧ F.used ≤ 1000000000) (w : World) (R : Hp)
    (h : Sat w (tabHp tb fb pb hm L n * (fsHp fb mb F * R))) :
    Calls Tryz.prog 52 #[pp tb, .int .i64 id] w fun e w' => (e = .returned (.int .i64 0) ∧ Sat w' (tabHp tb fb pb hm (delA L id) n * (fsHp fb mb (dropG F k) * R))) ∧ Ran w w' := by
  refine Unref_last_file tb fb pb hm n L id y hid hy hnd h1 w _ (fsHp fb mb (dropG F k) * R) (by rw [hyt]; rfl) (fun W hW => ?_) h
  rw [hyt] at hW
  refine (fgoneN_calls y.xb fb mb F k a m hk hs hfn hu W (tabHp tb fb pb hm (delA L id) n * R) (hW.perm (show pts y.xb (flO fb k a m) * _ = _ by ac_rfl))).mono ?_
  rintro e w' ⟨⟨he, hs'⟩, hr⟩
  exact ⟨⟨he, (hs'.perm (show _ = pts y.xb (flO fb k a m) * (tabHp tb fb pb hm (delA L id) n * (fsHp fb mb (dropG F k) * R)) by ac_rfl)).right⟩, hr⟩
theorem m_Stat (hN : N ≤ 900000) (hI : InvT N s) {n : Int} (hn : I64 n) (h : Sat w (SgHp c s * R)) :
    Calls Tryz.prog 21 #[pp c.tb, .int .i64 n] w fun e w' => (∃ k a d m er, e = .returned (.tuple #[inV k (rf s.L n) a d m, .int .i64 er]) ∧ (er = 0 ↔ 1 ≤ rf s.L n)) ∧ Sat w' (SgHp c s * R) ∧ Ran w w' := by
  have fin : ∀ {k a d : Int} {m : Md} {er : Int} {e : Ending} {w' : World}, (er = 0 ↔ 1 ≤ rf s.L n) → e = .returned (.tuple #[inV k (rf s.L n) a d m, .int .i64 er]) ∧ Below w.heap.size w w' → (∃ k a d m er, e = .returned (.tuple #[inV k (rf s.L n) a d m, .int .i64 er]) ∧ (er = 0 ↔ 1 ≤ rf s.L n)) ∧ Sat w' (SgHp c s * R) ∧ Ran w w' :=
    fun he h1 => ⟨⟨_, _, _, _, _, h1.1, he⟩, h.below h1.2, below_ran h1.2⟩
  cases hy : findA s.L n with
  | none =>
    have h0 : rf s.L n = 0 := by unfold rf; rw [hy]
    refine (TStat_none c.tb c.fb c.bp c.hm s.n s.L n hn hy w _ (sg_tab h)).mono fun e w' h1 => ?_
    rw [← h0] at h1
    exact fin ⟨fun e => absurd e (by decide), fun e => (by rw [h0] at e; exact absurd e (by decide))⟩ (show e = .returned (.tuple #[inV (rf s.L n) (rf s.L n) (rf s.L n) (rf s.L n) _, .int .i64 18]) ∧ _ from h1)
  | some y =>
    have hr := hI.refs _ y hy
    have hrf := rf_some hy
    have he : (0 : Int) = 0 ↔ 1 ≤ rf s.L n := ⟨fun _ => by rw [hrf]; exact hr.1, fun _ => rfl⟩
    have hth := hI.th _ y hy
    have hpp := hI.pipe
    unfold ThOkG at hth
    rw [← hrf] at hr
    cases hyt : y.t with
    | file k a m => refine (TStat_file c.tb c.fb c.bp c.hm s.n s.L n k y a m hn hy hyt w _ (sg_tab h)).mono fun e w' h1 => ?_; rw [← hrf] at h1; exact fin he h1
    | text t a => refine (TStat_text c.tb c.fb c.bp c.hm s.n s.L n y t a hn hy hyt w _ (sg_tab h)).mono fun e w' h1 => ?_; rw [← hrf] at h1; exact fin he h1
    | sink sp q cap l most => refine (TStat_sink c.tb c.fb c.bp c.hm s.n s.L n y sp q cap l most hn hy hyt w _ (sg_tab h)).mono fun e w' h1 => ?_; rw [← hrf] at h1; exact fin he h1
    | reader bb eb =>
      rw [hyt] at hth
      obtain ⟨rfl, rfl⟩ := hth
      obtain ⟨X, HX⟩ := sg_pipe h
      refine (TStat_reader c.tb c.fb c.bp c.hm s.n s.L n y s.p.bb s.p.eb c.bp s.p.frm s.p.data hn hy hyt (by omega) w _ HX).mono fun e w' h1 => ?_
      rw [← hrf] at h1; exact fin he h1
    | writer bb eb =>
      rw [hyt] at hth
      obtain ⟨rfl, rfl⟩ := hth
      obtain ⟨X, HX⟩ := sg_pipe h
      refine (TStat_writer c.tb c.fb c.bp c.hm s.n s.L n y s.p.bb s.p.eb c.bp s.p.frm s.p.data hn hy hyt (by omega) w _ HX).mono fun e w' h1 => ?_
      rw [← hrf] at h1; exact fin he h1
theorem fs_u (hI : InvT N s) : 0 ≤ s.F.used ∧ s.F.used ≤ 1000000000 := ⟨by rw [hI.tree.used]; omega, by have := hI.tree.room; omega⟩
theorem fs_r (hI : InvT N s) : 0 ≤ s.F.room ∧ s.F.room ≤ 1000000000 := by
  have h1 := hI.tree.used
  have h2 := hI.tree.room
  omega
end
end Go.Proofs.YteienbdbhnikbaaGreatDoor.Hd

namespace Go.Proofs.YteienbdbhnikbaaGreatDoor.Hd
open Go.RowKit Go.Maps Go.Proofs.YteienbdbhnikbaaGreatDoor Go.Proofs.YteienbdbhnikbaaGreatDoor.Hp
set_option linter.unusedVariables false

section
variable {c : Pls} {s : Sg} {N : Nat} {w : World} {R : Hp}
end
end Go.Proofs.YteienbdbhnikbaaGreatDoor.Hd

namespace Go.Proofs.YteienbdbhnikbaaGreatDoor.Hd
open Go.RowKit Go.Maps Go.Proofs.YteienbdbhnikbaaGreatDoor Go.Proofs.YteienbdbhnikbaaGreatDoor.Hp
set_option linter.unusedVariables false
attribute [local go_sem] Oper.semAt_some

section
variable {c : Pls} {s : Sg} {N : Nat} {w : World} {R : Hp}
end
end Go.Proofs.YteienbdbhnikbaaGreatDoor.Hd

namespace Go.Proofs.YteienbdbhnikbaaGreatDoor.Pr
open Go.RowKit Go.Maps Go.Proofs.YteienbdbhnikbaaGreatDoor Go.Proofs.YteienbdbhnikbaaGreatDoor.Hp Go.Proofs.YteienbdbhnikbaaGreatDoor.Hd
set_option linter.unusedVariables false

/-- A state of tree and table of which the refs, the extra holds, and one thing more are told. -/
def St (c : Pls) (N : Nat) (f g : Int → Int) (P : Sg → Prop) : Hp := ex fun s : Sg => fact (InvT N s ∧ (∀ k, rf s.L k = f k) ∧ (∀ k, xt s k = g k) ∧ P s) * SgHp c s
abbrev St0 (c : Pls) (N : Nat) (f g : Int → Int) : Hp := St c N f g fun _ => True
theorem st_out {c : Pls} {N : Nat} {f g : Int → Int} {P : Sg → Prop} {w : World} {R : Hp} (h : Sat w (St c N f g P * R)) : ∃ s, InvT N s ∧ (∀ k, rf s.L k = f k) ∧ (∀ k, xt s k = g k) ∧ P s ∧ Sat w (SgHp c s * R) := by
  unfold St at h
  obtain ⟨s, h⟩ := h.ex_out
  rw [sep_assoc] at h
  obtain ⟨⟨h1, h2, h3, h4⟩, h⟩ := h.fact_out
  exact ⟨s, h1, h2, h3, h4, h⟩
theorem st_in {c : Pls} {N : Nat} {f g : Int → Int} {P : Sg → Prop} {w : World} {R : Hp} {s : Sg} (h1 : InvT N s) (h2 : ∀ k, rf s.L k = f k) (h3 : ∀ k, xt s k = g k) (h4 : P s) (h : Sat w (SgHp c s * R)) : Sat w (St c N f g P * R) := by
  unfold St
  refine Sat.ex_in s ?_
  rw [sep_assoc]
  exact h.fact_in ⟨h1, h2, h3, h4⟩
/-- What a number that a slot has counts. -/
def dl (n k : Int) : Int := if k = n ∧ 1 ≤ n then 1 else 0
theorem dl0 (n k : Int) : 0 ≤ dl n k := by unfold dl; split <;> decide
theorem dl_self {n : Int} (h : 1 ≤ n) : dl n n = 1 := if_pos ⟨rfl, h⟩
def nF : List Sl → Int → Int
  | [], _ => 0
  | s :: l, k => dl s.has k + nF l k
/-- A note: the slot's number, what it was, where it lies. -/
structure Nt where
  q : Nat
  was : Sl
  sb : Nat
  wb : Nat
def nN : List Nt → Int → Int
  | [], _ => 0
  | x :: l, k => (if x.q < 16 then dl x.was.has k else 0) + nN l k
def nD : List Nt → Int → Int
  | [], _ => 0
  | x :: l, k => (if x.q = 16 ∧ k = x.was.has then 1 else 0) + nD l k
theorem nF0 : ∀ (l : List Sl) (k : Int), 0 ≤ nF l k
  | [], _ => Int.le_refl _
  | s :: l, k => by have := nF0 l k; have := dl0 s.has k; show 0 ≤ dl s.has k + nF l k; omega
theorem nN0 : ∀ (l : List Nt) (k : Int), 0 ≤ nN l k
  | [], _ => Int.le_refl _
  | x :: l, k => by
    have := nN0 l k
    have := dl0 x.was.has k
    show 0 ≤ (if x.q < 16 then dl x.was.has k else 0) + nN l k
    split <;> omega
theorem nF_set : ∀ (l : List Sl) (i : Nat) (hi : i < l.length) (s : Sl) (k : Int), nF (l.set i s) k = nF l k - dl l[i].has k + dl s.has k
  | [], i, hi, s, k => by simp at hi
  | x :: l, 0, hi, s, k => by
    show dl s.has k + nF l k = dl x.has k + nF l k - dl x.has k + dl s.has k
    omega
  | x :: l, i + 1, hi, s, k => by
    have := nF_set l i (by simpa using hi) s k
    show dl x.has k + nF (l.set i s) k = dl x.has k + nF l k - dl (l[i]'(by simpa using hi)).has k + dl s.has k
    omega
theorem nN_snoc : ∀ (l : List Nt) (x : Nt) (k : Int), nN (l ++ [x]) k = nN l k + if x.q < 16 then dl x.was.has k else 0
  | [], x, k => by show (if x.q < 16 then dl x.was.has k else 0) + 0 = 0 + _; omega
  | y :: l, x, k => by
    have := nN_snoc l x k
    show _ + nN (l ++ [x]) k = _ + nN l k + _
    omega
theorem nD_snoc : ∀ (l : List Nt) (x : Nt) (k : Int), nD (l ++ [x]) k = nD l k + if x.q = 16 ∧ k = x.was.has then 1 else 0
  | [], x, k => by show (if x.q = 16 ∧ k = x.was.has then 1 else 0) + 0 = 0 + _; omega
  | y :: l, x, k => by
    have := nD_snoc l x k
    show _ + nD (l ++ [x]) k = _ + nD l k + _
    omega
/-- How many refs a handle has, how often a node is held beyond its files. -/
def fOf (b : Int → Int) (p : Pc) (nl : List Nt) : Int → Int := fun k => b k + nF p.fds k + nN nl k
def gOf (p : Pc) (nl : List Nt) : Int → Int := fun k => (if k = p.dir.has then 1 else 0) + nD nl k
def noteQ (pb tx fx : Nat) (x : Nt) : Hp := if x.q < 16 then noteHp pb x.q tx x.sb x.wb x.was else if x.q = 16 then noteD pb fx x.sb x.wb x.was else noteM pb fx x.sb x.wb x.was
def notesHp (p : Pc) (nl : List Nt) : Hp := all (noteQ p.pb p.tx p.fx) nl
abbrev backs (nl : List Nt) : List Value := nl.map fun x => fBack x.sb x.wb
def LG (p : Pc) (most : Int) (nl : List Nt) (ms : List Nat) : Hp := Undo.logHp p.lb most 4 (backs nl) ms
/-- A process, its notes, its log, its tree and table. -/
def PH (c : Pls) (N : Nat) (b : Int → Int) (most : Int) (p : Pc) (nl : List Nt) (ms : List Nat) : Hp := St0 c N (fOf b p nl) (gOf p nl) * (LG p most nl ms * (notesHp p nl * pcHp p))
structure Link (c : Pls) (p : Pc) : Prop where
  fb : p.fb = c.fb
  tb : p.tb = c.tb
  len : p.fds.length = 16
/-- What is refs beyond a process's. -/
def Base (b : Int → Int) : Prop := ∀ k, 0 ≤ b k ∧ (1 ≤ k → k ≤ 4 → 1 ≤ b k)
def Pc.sl (p : Pc) (q : Nat) : Sl := if q < 16 then p.fds.getD q ⟨0, 0⟩ else if q = 16 then p.dir else p.mask
def Pc.put (p : Pc) (q : Nat) (s : Sl) : Pc := if q < 16 then p.slot q s else if q = 16 then p.dirSlot s else p.maskSlot s
theorem put_fd {p : Pc} {q : Nat} (h : q < 16) (s : Sl) : p.put q s = p.slot q s := if_pos h
theorem sl_fd {p : Pc} {q : Nat} (h : q < 16) (h2 : q < p.fds.length) : p.sl q = p.fds[q] := by
  unfold Pc.sl
  rw [if_pos h, List.getD_eq_getElem?_getD, List.getElem?_eq_getElem h2, Option.getD_some]
/-- What set does: at once, with a note, or not, for there is no room. -/
inductive SetR (most : Int) (q : Nat) (n : Int) (p : Pc) (nl : List Nt) (ms : List Nat) : Int → Pc → List Nt → Prop
  | now : (ms.length : Int) ≤ (p.sl q).mark → SetR most q n p nl ms 0 (p.put q ⟨n, (p.sl q).mark⟩) nl
  | full : (p.sl q).mark < (ms.length : Int) → most ≤ (nl.length : Int) → SetR most q n p nl ms 43 p nl
  | noted (sb wb : Nat) : (p.sl q).mark < (ms.length : Int) → (nl.length : Int) < most → SetR most q n p nl ms 0 (p.put q ⟨n, (ms.length : Int)⟩) (nl ++ [⟨q, p.sl q, sb, wb⟩])
section
variable {c : Pls} {N : Nat} {b : Int → Int} {most : Int} {p : Pc} {nl : List Nt} {ms : List Nat} {w : World} {R L : Hp} {f g : Int → Int} {P : Sg → Prop}
/-- The log's methods beside all else. -/
theorem t_marks (W : World) (S : Hp) (h : Sat W (St c N f g P * LG p most nl ms * S)) :
    Calls Tryz.prog 17 #[pp p.lb] W fun e w' => e = .returned (.int .i64 (ms.length : Int)) ∧ W = w' :=
  Undo.marks_calls p.lb most 4 (backs nl) ms W (St c N f g P * S) (Undo.log_out (h.perm (show _ = Undo.logHp p.lb most 4 (backs nl) ms * (St c N f g P * S) by unfold LG; ac_rfl)))
theorem t_note (hnl : nl.length ≤ 1000000) (hm4 : ms.length ≤ 4) (hm : ms ≠ []) (hl : (nl.length : Int) < most) (q : Nat) (s : Sl) (sb wb : Nat) (W : World) (S : Hp) (h : Sat W (St c N f g P * LG p most nl ms * S)) :
    Calls Tryz.prog 75 #[pp p.lb, .func (.func 76) #[] #[pp sb, pp wb]] W fun e w' => e = .returned (.int .i64 0) ∧ (Sat w' (St c N f g P * LG p most (nl ++ [⟨q, s, sb, wb⟩]) ms * S) ∧ Ran W w') := by
  have hb : (backs nl).length = nl.length := List.length_map ..
  refine (Undo.note_calls p.lb most 4 (backs nl) ms 76 #[pp sb, pp wb] W (St c N f g P * S) (Undo.log_out (h.perm (show _ = Undo.logHp p.lb most 4 (backs nl) ms * (St c N f g P * S) by unfold LG; ac_rfl))) hm (by rw [hb]; exact hl) (by rw [hb]; omega) (by omega)).mono ?_
  rintro e w' ⟨rfl, hs, hr⟩
  refine ⟨rfl, (Undo.log_in hs).perm ?_, hr⟩
  unfold LG
  rw [show backs (nl ++ [⟨q, s, sb, wb⟩]) = backs nl ++ [.func (.func 76) #[] #[pp sb, pp wb]] by rw [backs, List.map_append]; rfl]
  ac_rfl
theorem slot_has (p : Pc) (i : Nat) (n : Int) (hi : i < p.fds.length) : p.has i n = p.slot i ⟨n, p.fds[i].mark⟩ := by
  unfold Pc.has Pc.slot
  rw [List.getD_eq_getElem?_getD, List.getElem?_eq_getElem hi, Option.getD_some]
theorem f_slot {i : Nat} (hi : i < p.fds.length) (s : Sl) (k : Int) : fOf b (p.slot i s) nl k = fOf b p nl k - dl p.fds[i].has k + dl s.has k := by
  have := nF_set p.fds i hi s k
  show b k + nF (p.fds.set i s) k + nN nl k = b k + nF p.fds k + nN nl k - dl p.fds[i].has k + dl s.has k
  omega
theorem f_snoc (x : Nt) (k : Int) : fOf b p (nl ++ [x]) k = fOf b p nl k + if x.q < 16 then dl x.was.has k else 0 := by
  have := nN_snoc nl x k
  show b k + nF p.fds k + nN (nl ++ [x]) k = b k + nF p.fds k + nN nl k + _
  omega
theorem g_snoc (x : Nt) (k : Int) : gOf p (nl ++ [x]) k = gOf p nl k + if x.q = 16 ∧ k = x.was.has then 1 else 0 := by
  have := nD_snoc nl x k
  show (if k = p.dir.has then 1 else 0) + nD (nl ++ [x]) k = (if k = p.dir.has then 1 else 0) + nD nl k + _
  omega
end
end Go.Proofs.YteienbdbhnikbaaGreatDoor.Pr

namespace Go.Proofs.YteienbdbhnikbaaGreatDoor.Pr
open Go.RowKit Go.Maps Go.Proofs.YteienbdbhnikbaaGreatDoor Go.Proofs.YteienbdbhnikbaaGreatDoor.Hp Go.Proofs.YteienbdbhnikbaaGreatDoor.Hd
set_option linter.unusedVariables false

def PHP (c : Pls) (N : Nat) (b : Int → Int) (most : Int) (p : Pc) (nl : List Nt) (ms : List Nat) (P : Sg → Prop) : Hp := St c N (fOf b p nl) (gOf p nl) P * (LG p most nl ms * (notesHp p nl * pcHp p))
section
variable {c : Pls} {N : Nat} {b : Int → Int} {most : Int} {p : Pc} {nl : List Nt} {ms : List Nat} {w : World} {R : Hp} {P : Sg → Prop}
end
end Go.Proofs.YteienbdbhnikbaaGreatDoor.Pr

namespace Go.Proofs.YteienbdbhnikbaaGreatDoor.Pr
open Go.RowKit Go.Maps Go.Proofs.YteienbdbhnikbaaGreatDoor Go.Proofs.YteienbdbhnikbaaGreatDoor.Hp Go.Proofs.YteienbdbhnikbaaGreatDoor.Hd
set_option linter.unusedVariables false
attribute [local go_sem] Oper.semAt_some

theorem Pc.put_same (p : Pc) (q : Nat) (s : Sl) : (p.put q s).pb = p.pb ∧ (p.put q s).fb = p.fb ∧ (p.put q s).tb = p.tb ∧ (p.put q s).lb = p.lb ∧ (p.put q s).fx = p.fx ∧ (p.put q s).tx = p.tx ∧ (p.put q s).fds.length = p.fds.length := by
  unfold Pc.put
  split
  · exact ⟨rfl, rfl, rfl, rfl, rfl, rfl, List.length_set ..⟩
  · split
    · exact ⟨rfl, rfl, rfl, rfl, rfl, rfl, rfl⟩
    · exact ⟨rfl, rfl, rfl, rfl, rfl, rfl, rfl⟩
/-- A process whose notes have been undone. -/
def resto (l : List Nt) (p : Pc) : Pc := l.foldr (fun x p => p.put x.q x.was) p
theorem resto_same : ∀ (l : List Nt) (p : Pc), (resto l p).pb = p.pb ∧ (resto l p).fb = p.fb ∧ (resto l p).tb = p.tb ∧ (resto l p).lb = p.lb ∧ (resto l p).fx = p.fx ∧ (resto l p).tx = p.tx ∧ (resto l p).fds.length = p.fds.length
  | [], p => ⟨rfl, rfl, rfl, rfl, rfl, rfl, rfl⟩
  | x :: l, p => by
    obtain ⟨h1, h2, h3, h4, h5, h6, h7⟩ := resto_same l p
    obtain ⟨g1, g2, g3, g4, g5, g6, g7⟩ := Pc.put_same (resto l p) x.q x.was
    exact ⟨g1.trans h1, g2.trans h2, g3.trans h3, g4.trans h4, g5.trans h5, g6.trans h6, g7.trans h7⟩
theorem Link.put {c : Pls} {p : Pc} (h : Link c p) (q : Nat) (s : Sl) : Link c (p.put q s) := by
  obtain ⟨g1, g2, g3, g4, g5, g6, g7⟩ := Pc.put_same p q s
  exact ⟨g2.trans h.fb, g3.trans h.tb, g7.trans h.len⟩
theorem Link.resto {c : Pls} {p : Pc} (h : Link c p) (l : List Nt) : Link c (resto l p) := by
  obtain ⟨g1, g2, g3, g4, g5, g6, g7⟩ := resto_same l p
  exact ⟨g2.trans h.fb, g3.trans h.tb, g7.trans h.len⟩
section
variable {c : Pls} {N : Nat} {b : Int → Int} {most : Int} {p : Pc} {nl : List Nt} {ms : List Nat} {w : World} {R L : Hp}
theorem enters_back : Enters Tryz.prog 76 := enters_of Tryz.func76 (by kernel_rfl) rfl
set_option maxRecDepth 100000 in
/-- Undo and Mark of a process are its log's. -/
theorem p_undo_of (Q : Ending → World → Prop) (h : Sat w (PH c N b most p nl ms * R)) (HU : Calls Tryz.prog 54 #[pp p.lb] w fun e w' => ∃ er, e = .returned (.int .i64 er) ∧ Q e w') :
    Calls Tryz.prog 18 #[pp p.pb] w Q := by
  obtain ⟨a0, a1, a2⟩ := pc_heads (h.perm (show _ = pcHp p * (St0 c N (fOf b p nl) (gOf p nl) * (LG p most nl ms * notesHp p nl) * R) by unfold PH; ac_rfl))
  have HU := Lib.hid HU
  clear h
  go_enter Tryz.func18, Tryz.ntmps18
  go_wp2_with fail
  refine HU.out.mono ?_
  rintro e w1 ⟨er, rfl, hQ⟩
  have hQ := Lib.hid hQ
  go_wp2_with fail
  exact hQ.out
set_option maxRecDepth 100000 in
theorem p_mark_of (Q : Ending → World → Prop) (h : Sat w (PH c N b most p nl ms * R)) (HU : Calls Tryz.prog 60 #[pp p.lb] w fun e w' => ∃ n er, e = .returned (.tuple #[.int .i64 n, .int .i64 er]) ∧ Q e w') :
    Calls Tryz.prog 24 #[pp p.pb] w Q := by
  obtain ⟨a0, a1, a2⟩ := pc_heads (h.perm (show _ = pcHp p * (St0 c N (fOf b p nl) (gOf p nl) * (LG p most nl ms * notesHp p nl) * R) by unfold PH; ac_rfl))
  have HU := Lib.hid HU
  clear h
  go_enter Tryz.func24, Tryz.ntmps24
  go_wp2_with fail
  refine HU.out.mono ?_
  rintro e w1 ⟨n, er, rfl, hQ⟩
  have hQ := Lib.hid hQ
  go_wp2_with fail
  exact hQ.out
end
end Go.Proofs.YteienbdbhnikbaaGreatDoor.Pr

namespace Go.Proofs.YteienbdbhnikbaaGreatDoor.Pr
open Go.RowKit Go.Maps Go.Proofs.YteienbdbhnikbaaGreatDoor Go.Proofs.YteienbdbhnikbaaGreatDoor.Hp Go.Proofs.YteienbdbhnikbaaGreatDoor.Hd
set_option linter.unusedVariables false
attribute [local go_sem] Oper.semAt_some

/-- What is true of a process's numbers. -/
structure POk (p : Pc) (nl : List Nt) : Prop where
  vals : ∀ q, q ≤ 17 → 0 ≤ (p.sl q).has ∧ (p.sl q).has ≤ 1000000 ∧ 0 ≤ (p.sl q).mark
  nts : ∀ x ∈ nl, x.q ≤ 17 ∧ 0 ≤ x.was.has ∧ x.was.has ≤ 1000000 ∧ 0 ≤ x.was.mark
  len : nl.length ≤ 10000
/-- What a call does to slots, notes and marks. -/
inductive PStep (most : Int) (p : Pc) (nl : List Nt) (ms : List Nat) : Int → Pc → List Nt → List Nat → Prop
  | same (er : Int) : er ≠ 43 → PStep most p nl ms er p nl ms
  | set (q : Nat) (n er : Int) (p' : Pc) (nl' : List Nt) : q ≤ 17 → 0 ≤ n → n ≤ 1000000 → SetR most q n p nl ms er p' nl' → PStep most p nl ms er p' nl' ms
  | mark : ms.length < 4 → PStep most p nl ms 0 p nl (ms ++ [nl.length])
  | undo (m : Nat) (ms0 : List Nat) : ms = ms0 ++ [m] → PStep most p nl ms 0 (resto (nl.drop m) p) (nl.take m) ms0
section
variable {c : Pls} {N : Nat} {b : Int → Int} {most : Int} {p : Pc} {nl : List Nt} {ms : List Nat} {w : World} {R : Hp}
theorem ph_in {P : Sg → Prop} {s : Sg} (h1 : InvT N s) (h2 : ∀ k, rf s.L k = fOf b p nl k) (h3 : ∀ k, xt s k = gOf p nl k) (h4 : P s) (h : Sat w (SgHp c s * (LG p most nl ms * (notesHp p nl * pcHp p) * R))) : Sat w (PHP c N b most p nl ms P * R) :=
  (st_in h1 h2 h3 h4 h).perm (by unfold PHP; ac_rfl)
theorem has_i64 {x : Int} (h : 0 ≤ x ∧ x ≤ 1000000) : I64 x := by unfold I64; omega
end
end Go.Proofs.YteienbdbhnikbaaGreatDoor.Pr

namespace Go.Proofs.YteienbdbhnikbaaGreatDoor.Pr
open Go.RowKit Go.Maps Go.Proofs.YteienbdbhnikbaaGreatDoor Go.Proofs.YteienbdbhnikbaaGreatDoor.Hp Go.Proofs.YteienbdbhnikbaaGreatDoor.Hd
set_option linter.unusedVariables false
attribute [local go_sem] Oper.semAt_some

section
variable {c : Pls} {N : Nat} {b : Int → Int} {most : Int} {p : Pc} {nl : List Nt} {ms : List Nat} {w : World} {R : Hp}
end
end Go.Proofs.YteienbdbhnikbaaGreatDoor.Pr

namespace Go.Proofs.YteienbdbhnikbaaGreatDoor.Pr
open Go.RowKit Go.Maps Go.Proofs.YteienbdbhnikbaaGreatDoor Go.Proofs.YteienbdbhnikbaaGreatDoor.Hp Go.Proofs.YteienbdbhnikbaaGreatDoor.Hd
set_option linter.unusedVariables false
attribute [local go_sem] Oper.semAt_some

/-- What stands beside tree and table. -/
def Bes (most : Int) (p : Pc) (nl : List Nt) (ms : List Nat) : Hp := LG p most nl ms * (notesHp p nl * pcHp p)
section
variable {c : Pls} {N : Nat} {b : Int → Int} {most : Int} {p : Pc} {nl : List Nt} {ms : List Nat} {w : World} {R : Hp} {s : Sg}
theorem bes_pc (h : Sat w (SgHp c s * (Bes most p nl ms * R))) : Sat w (pcHp p * (SgHp c s * (LG p most nl ms * notesHp p nl * R))) := h.perm (by unfold Bes; ac_rfl)
theorem bes_cells (h16 : p.fds.length = 16) (h : Sat w (SgHp c s * (Bes most p nl ms * R))) : w.cell? ⟨p.pb, 0, none⟩ = some (pp p.fb) ∧ w.cell? ⟨p.pb, 67, none⟩ = some (.int .i64 p.dir.has) :=
  ⟨(pc_heads (bes_pc h)).1, (pc_tail (bes_pc h) h16).1⟩
end
end Go.Proofs.YteienbdbhnikbaaGreatDoor.Pr

namespace Go.Proofs.YteienbdbhnikbaaGreatDoor.Pr
open Go.RowKit Go.Maps Go.Proofs.YteienbdbhnikbaaGreatDoor Go.Proofs.YteienbdbhnikbaaGreatDoor.Hp Go.Proofs.YteienbdbhnikbaaGreatDoor.Hd
set_option linter.unusedVariables false
attribute [local go_sem] Oper.semAt_some

section
variable {c : Pls} {N : Nat} {b : Int → Int} {most : Int} {p : Pc} {nl : List Nt} {ms : List Nat} {w : World} {R : Hp} {s : Sg}
end
end Go.Proofs.YteienbdbhnikbaaGreatDoor.Pr

namespace Go.Proofs.YteienbdbhnikbaaGreatDoor.Pr
open Go.RowKit Go.Maps Go.Proofs.YteienbdbhnikbaaGreatDoor Go.Proofs.YteienbdbhnikbaaGreatDoor.Hp Go.Proofs.YteienbdbhnikbaaGreatDoor.Hd
set_option linter.unusedVariables false
attribute [local go_sem] Oper.semAt_some

section
variable {c : Pls} {N : Nat} {b : Int → Int} {most : Int} {p : Pc} {nl : List Nt} {ms : List Nat} {w : World} {R : Hp} {s : Sg}
theorem f_more (id k : Int) : fOf (fun k => b k + dl id k) p nl k = fOf b p nl k + dl id k := by
  unfold fOf
  dsimp only
  omega
end
end Go.Proofs.YteienbdbhnikbaaGreatDoor.Pr

namespace Go.Proofs.YteienbdbhnikbaaGreatDoor.Hd
open Go.RowKit Go.Maps Go.Proofs.YteienbdbhnikbaaGreatDoor Go.Proofs.YteienbdbhnikbaaGreatDoor.Hp
set_option linter.unusedVariables false
attribute [local go_sem] Oper.semAt_some

end Go.Proofs.YteienbdbhnikbaaGreatDoor.Hd

namespace Go.Proofs.YteienbdbhnikbaaGreatDoor.Hd
open Go.RowKit Go.Maps Go.Proofs.YteienbdbhnikbaaGreatDoor Go.Proofs.YteienbdbhnikbaaGreatDoor.Hp
set_option linter.unusedVariables false
attribute [local go_sem] Oper.semAt_some

/-- The root, when it is new. -/
def rootN (b kb : Nat) : Nd := ⟨b, 1, ⟨#[]⟩, some ⟨kb, fun _ => none, 0, 0⟩, 1, 0, 0⟩
def newF (most room : Int) (b kb : Nat) : Fs := ⟨most, room, 0, [((1 : Int), rootN b kb)], 1⟩
set_option maxRecDepth 100000 in
set_option maxHeartbeats 8000000 in
theorem New_calls (most room : Int) (h1 : 1 ≤ most) (h2 : most ≤ 1024) (h3 : 0 ≤ room) (h4 : room ≤ 1048576) (w : World) (R : Hp) (h : Sat w R) :
    Calls Tryz.prog 30 #[.int .i64 most, .int .i64 room] w fun e w' => (∃ fb mb b kb, e = .returned (.tuple #[pp fb, .int .i64 0]) ∧ Sat w' (fsHp fb mb (newF most room b kb) * R)) ∧ Ran w w' := by
  have hmk1 : ∀ W : World, (Instr.makeMap 113 none).run Tryz.prog W = .ok (.map (some W.heap.size)) (W.alloc (.map #[] 0)) := fun W => rfl
  have hmk2 : ∀ W : World, (Instr.makeMap 116 none).run Tryz.prog W = .ok (.map (some W.heap.size)) (W.alloc (.map #[] 0)) := fun W => rfl
  have S1 := pmap_made h
  have S2 := K.smap_made S1
  rw [World.size_alloc] at S2
  have S3 := S2.alloc (ndO (rootN (w.heap.size + 1 + 1) (w.heap.size + 1)))
  rw [World.size_alloc, World.size_alloc] at S3
  have S4 := S3.perm (show _ = pmap w.heap.size (fun _ => none) 0 0 * (pts (w.heap.size + 1 + 1) (ndO (rootN (w.heap.size + 1 + 1) (w.heap.size + 1))) * (K.smap (w.heap.size + 1) (fun _ => none) 0 0 * R)) by ac_rfl)
  obtain ⟨w3, hrun, S5, R5⟩ := pmap_put Tryz.underlying113 S4 (by unfold maxLen; omega) 1 (by unfold I64; omega) rfl (w.heap.size + 1 + 1)
  have S6 := Lib.hid ((S5.alloc (fsO (newF most room (w.heap.size + 1 + 1) (w.heap.size + 1)) w.heap.size)).perm (show _ = fsHp w3.heap.size w.heap.size (newF most room (w.heap.size + 1 + 1) (w.heap.size + 1)) * R by
    unfold fsHp
    rw [show blk (newF most room (w.heap.size + 1 + 1) (w.heap.size + 1)).L = putP (fun _ => none) 1 (w.heap.size + 1 + 1) by
      unfold newF; dsimp only; rw [blk_cons]; rfl]
    show _ = pts w3.heap.size (fsO (newF most room (w.heap.size + 1 + 1) (w.heap.size + 1)) w.heap.size) * (pmap w.heap.size (putP (fun _ => none) 1 (w.heap.size + 1 + 1)) (0 + 1) (0 + 1) * ((pts (w.heap.size + 1 + 1) (ndO (rootN (w.heap.size + 1 + 1) (w.heap.size + 1))) * K.smap (w.heap.size + 1) (fun _ => none) 0 0) * emp)) * R
    rw [sep_emp]
    ac_rfl))
  have R6 := Lib.hid (Ran.new (Below.trans (Ran.new (Ran.new (Ran.new (Below.refl 0 w) (.map #[] 0)) (.map #[] 0)) (ndO (rootN (w.heap.size + 1 + 1) (w.heap.size + 1)))) R5) (fsO (newF most room (w.heap.size + 1 + 1) (w.heap.size + 1)) w.heap.size))
  unfold ndO rootN kv at hrun
  dsimp only at hrun
  clear h S1 S2 S3 S4 S5 R5
  go_enter Tryz.func30, Tryz.ntmps30
  go_wp2_with fail
  go_ret2
  exact ⟨⟨w3.heap.size, w.heap.size, w.heap.size + 1 + 1, w.heap.size + 1, rfl, S6.out⟩, R6.out⟩
set_option maxRecDepth 100000 in
set_option maxHeartbeats 4000000 in
theorem HNew_calls (fb pb : Nat) (w : World) (R : Hp) (h : Sat w R) :
    Calls Tryz.prog 34 #[pp fb, pp pb] w fun e w' => (∃ tb hm, e = .returned (.tuple #[pp tb, .int .i64 0]) ∧ Sat w' (tabHp tb fb pb hm [] 0 * R)) ∧ Ran w w' := by
  have hmk1 : ∀ W : World, (Instr.makeMap 101 none).run Tryz.prog W = .ok (.map (some W.heap.size)) (W.alloc (.map #[] 0)) := fun W => rfl
  have S1 := pmap_made h
  have S2 := S1.alloc (tbO fb pb w.heap.size)
  rw [World.size_alloc] at S2
  have S3 := Lib.hid (S2.perm (show _ = tabHp (w.heap.size + 1) fb pb w.heap.size [] 0 * R by
    unfold tabHp
    show _ = pts (w.heap.size + 1) (tbO fb pb w.heap.size) * (pmap w.heap.size (fun _ => none) 0 0 * emp) * R
    rw [sep_emp]
    ac_rfl))
  have R3 := Lib.hid (Ran.new (Ran.new (Below.refl 0 w) (.map #[] 0)) (tbO fb pb w.heap.size))
  clear h S1 S2
  go_enter Tryz.func34, Tryz.ntmps34
  go_wp2_with fail
  go_ret2
  exact ⟨⟨w.heap.size + 1, w.heap.size, rfl, S3.out⟩, R3.out⟩
end Go.Proofs.YteienbdbhnikbaaGreatDoor.Hd

