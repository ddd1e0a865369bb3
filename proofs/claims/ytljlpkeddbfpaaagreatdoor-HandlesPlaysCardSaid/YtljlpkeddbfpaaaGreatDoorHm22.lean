/- HandlesPlays, part 22 of 34: the texts HdPm, joined by a program. -/
import Derived.Test.YtljlpkeddbfpaaaGreatDoorHm21
namespace Go.Proofs.YtljlpkeddbfpaaaGreatDoor.Hd
open Go.RowKit Go.Maps Go.Proofs.YtljlpkeddbfpaaaGreatDoor Go.Proofs.YtljlpkeddbfpaaaGreatDoor.Hp
set_option linter.unusedVariables false
attribute [local go_sem] Oper.semAt_some

section
variable {w : World} {c : RT} {L : List DH} {qn : Nat} {cf : RF} {N : List DN} {R : Hp}
set_option maxRecDepth 100000 in
set_option maxHeartbeats 4000000 in
/-- Write of a file. -/
theorem RWrite_file (id : Int) (d : ByteArray) (i a j : Nat) (hrf : c.rf = cf.fb) (hL : L.length ≤ 1000000) (hi : i < L.length) (hp : placeN L id 0 = (i : Int)) (hkd : L[i].kind = 1) (hpt : L[i].pt = true) (hmo : L[i].mo = false) (hnd : L[i].node = (j : Int)) (hj1 : 1 ≤ j) (hj : j < N.length) (hN2 : N.length ≤ 2000) (hzz : sizD (N.drop 1) ≤ 100000000) (hr : 0 ≤ cf.room ∧ cf.room ≤ 1000000000) (hjk : N[j].kind = 2) (hjt : N[j].text.size ≤ 1000000 ∧ N[j].kn ≤ 1000000) (ha : L[i].at_ = (a : Int)) (ha2 : a ≤ 1000000000) (hdz : d.size ≤ 1000000000) (h : Sat w (rtHp c L qn * (rfHp cf N * R))) :
    Calls Tryz.prog 55 #[pp c.tb, .int .i64 id, .string d] w fun e w' => (e = .returned (.int .i64 (fwD cf.room N j a N[j] d).1) ∧ Sat w' (rtHp c (L.set i { L[i] with at_ := if (fwD cf.room N j a N[j] d).1 = 0 then (a : Int) + (d.size : Int) else (a : Int) }) qn * (rfHp cf (fwD cf.room N j a N[j] d).2 * R))) ∧ Ran w w' := by
  have HP := rplace_calls c L qn id hL w _ h
  rw [hp] at HP
  have HP := Lib.hid HP
  obtain ⟨c0, c1, c2, c3⟩ := rt_cells h
  obtain ⟨⟨b, o, hb⟩, hlc, hlm⟩ := rt_addr h hi
  obtain ⟨m0, m1, m2, m3, m4, m5, m6, m7, m8, m9, m10⟩ := dh_cells h hb hi
  have hbb := hb
  rw [hb] at c2
  have hcm : (c.lc : Int) ≤ 9223372036854775807 := by unfold maxLen at hlm; omega
  have hiI : (i : Int) < (L.length : Int) := by omega
  have hi0 : (0 : Int) ≤ (i : Int) := by omega
  have hLI : (L.length : Int) ≤ 1000000 := by omega
  obtain ⟨x, hx⟩ : ∃ x, x = L[i] := ⟨_, rfl⟩
  rw [← hx] at m0 m1 m2 m3 m4 m5 m6 m7 m8 m9 m10
  have HS0 := h.alloc (dhO x)
  obtain ⟨r0, r1, r2, r3, r4, r5, r6, r7, r8, r9, r10⟩ := dhO_cells HS0
  have S1 := And.intro (h.old (dhO x)) (Ran.new (Below.refl 0 w) (dhO x))
  rw [← hx] at hkd hpt hmo hnd ha ⊢
  have HW := (fun (W' : World) (X : Hp) (hX : Sat W' (rfHp cf N * X)) => dwrite_calls a d hj1 hj hN2 hzz hr hjk hjt.1 ha2 hdz hX)
  obtain ⟨zz, hzz2⟩ : ∃ z, z = fwD cf.room N j a N[j] d := ⟨_, rfl⟩
  rw [← hzz2] at HW ⊢
  obtain ⟨ze, zl⟩ := zz
  dsimp only at HW ⊢
  have HW := Lib.hid HW
  have HC := Lib.hid (fun (W' : World) (v : DH) (X : Hp) (hX : Sat W' (pts w.heap.size (dhO v) * (rtHp c L qn * X))) => (show W'.cell? ⟨c.tb, 0, none⟩ = some (pp cf.fb) ∧ W'.cell? ⟨w.heap.size, 4, none⟩ = some (.int .i64 v.node) ∧ W'.cell? ⟨w.heap.size, 3, none⟩ = some (.int .i64 v.at_) ∧ (∀ j, W'.frozen? ⟨w.heap.size, j, none⟩ = false) by
    have e0 := (rt_cells hX.right).1
    rw [hrf] at e0
    exact ⟨e0, (dhO_cells hX).2.2.2.2.1, (dhO_cells hX).2.2.2.1, fun j => free_at hX.get j⟩))
  have HD := Lib.hid (fun (W' : World) (v : DH) (X : Hp) (hX : Sat W' (pts w.heap.size (dhO v) * (rtHp c L qn * X))) => (show W'.cell? ⟨c.tb, 2, none⟩ = some (.slice (some ⟨b, o, none⟩) L.length c.lc) ∧ W'.cell? ⟨w.heap.size, 3, none⟩ = some (.int .i64 v.at_) ∧ W'.cell? ⟨b, o + i * 11 + 3, none⟩ = some (.int .i64 x.at_) ∧ (∀ j, W'.frozen? ⟨b, j, none⟩ = false) ∧ Sat (W'.drew.setCell ⟨b, o + i * 11 + 3, none⟩ (.int .i64 v.at_)) (rtHp c (L.set i { x with at_ := v.at_ }) qn * X) by
    have e2 := (rt_cells hX.right).2.2.1
    rw [hbb] at e2
    refine ⟨e2, (dhO_cells hX).2.2.2.1, ?_, fun j => ?_, ?_⟩
    · have := (dh_cells hX.right hbb hi).2.2.2.1
      rw [← hx] at this; exact this
    · have := rt_arr hX.right; rw [hbb] at this; exact this.arr_free j
    · exact dh_set hX.right.drew hbb hi 3 (.int .i64 v.at_) { x with at_ := v.at_ } (by omega) (by rw [← hx]; rfl)))
  have haI : (a : Int) ≤ 1000000000 := by omega
  have ha0 : (0 : Int) ≤ (a : Int) := by omega
  have hdI : (d.size : Int) ≤ 1000000000 := by omega
  have hwp : IntKind.i64.wrap ((a : Int) + (d.size : Int)) = (a : Int) + (d.size : Int) := IntWalk.i64_in _ (by omega)
  obtain ⟨xi, xk, xr, xa, xn, xrd, xpt, xmo, xd, xm, xp⟩ := x
  dsimp only at hkd hpt hmo hnd HC HD S1 HS0 ha m0 m1 m2 m3 m4 m5 m6 m7 m8 m9 m10 r0 r1 r2 r3 r4 r5 r6 r7 r8 r9 r10 ⊢
  subst hkd hpt hmo hnd ha
  clear h hp hx hb hbb hlm hzz2 hjk hjt hrf hzz hr
  have HS0 := Lib.hid (And.intro HS0 S1.2)
  clear S1
  by_cases hz0 : ze = 0
  · subst hz0
    rw [if_pos rfl]
    go_enter Tryz.func55, Tryz.ntmps55
    go_wp2_with fail
    refine HP.out.mono ?_
    rintro e w1 ⟨rfl, rfl⟩
    clear HP
    go_upto_region 17 with fail
    obtain ⟨W, hW⟩ : ∃ W, W = w.alloc (dhO ⟨xi, 1, xr, (a : Int), (j : Int), xrd, true, false, xd, xm, xp⟩) := ⟨_, rfl⟩
    rw [← hW] at HS0 ⊢
    have SW := Lib.hid HS0.out.1
    have RW := Lib.hid HS0.out.2
    clear hW HS0 r0 r1 r2 r3 r4 r5 r6 r7 r8 r9 r10 m0 m1 m2 m3 m4 m5 m6 m7 m8 m9 m10 c0 c1 c2 c3
    obtain ⟨k0, k4, k3, kf⟩ := HC.out _ ⟨xi, 1, xr, (a : Int), (j : Int), xrd, true, false, xd, xm, xp⟩ _ SW.out.drew
    have HWR := Lib.hid (HW.out _ _ (SW.out.drew.perm (show _ = rfHp cf N * (pts w.heap.size (dhO ⟨xi, 1, xr, (a : Int), (j : Int), xrd, true, false, xd, xm, xp⟩) * (rtHp c L qn * (R))) by ac_rfl)))
    refine region_plan (S := (fun w' => w'.cell? ⟨c.tb, 0, none⟩ = some (pp cf.fb) ∧ w'.cell? ⟨w.heap.size, 4, none⟩ = some (.int .i64 (j : Int)) ∧ w'.cell? ⟨w.heap.size, 3, none⟩ = some (.int .i64 (a : Int)))) [(0, true), (1, true), (2, true), (3, true), (4, true), (5, true), (6, true), (7, true), (8, true), (9, false), (10, true)] (by kernel_rfl) (by kernel_rfl) (by kernel_rfl) ?_ ?_
    · ((try dsimp only); (first | done | (first | exact Kset.out | exact ⟨k0, k4, k3⟩)))
    simp only [planOps, List.map_cons, List.map_nil, List.getElem?_toArray, List.getElem?_cons_zero, List.getElem?_cons_succ]
    repeat (first
      | ((refine plan_yes (v := ?_) (by rfl) ?_ ?_); rotate_left; (focus (intro w hSw; (try dsimp only at hSw); go_simp; try (with_reducible rfl))); (try simp only [Act.put, List.setIfInBounds_toArray, List.set_cons_zero, List.set_cons_succ]))
      | ((refine plan_no (by rfl) ?_); (try simp only [Act.put, List.setIfInBounds_toArray, List.set_cons_zero, List.set_cons_succ]))
      | ((refine plan_step (fun K hK => ?_)); (first | (go_simp; (go_at_call 86; refine HWR.out.mono ?_; rintro e w3 ⟨⟨rfl, S3⟩, R3⟩; have S3 := S3.perm (show _ = pts w.heap.size (dhO ⟨xi, 1, xr, (a : Int), (j : Int), xrd, true, false, xd, xm, xp⟩) * (rtHp c L qn * (rfHp cf zl * (R))) by ac_rfl); obtain ⟨kk0, kk4, kk3, kkf⟩ := HC.out _ ⟨xi, 1, xr, (a : Int), (j : Int), xrd, true, false, xd, xm, xp⟩ _ S3; have Kset := Lib.hid (And.intro kk0 (And.intro kk4 kk3)); have S3 := Lib.hid S3; have R3 := Lib.hid (Below.trans (Ran.drewN RW.out 1) R3)); (try go_wp2_with fail)) | go_simp); (refine hK.out _ _ ?_ (fun hHeld => ?_)); (focus ((try dsimp only); (first | done | (first | exact Kset.out | exact ⟨k0, k4, k3⟩)))); clear hK K; (try simp only [Act.put, List.setIfInBounds_toArray, List.set_cons_zero, List.set_cons_succ])))
    refine plan_done ?_
    clear k0 k4 k3 kf HWR SW RW kk0 kk4 Kset
    go_upto_region 20 with fail
    obtain ⟨W4, hW4⟩ : ∃ W4, W4 = w3.setCell ⟨w.heap.size, 3, none⟩ (.int .i64 ((a : Int) + (d.size : Int))) := ⟨_, rfl⟩
    have S4 : Sat _ (pts w.heap.size (dhO ⟨xi, 1, xr, (a : Int) + (d.size : Int), (j : Int), xrd, true, false, xd, xm, xp⟩) * _) := S3.out.set (i := 3) (.int .i64 ((a : Int) + (d.size : Int)))
    have R4 := Ran.set R3.out ⟨w.heap.size, 3, none⟩ (.int .i64 ((a : Int) + (d.size : Int)))
    rw [← hW4] at S4 R4 ⊢
    obtain ⟨q2, q3, q4, qf, q5⟩ := HD.out _ ⟨xi, 1, xr, (a : Int) + (d.size : Int), (j : Int), xrd, true, false, xd, xm, xp⟩ _ S4
    have S9 := Lib.hid q5
    have R9 := Lib.hid R4
    clear q5 R4 S3 R3 kk3 kkf HC HD hW4 S4
    go_still_tail 9, (by kernel_rfl)
    go_wp2_with fail
    go_ret
    exact ⟨⟨rfl, S9.out⟩, Ran.set (Ran.drewN R9.out 1) _ _⟩
  · rw [if_neg hz0]
    have hzb : (ze == 0) = false := by simp [hz0]
    go_enter Tryz.func55, Tryz.ntmps55
    go_wp2_with fail
    refine HP.out.mono ?_
    rintro e w1 ⟨rfl, rfl⟩
    clear HP
    go_upto_region 17 with fail
    obtain ⟨W, hW⟩ : ∃ W, W = w.alloc (dhO ⟨xi, 1, xr, (a : Int), (j : Int), xrd, true, false, xd, xm, xp⟩) := ⟨_, rfl⟩
    rw [← hW] at HS0 ⊢
    have SW := Lib.hid HS0.out.1
    have RW := Lib.hid HS0.out.2
    clear hW HS0 r0 r1 r2 r3 r4 r5 r6 r7 r8 r9 r10 m0 m1 m2 m3 m4 m5 m6 m7 m8 m9 m10 c0 c1 c2 c3
    obtain ⟨k0, k4, k3, kf⟩ := HC.out _ ⟨xi, 1, xr, (a : Int), (j : Int), xrd, true, false, xd, xm, xp⟩ _ SW.out.drew
    have HWR := Lib.hid (HW.out _ _ (SW.out.drew.perm (show _ = rfHp cf N * (pts w.heap.size (dhO ⟨xi, 1, xr, (a : Int), (j : Int), xrd, true, false, xd, xm, xp⟩) * (rtHp c L qn * (R))) by ac_rfl)))
    refine region_plan (S := (fun w' => w'.cell? ⟨c.tb, 0, none⟩ = some (pp cf.fb) ∧ w'.cell? ⟨w.heap.size, 4, none⟩ = some (.int .i64 (j : Int)) ∧ w'.cell? ⟨w.heap.size, 3, none⟩ = some (.int .i64 (a : Int)))) [(0, true), (1, true), (2, true), (3, true), (4, true), (5, true), (6, true), (7, true), (8, true), (9, false), (10, true)] (by kernel_rfl) (by kernel_rfl) (by kernel_rfl) ?_ ?_
    · ((try dsimp only); (first | done | (first | exact Kset.out | exact ⟨k0, k4, k3⟩)))
    simp only [planOps, List.map_cons, List.map_nil, List.getElem?_toArray, List.getElem?_cons_zero, List.getElem?_cons_succ]
    repeat (first
      | ((refine plan_yes (v := ?_) (by rfl) ?_ ?_); rotate_left; (focus (intro w hSw; (try dsimp only at hSw); go_simp; try (with_reducible rfl))); (try simp only [Act.put, List.setIfInBounds_toArray, List.set_cons_zero, List.set_cons_succ]))
      | ((refine plan_no (by rfl) ?_); (try simp only [Act.put, List.setIfInBounds_toArray, List.set_cons_zero, List.set_cons_succ]))
      | ((refine plan_step (fun K hK => ?_)); (first | (go_simp; (go_at_call 86; refine HWR.out.mono ?_; rintro e w3 ⟨⟨rfl, S3⟩, R3⟩; have S3 := S3.perm (show _ = pts w.heap.size (dhO ⟨xi, 1, xr, (a : Int), (j : Int), xrd, true, false, xd, xm, xp⟩) * (rtHp c L qn * (rfHp cf zl * (R))) by ac_rfl); obtain ⟨kk0, kk4, kk3, kkf⟩ := HC.out _ ⟨xi, 1, xr, (a : Int), (j : Int), xrd, true, false, xd, xm, xp⟩ _ S3; have Kset := Lib.hid (And.intro kk0 (And.intro kk4 kk3)); have S3 := Lib.hid S3; have R3 := Lib.hid (Below.trans (Ran.drewN RW.out 1) R3)); (try go_wp2_with fail)) | go_simp); (refine hK.out _ _ ?_ (fun hHeld => ?_)); (focus ((try dsimp only); (first | done | (first | exact Kset.out | exact ⟨k0, k4, k3⟩)))); clear hK K; (try simp only [Act.put, List.setIfInBounds_toArray, List.set_cons_zero, List.set_cons_succ])))
    refine plan_done ?_
    clear k0 k4 k3 kf HWR SW RW kk0 kk4 Kset
    go_upto_region 20 with fail
    obtain ⟨q2, q3, q4, qf, q5⟩ := HD.out _ ⟨xi, 1, xr, (a : Int), (j : Int), xrd, true, false, xd, xm, xp⟩ _ S3.out
    have R4 := R3.out
    have S9 := Lib.hid q5
    have R9 := Lib.hid R4
    clear q5 R4 S3 R3 kk3 kkf HC HD
    go_still_tail 9, (by kernel_rfl)
    go_wp2_with fail
    go_ret
    exact ⟨⟨rfl, S9.out⟩, Ran.set (Ran.drewN R9.out 1) _ _⟩
set_option maxRecDepth 100000 in
set_option maxHeartbeats 4000000 in
/-- Write of a file, at its end. -/
theorem RWrite_more (id : Int) (d : ByteArray) (i a j : Nat) (hrf : c.rf = cf.fb) (hL : L.length ≤ 1000000) (hi : i < L.length) (hp : placeN L id 0 = (i : Int)) (hkd : L[i].kind = 1) (hpt : L[i].pt = true) (hmo : L[i].mo = true) (hnd : L[i].node = (j : Int)) (hj1 : 1 ≤ j) (hj : j < N.length) (hN2 : N.length ≤ 2000) (hzz : sizD (N.drop 1) ≤ 100000000) (hr : 0 ≤ cf.room ∧ cf.room ≤ 1000000000) (hjk : N[j].kind = 2) (hjt : N[j].text.size ≤ 1000000 ∧ N[j].kn ≤ 1000000) (ha : a = N[j].text.size + N[j].kn) (ha2 : a ≤ 1000000000) (hdz : d.size ≤ 1000000000) (h : Sat w (rtHp c L qn * (rfHp cf N * R))) :
    Calls Tryz.prog 55 #[pp c.tb, .int .i64 id, .string d] w fun e w' => (e = .returned (.int .i64 (fwD cf.room N j a N[j] d).1) ∧ Sat w' (rtHp c (L.set i { L[i] with at_ := if (fwD cf.room N j a N[j] d).1 = 0 then (a : Int) + (d.size : Int) else (a : Int) }) qn * (rfHp cf (fwD cf.room N j a N[j] d).2 * R))) ∧ Ran w w' := by
  have HP := rplace_calls c L qn id hL w _ h
  rw [hp] at HP
  have HP := Lib.hid HP
  obtain ⟨c0, c1, c2, c3⟩ := rt_cells h
  obtain ⟨⟨b, o, hb⟩, hlc, hlm⟩ := rt_addr h hi
  obtain ⟨m0, m1, m2, m3, m4, m5, m6, m7, m8, m9, m10⟩ := dh_cells h hb hi
  have hbb := hb
  rw [hb] at c2
  have hcm : (c.lc : Int) ≤ 9223372036854775807 := by unfold maxLen at hlm; omega
  have hiI : (i : Int) < (L.length : Int) := by omega
  have hi0 : (0 : Int) ≤ (i : Int) := by omega
  have hLI : (L.length : Int) ≤ 1000000 := by omega
  obtain ⟨x, hx⟩ : ∃ x, x = L[i] := ⟨_, rfl⟩
  rw [← hx] at m0 m1 m2 m3 m4 m5 m6 m7 m8 m9 m10
  have HS0 := h.alloc (dhO x)
  obtain ⟨r0, r1, r2, r3, r4, r5, r6, r7, r8, r9, r10⟩ := dhO_cells HS0
  have S1 := And.intro (h.old (dhO x)) (Ran.new (Below.refl 0 w) (dhO x))
  rw [← hx] at hkd hpt hmo hnd ⊢
  have HW := (fun (W' : World) (X : Hp) (hX : Sat W' (rfHp cf N * X)) => dwrite_calls a d hj1 hj hN2 hzz hr hjk hjt.1 ha2 hdz hX)
  obtain ⟨zz, hzz2⟩ : ∃ z, z = fwD cf.room N j a N[j] d := ⟨_, rfl⟩
  rw [← hzz2] at HW ⊢
  obtain ⟨ze, zl⟩ := zz
  dsimp only at HW ⊢
  have HW := Lib.hid HW
  have HST := Lib.hid (fun (W' : World) (X : Hp) (hX : Sat W' (rfHp cf N * X)) => rstat_some hj1 hj (by omega) hjt hX)
  obtain ⟨y, hy⟩ : ∃ y, y = N[j] := ⟨_, rfl⟩
  rw [← hy] at HST ha
  rw [show ((y.text.size : Int) + (y.kn : Int)) = (a : Int) by omega] at HST
  rw [← hy] at hjt hjk
  have HC := Lib.hid (fun (W' : World) (v : DH) (X : Hp) (hX : Sat W' (pts w.heap.size (dhO v) * (rtHp c L qn * X))) => (show W'.cell? ⟨c.tb, 0, none⟩ = some (pp cf.fb) ∧ W'.cell? ⟨w.heap.size, 4, none⟩ = some (.int .i64 v.node) ∧ W'.cell? ⟨w.heap.size, 3, none⟩ = some (.int .i64 v.at_) ∧ (∀ j, W'.frozen? ⟨w.heap.size, j, none⟩ = false) by
    have e0 := (rt_cells hX.right).1
    rw [hrf] at e0
    exact ⟨e0, (dhO_cells hX).2.2.2.2.1, (dhO_cells hX).2.2.2.1, fun j => free_at hX.get j⟩))
  have HD := Lib.hid (fun (W' : World) (v : DH) (X : Hp) (hX : Sat W' (pts w.heap.size (dhO v) * (rtHp c L qn * X))) => (show W'.cell? ⟨c.tb, 2, none⟩ = some (.slice (some ⟨b, o, none⟩) L.length c.lc) ∧ W'.cell? ⟨w.heap.size, 3, none⟩ = some (.int .i64 v.at_) ∧ W'.cell? ⟨b, o + i * 11 + 3, none⟩ = some (.int .i64 x.at_) ∧ (∀ j, W'.frozen? ⟨b, j, none⟩ = false) ∧ Sat (W'.drew.setCell ⟨b, o + i * 11 + 3, none⟩ (.int .i64 v.at_)) (rtHp c (L.set i { x with at_ := v.at_ }) qn * X) by
    have e2 := (rt_cells hX.right).2.2.1
    rw [hbb] at e2
    refine ⟨e2, (dhO_cells hX).2.2.2.1, ?_, fun j => ?_, ?_⟩
    · have := (dh_cells hX.right hbb hi).2.2.2.1
      rw [← hx] at this; exact this
    · have := rt_arr hX.right; rw [hbb] at this; exact this.arr_free j
    · exact dh_set hX.right.drew hbb hi 3 (.int .i64 v.at_) { x with at_ := v.at_ } (by omega) (by rw [← hx]; rfl)))
  have haI : (a : Int) ≤ 1000000000 := by omega
  have ha0 : (0 : Int) ≤ (a : Int) := by omega
  have hdI : (d.size : Int) ≤ 1000000000 := by omega
  have hwp : IntKind.i64.wrap ((a : Int) + (d.size : Int)) = (a : Int) + (d.size : Int) := IntWalk.i64_in _ (by omega)
  have SS := h.alloc (dhO x)
  obtain ⟨xi, xk, xr, xa, xn, xrd, xpt, xmo, xd, xm, xp⟩ := x
  dsimp only at hkd hpt hmo hnd HC HD S1 HS0 SS m0 m1 m2 m3 m4 m5 m6 m7 m8 m9 m10 r0 r1 r2 r3 r4 r5 r6 r7 r8 r9 r10 ⊢
  subst hkd hpt hmo hnd
  clear h hp hx hb hbb hlm hzz2 hjk hjt hrf hzz hr SS hy ha
  have HS0 := Lib.hid (And.intro HS0 S1.2)
  clear S1
  by_cases hz0 : ze = 0
  · subst hz0
    rw [if_pos rfl]
    go_enter Tryz.func55, Tryz.ntmps55
    go_wp2_with fail
    refine HP.out.mono ?_
    rintro e w1 ⟨rfl, rfl⟩
    clear HP
    go_upto_region 15 with fail
    obtain ⟨W, hW⟩ : ∃ W, W = w.alloc (dhO ⟨xi, 1, xr, xa, (j : Int), xrd, true, true, xd, xm, xp⟩) := ⟨_, rfl⟩
    rw [← hW] at HS0 ⊢
    have SW := HS0.out.1
    have RW := Lib.hid HS0.out.2
    obtain ⟨k0, k4, k3, kf⟩ := HC.out _ ⟨xi, 1, xr, xa, (j : Int), xrd, true, true, xd, xm, xp⟩ _ SW.drew
    obtain ⟨j0, j4, j3, jf⟩ := HC.out _ ⟨xi, 1, xr, xa, (j : Int), xrd, true, true, xd, xm, xp⟩ _ (SW.old (infoD 0 0 0 0)).drew
    have HSA := Lib.hid (HST.out W.drew _ (SW.drew.perm (show _ = rfHp cf N * (pts w.heap.size (dhO ⟨xi, 1, xr, xa, (j : Int), xrd, true, true, xd, xm, xp⟩) * (rtHp c L qn * R)) by ac_rfl)))
    have HSB := Lib.hid (HST.out _ _ ((SW.alloc (infoD 0 0 0 0)).drew.perm (show _ = rfHp cf N * (pts W.heap.size (infoD 0 0 0 0) * (pts w.heap.size (dhO ⟨xi, 1, xr, xa, (j : Int), xrd, true, true, xd, xm, xp⟩) * (rtHp c L qn * R))) by ac_rfl)))
    have SW := Lib.hid SW
    clear hW HS0 r0 r1 r2 r3 r4 r5 r6 r7 r8 r9 r10 m0 m1 m2 m3 m4 m5 m6 m7 m8 m9 m10 c0 c1 c2 c3
    refine region_tree (S := (fun w' => w'.cell? ⟨c.tb, 0, none⟩ = some (pp cf.fb) ∧ w'.cell? ⟨w.heap.size, 4, none⟩ = some (.int .i64 (j : Int)))) (.take 0 (.take 1 (.take 2 (.take 3 (.take 4 (.take 5 (.fork 6 (.take 7 (.take 8 (.take 9 (.step 10 (.step 11 (.take 12 (.nil))))))) 10 (.step 6 (.take 7 (.take 8 (.take 9 (.step 11 (.take 12 (.nil)))))))))))))) (by kernel_rfl) (by kernel_rfl) (by kernel_rfl) ?_ ?_
    · ((try dsimp only); (first | done | (first | with_reducible exact ⟨k0, k4⟩ | with_reducible exact ⟨j0, j4⟩ | with_reducible exact ⟨k5, k54⟩ | with_reducible exact k6 _ | with_reducible exact ⟨k7, k74⟩ | with_reducible exact Kset.out)))
    simp only [Plan.ops, List.getElem?_toArray, List.getElem?_cons_zero, List.getElem?_cons_succ]
    ((first | ((refine tree_yes (v := ?_) (by rfl) ?_ ?_); rotate_left; (focus (intro w hSw; (try dsimp only at hSw); go_simp; try (with_reducible rfl)))) | (refine tree_no (by rfl) ?_)); (try simp only [Act.put, List.setIfInBounds_toArray, List.set_cons_zero, List.set_cons_succ]))
    ((first | ((refine tree_yes (v := ?_) (by rfl) ?_ ?_); rotate_left; (focus (intro w hSw; (try dsimp only at hSw); go_simp; try (with_reducible rfl)))) | (refine tree_no (by rfl) ?_)); (try simp only [Act.put, List.setIfInBounds_toArray, List.set_cons_zero, List.set_cons_succ]))
    ((first | ((refine tree_yes (v := ?_) (by rfl) ?_ ?_); rotate_left; (focus (intro w hSw; (try dsimp only at hSw); go_simp; try (with_reducible rfl)))) | (refine tree_no (by rfl) ?_)); (try simp only [Act.put, List.setIfInBounds_toArray, List.set_cons_zero, List.set_cons_succ]))
    ((first | ((refine tree_yes (v := ?_) (by rfl) ?_ ?_); rotate_left; (focus (intro w hSw; (try dsimp only at hSw); go_simp; try (with_reducible rfl)))) | (refine tree_no (by rfl) ?_)); (try simp only [Act.put, List.setIfInBounds_toArray, List.set_cons_zero, List.set_cons_succ]))
    ((first | ((refine tree_yes (v := ?_) (by rfl) ?_ ?_); rotate_left; (focus (intro w hSw; (try dsimp only at hSw); go_simp; try (with_reducible rfl)))) | (refine tree_no (by rfl) ?_)); (try simp only [Act.put, List.setIfInBounds_toArray, List.set_cons_zero, List.set_cons_succ]))
    ((first | ((refine tree_yes (v := ?_) (by rfl) ?_ ?_); rotate_left; (focus (intro w hSw; (try dsimp only at hSw); go_simp; try (with_reducible rfl)))) | (refine tree_no (by rfl) ?_)); (try simp only [Act.put, List.setIfInBounds_toArray, List.set_cons_zero, List.set_cons_succ]))
    refine tree_fork (fun K hK => ?_) (fun K hK => ?_)
    focus
      ((first | (go_simp; (first | (go_at_call 76; refine HSA.out.mono ?_; rintro e w8 ⟨⟨rfl, S8⟩, R8⟩; have S8 := S8.perm (show _ = pts w.heap.size (dhO ⟨xi, 1, xr, xa, (j : Int), xrd, true, true, xd, xm, xp⟩) * (rtHp c L qn * (rfHp cf N * R)) by ac_rfl); obtain ⟨k5, k54, -, -⟩ := HC.out _ ⟨xi, 1, xr, xa, (j : Int), xrd, true, true, xd, xm, xp⟩ _ S8; have k6 := (fun o => (And.intro (HC.out _ ⟨xi, 1, xr, xa, (j : Int), xrd, true, true, xd, xm, xp⟩ _ (S8.old o)).1 (HC.out _ ⟨xi, 1, xr, xa, (j : Int), xrd, true, true, xd, xm, xp⟩ _ (S8.old o)).2.1)); have S8 := Lib.hid S8; have R8 := Lib.hid R8) | (go_at_call 76; refine HSB.out.mono ?_; rintro e w8 ⟨⟨rfl, S8⟩, R8⟩; have S8 := S8.perm (show _ = pts W.heap.size (infoD 0 0 0 0) * (pts w.heap.size (dhO ⟨xi, 1, xr, xa, (j : Int), xrd, true, true, xd, xm, xp⟩) * (rtHp c L qn * (rfHp cf N * R))) by ac_rfl); obtain ⟨k7, k74, -, -⟩ := HC.out _ ⟨xi, 1, xr, xa, (j : Int), xrd, true, true, xd, xm, xp⟩ _ S8.right; obtain ⟨z0, z1, z2, z3⟩ := infoD_cells S8; have f0b : ∀ i, w8.frozen? ⟨W.heap.size, i, none⟩ = false := (fun i => free_at S8.get i); have S8c := (((S8.set (i := 0) (.int .i64 y.kind)).set (i := 1) (.int .i64 (a : Int))).set (i := 2) (.int .i64 y.names)).set (i := 3) (.int .i64 y.holds); obtain ⟨m7, m74, -, -⟩ := HC.out _ ⟨xi, 1, xr, xa, (j : Int), xrd, true, true, xd, xm, xp⟩ _ S8c.right; have Kset := Lib.hid (And.intro m7 m74); have S8b := Lib.hid S8c; have R8 := Lib.hid R8; clear S8c)); (try go_wp2_with fail)) | go_simp); (refine hK.out _ _ ?_ (fun hHeld => ?_)); (focus ((try dsimp only); (first | done | (first | with_reducible exact ⟨k0, k4⟩ | with_reducible exact ⟨j0, j4⟩ | with_reducible exact ⟨k5, k54⟩ | with_reducible exact k6 _ | with_reducible exact ⟨k7, k74⟩ | with_reducible exact Kset.out)))); clear hK K; (try simp only [Act.put, List.setIfInBounds_toArray, List.set_cons_zero, List.set_cons_succ]))
      ((first | ((refine tree_yes (v := ?_) (by rfl) ?_ ?_); rotate_left; (focus (intro w hSw; (try dsimp only at hSw); go_simp; try (with_reducible rfl)))) | (refine tree_no (by rfl) ?_)); (try simp only [Act.put, List.setIfInBounds_toArray, List.set_cons_zero, List.set_cons_succ]))
      ((first | ((refine tree_yes (v := ?_) (by rfl) ?_ ?_); rotate_left; (focus (intro w hSw; (try dsimp only at hSw); go_simp; try (with_reducible rfl)))) | (refine tree_no (by rfl) ?_)); (try simp only [Act.put, List.setIfInBounds_toArray, List.set_cons_zero, List.set_cons_succ]))
      ((first | ((refine tree_yes (v := ?_) (by rfl) ?_ ?_); rotate_left; (focus (intro w hSw; (try dsimp only at hSw); go_simp; try (with_reducible rfl)))) | (refine tree_no (by rfl) ?_)); (try simp only [Act.put, List.setIfInBounds_toArray, List.set_cons_zero, List.set_cons_succ]))
      ((refine tree_step (fun K hK => ?_)); (first | (go_simp; (first | (go_at_call 76; refine HSA.out.mono ?_; rintro e w8 ⟨⟨rfl, S8⟩, R8⟩; have S8 := S8.perm (show _ = pts w.heap.size (dhO ⟨xi, 1, xr, xa, (j : Int), xrd, true, true, xd, xm, xp⟩) * (rtHp c L qn * (rfHp cf N * R)) by ac_rfl); obtain ⟨k5, k54, -, -⟩ := HC.out _ ⟨xi, 1, xr, xa, (j : Int), xrd, true, true, xd, xm, xp⟩ _ S8; have k6 := (fun o => (And.intro (HC.out _ ⟨xi, 1, xr, xa, (j : Int), xrd, true, true, xd, xm, xp⟩ _ (S8.old o)).1 (HC.out _ ⟨xi, 1, xr, xa, (j : Int), xrd, true, true, xd, xm, xp⟩ _ (S8.old o)).2.1)); have S8 := Lib.hid S8; have R8 := Lib.hid R8) | (go_at_call 76; refine HSB.out.mono ?_; rintro e w8 ⟨⟨rfl, S8⟩, R8⟩; have S8 := S8.perm (show _ = pts W.heap.size (infoD 0 0 0 0) * (pts w.heap.size (dhO ⟨xi, 1, xr, xa, (j : Int), xrd, true, true, xd, xm, xp⟩) * (rtHp c L qn * (rfHp cf N * R))) by ac_rfl); obtain ⟨k7, k74, -, -⟩ := HC.out _ ⟨xi, 1, xr, xa, (j : Int), xrd, true, true, xd, xm, xp⟩ _ S8.right; obtain ⟨z0, z1, z2, z3⟩ := infoD_cells S8; have f0b : ∀ i, w8.frozen? ⟨W.heap.size, i, none⟩ = false := (fun i => free_at S8.get i); have S8c := (((S8.set (i := 0) (.int .i64 y.kind)).set (i := 1) (.int .i64 (a : Int))).set (i := 2) (.int .i64 y.names)).set (i := 3) (.int .i64 y.holds); obtain ⟨m7, m74, -, -⟩ := HC.out _ ⟨xi, 1, xr, xa, (j : Int), xrd, true, true, xd, xm, xp⟩ _ S8c.right; have Kset := Lib.hid (And.intro m7 m74); have S8b := Lib.hid S8c; have R8 := Lib.hid R8; clear S8c)); (try go_wp2_with fail)) | go_simp); (refine hK.out _ _ ?_ (fun hHeld => ?_)); (focus ((try dsimp only); (first | done | (first | with_reducible exact ⟨k0, k4⟩ | with_reducible exact ⟨j0, j4⟩ | with_reducible exact ⟨k5, k54⟩ | with_reducible exact k6 _ | with_reducible exact ⟨k7, k74⟩ | with_reducible exact Kset.out)))); clear hK K; (try simp only [Act.put, List.setIfInBounds_toArray, List.set_cons_zero, List.set_cons_succ]))
      ((refine tree_step (fun K hK => ?_)); (first | (go_simp; (first | (go_at_call 76; refine HSA.out.mono ?_; rintro e w8 ⟨⟨rfl, S8⟩, R8⟩; have S8 := S8.perm (show _ = pts w.heap.size (dhO ⟨xi, 1, xr, xa, (j : Int), xrd, true, true, xd, xm, xp⟩) * (rtHp c L qn * (rfHp cf N * R)) by ac_rfl); obtain ⟨k5, k54, -, -⟩ := HC.out _ ⟨xi, 1, xr, xa, (j : Int), xrd, true, true, xd, xm, xp⟩ _ S8; have k6 := (fun o => (And.intro (HC.out _ ⟨xi, 1, xr, xa, (j : Int), xrd, true, true, xd, xm, xp⟩ _ (S8.old o)).1 (HC.out _ ⟨xi, 1, xr, xa, (j : Int), xrd, true, true, xd, xm, xp⟩ _ (S8.old o)).2.1)); have S8 := Lib.hid S8; have R8 := Lib.hid R8) | (go_at_call 76; refine HSB.out.mono ?_; rintro e w8 ⟨⟨rfl, S8⟩, R8⟩; have S8 := S8.perm (show _ = pts W.heap.size (infoD 0 0 0 0) * (pts w.heap.size (dhO ⟨xi, 1, xr, xa, (j : Int), xrd, true, true, xd, xm, xp⟩) * (rtHp c L qn * (rfHp cf N * R))) by ac_rfl); obtain ⟨k7, k74, -, -⟩ := HC.out _ ⟨xi, 1, xr, xa, (j : Int), xrd, true, true, xd, xm, xp⟩ _ S8.right; obtain ⟨z0, z1, z2, z3⟩ := infoD_cells S8; have f0b : ∀ i, w8.frozen? ⟨W.heap.size, i, none⟩ = false := (fun i => free_at S8.get i); have S8c := (((S8.set (i := 0) (.int .i64 y.kind)).set (i := 1) (.int .i64 (a : Int))).set (i := 2) (.int .i64 y.names)).set (i := 3) (.int .i64 y.holds); obtain ⟨m7, m74, -, -⟩ := HC.out _ ⟨xi, 1, xr, xa, (j : Int), xrd, true, true, xd, xm, xp⟩ _ S8c.right; have Kset := Lib.hid (And.intro m7 m74); have S8b := Lib.hid S8c; have R8 := Lib.hid R8; clear S8c)); (try go_wp2_with fail)) | go_simp); (refine hK.out _ _ ?_ (fun hHeld => ?_)); (focus ((try dsimp only); (first | done | (first | with_reducible exact ⟨k0, k4⟩ | with_reducible exact ⟨j0, j4⟩ | with_reducible exact ⟨k5, k54⟩ | with_reducible exact k6 _ | with_reducible exact ⟨k7, k74⟩ | with_reducible exact Kset.out)))); clear hK K; (try simp only [Act.put, List.setIfInBounds_toArray, List.set_cons_zero, List.set_cons_succ]))
      ((first | ((refine tree_yes (v := ?_) (by rfl) ?_ ?_); rotate_left; (focus (intro w hSw; (try dsimp only at hSw); go_simp; try (with_reducible rfl)))) | (refine tree_no (by rfl) ?_)); (try simp only [Act.put, List.setIfInBounds_toArray, List.set_cons_zero, List.set_cons_succ]))
      refine tree_done ?_
    rotate_left 1
    focus
      ((first | (go_simp; (first | (go_at_call 76; refine HSA.out.mono ?_; rintro e w8 ⟨⟨rfl, S8⟩, R8⟩; have S8 := S8.perm (show _ = pts w.heap.size (dhO ⟨xi, 1, xr, xa, (j : Int), xrd, true, true, xd, xm, xp⟩) * (rtHp c L qn * (rfHp cf N * R)) by ac_rfl); obtain ⟨k5, k54, -, -⟩ := HC.out _ ⟨xi, 1, xr, xa, (j : Int), xrd, true, true, xd, xm, xp⟩ _ S8; have k6 := (fun o => (And.intro (HC.out _ ⟨xi, 1, xr, xa, (j : Int), xrd, true, true, xd, xm, xp⟩ _ (S8.old o)).1 (HC.out _ ⟨xi, 1, xr, xa, (j : Int), xrd, true, true, xd, xm, xp⟩ _ (S8.old o)).2.1)); have S8 := Lib.hid S8; have R8 := Lib.hid R8) | (go_at_call 76; refine HSB.out.mono ?_; rintro e w8 ⟨⟨rfl, S8⟩, R8⟩; have S8 := S8.perm (show _ = pts W.heap.size (infoD 0 0 0 0) * (pts w.heap.size (dhO ⟨xi, 1, xr, xa, (j : Int), xrd, true, true, xd, xm, xp⟩) * (rtHp c L qn * (rfHp cf N * R))) by ac_rfl); obtain ⟨k7, k74, -, -⟩ := HC.out _ ⟨xi, 1, xr, xa, (j : Int), xrd, true, true, xd, xm, xp⟩ _ S8.right; obtain ⟨z0, z1, z2, z3⟩ := infoD_cells S8; have f0b : ∀ i, w8.frozen? ⟨W.heap.size, i, none⟩ = false := (fun i => free_at S8.get i); have S8c := (((S8.set (i := 0) (.int .i64 y.kind)).set (i := 1) (.int .i64 (a : Int))).set (i := 2) (.int .i64 y.names)).set (i := 3) (.int .i64 y.holds); obtain ⟨m7, m74, -, -⟩ := HC.out _ ⟨xi, 1, xr, xa, (j : Int), xrd, true, true, xd, xm, xp⟩ _ S8c.right; have Kset := Lib.hid (And.intro m7 m74); have S8b := Lib.hid S8c; have R8 := Lib.hid R8; clear S8c)); (try go_wp2_with fail)) | go_simp); (refine hK.out _ _ ?_ (fun hHeld => ?_)); (focus ((try dsimp only); (first | done | (first | with_reducible exact ⟨k0, k4⟩ | with_reducible exact ⟨j0, j4⟩ | with_reducible exact ⟨k5, k54⟩ | with_reducible exact k6 _ | with_reducible exact ⟨k7, k74⟩ | with_reducible exact Kset.out)))); clear hK K; (try simp only [Act.put, List.setIfInBounds_toArray, List.set_cons_zero, List.set_cons_succ]))
      ((refine tree_step (fun K hK => ?_)); (first | (go_simp; (first | (go_at_call 76; refine HSA.out.mono ?_; rintro e w8 ⟨⟨rfl, S8⟩, R8⟩; have S8 := S8.perm (show _ = pts w.heap.size (dhO ⟨xi, 1, xr, xa, (j : Int), xrd, true, true, xd, xm, xp⟩) * (rtHp c L qn * (rfHp cf N * R)) by ac_rfl); obtain ⟨k5, k54, -, -⟩ := HC.out _ ⟨xi, 1, xr, xa, (j : Int), xrd, true, true, xd, xm, xp⟩ _ S8; have k6 := (fun o => (And.intro (HC.out _ ⟨xi, 1, xr, xa, (j : Int), xrd, true, true, xd, xm, xp⟩ _ (S8.old o)).1 (HC.out _ ⟨xi, 1, xr, xa, (j : Int), xrd, true, true, xd, xm, xp⟩ _ (S8.old o)).2.1)); have S8 := Lib.hid S8; have R8 := Lib.hid R8) | (go_at_call 76; refine HSB.out.mono ?_; rintro e w8 ⟨⟨rfl, S8⟩, R8⟩; have S8 := S8.perm (show _ = pts W.heap.size (infoD 0 0 0 0) * (pts w.heap.size (dhO ⟨xi, 1, xr, xa, (j : Int), xrd, true, true, xd, xm, xp⟩) * (rtHp c L qn * (rfHp cf N * R))) by ac_rfl); obtain ⟨k7, k74, -, -⟩ := HC.out _ ⟨xi, 1, xr, xa, (j : Int), xrd, true, true, xd, xm, xp⟩ _ S8.right; obtain ⟨z0, z1, z2, z3⟩ := infoD_cells S8; have f0b : ∀ i, w8.frozen? ⟨W.heap.size, i, none⟩ = false := (fun i => free_at S8.get i); have S8c := (((S8.set (i := 0) (.int .i64 y.kind)).set (i := 1) (.int .i64 (a : Int))).set (i := 2) (.int .i64 y.names)).set (i := 3) (.int .i64 y.holds); obtain ⟨m7, m74, -, -⟩ := HC.out _ ⟨xi, 1, xr, xa, (j : Int), xrd, true, true, xd, xm, xp⟩ _ S8c.right; have Kset := Lib.hid (And.intro m7 m74); have S8b := Lib.hid S8c; have R8 := Lib.hid R8; clear S8c)); (try go_wp2_with fail)) | go_simp); (refine hK.out _ _ ?_ (fun hHeld => ?_)); (focus ((try dsimp only); (first | done | (first | with_reducible exact ⟨k0, k4⟩ | with_reducible exact ⟨j0, j4⟩ | with_reducible exact ⟨k5, k54⟩ | with_reducible exact k6 _ | with_reducible exact ⟨k7, k74⟩ | with_reducible exact Kset.out)))); clear hK K; (try simp only [Act.put, List.setIfInBounds_toArray, List.set_cons_zero, List.set_cons_succ]))
      ((first | ((refine tree_yes (v := ?_) (by rfl) ?_ ?_); rotate_left; (focus (intro w hSw; (try dsimp only at hSw); go_simp; try (with_reducible rfl)))) | (refine tree_no (by rfl) ?_)); (try simp only [Act.put, List.setIfInBounds_toArray, List.set_cons_zero, List.set_cons_succ]))
      ((first | ((refine tree_yes (v := ?_) (by rfl) ?_ ?_); rotate_left; (focus (intro w hSw; (try dsimp only at hSw); go_simp; try (with_reducible rfl)))) | (refine tree_no (by rfl) ?_)); (try simp only [Act.put, List.setIfInBounds_toArray, List.set_cons_zero, List.set_cons_succ]))
      ((first | ((refine tree_yes (v := ?_) (by rfl) ?_ ?_); rotate_left; (focus (intro w hSw; (try dsimp only at hSw); go_simp; try (with_reducible rfl)))) | (refine tree_no (by rfl) ?_)); (try simp only [Act.put, List.setIfInBounds_toArray, List.set_cons_zero, List.set_cons_succ]))
      ((refine tree_step (fun K hK => ?_)); (first | (go_simp; (first | (go_at_call 76; refine HSA.out.mono ?_; rintro e w8 ⟨⟨rfl, S8⟩, R8⟩; have S8 := S8.perm (show _ = pts w.heap.size (dhO ⟨xi, 1, xr, xa, (j : Int), xrd, true, true, xd, xm, xp⟩) * (rtHp c L qn * (rfHp cf N * R)) by ac_rfl); obtain ⟨k5, k54, -, -⟩ := HC.out _ ⟨xi, 1, xr, xa, (j : Int), xrd, true, true, xd, xm, xp⟩ _ S8; have k6 := (fun o => (And.intro (HC.out _ ⟨xi, 1, xr, xa, (j : Int), xrd, true, true, xd, xm, xp⟩ _ (S8.old o)).1 (HC.out _ ⟨xi, 1, xr, xa, (j : Int), xrd, true, true, xd, xm, xp⟩ _ (S8.old o)).2.1)); have S8 := Lib.hid S8; have R8 := Lib.hid R8) | (go_at_call 76; refine HSB.out.mono ?_; rintro e w8 ⟨⟨rfl, S8⟩, R8⟩; have S8 := S8.perm (show _ = pts W.heap.size (infoD 0 0 0 0) * (pts w.heap.size (dhO ⟨xi, 1, xr, xa, (j : Int), xrd, true, true, xd, xm, xp⟩) * (rtHp c L qn * (rfHp cf N * R))) by ac_rfl); obtain ⟨k7, k74, -, -⟩ := HC.out _ ⟨xi, 1, xr, xa, (j : Int), xrd, true, true, xd, xm, xp⟩ _ S8.right; obtain ⟨z0, z1, z2, z3⟩ := infoD_cells S8; have f0b : ∀ i, w8.frozen? ⟨W.heap.size, i, none⟩ = false := (fun i => free_at S8.get i); have S8c := (((S8.set (i := 0) (.int .i64 y.kind)).set (i := 1) (.int .i64 (a : Int))).set (i := 2) (.int .i64 y.names)).set (i := 3) (.int .i64 y.holds); obtain ⟨m7, m74, -, -⟩ := HC.out _ ⟨xi, 1, xr, xa, (j : Int), xrd, true, true, xd, xm, xp⟩ _ S8c.right; have Kset := Lib.hid (And.intro m7 m74); have S8b := Lib.hid S8c; have R8 := Lib.hid R8; clear S8c)); (try go_wp2_with fail)) | go_simp); (refine hK.out _ _ ?_ (fun hHeld => ?_)); (focus ((try dsimp only); (first | done | (first | with_reducible exact ⟨k0, k4⟩ | with_reducible exact ⟨j0, j4⟩ | with_reducible exact ⟨k5, k54⟩ | with_reducible exact k6 _ | with_reducible exact ⟨k7, k74⟩ | with_reducible exact Kset.out)))); clear hK K; (try simp only [Act.put, List.setIfInBounds_toArray, List.set_cons_zero, List.set_cons_succ]))
      ((first | ((refine tree_yes (v := ?_) (by rfl) ?_ ?_); rotate_left; (focus (intro w hSw; (try dsimp only at hSw); go_simp; try (with_reducible rfl)))) | (refine tree_no (by rfl) ?_)); (try simp only [Act.put, List.setIfInBounds_toArray, List.set_cons_zero, List.set_cons_succ]))
      refine tree_done ?_
    all_goals
      first
      | (have R9 := Ran.new (Below.trans (Ran.drewN RW.out 1) R8.out) (infoD y.kind (a : Int) y.names y.holds); have S9 := S8.out.alloc (infoD y.kind (a : Int) y.names y.holds); obtain ⟨w6, hw6⟩ : ∃ w6, w6 = w8.alloc (infoD y.kind (a : Int) y.names y.holds) := ⟨_, rfl⟩; obtain ⟨ib, hib⟩ : ∃ ib, ib = w8.heap.size := ⟨_, rfl⟩; rw [← hw6] at R9 S9 ⊢; rw [← hib] at S9 ⊢)
      | (have R9 := Ran.set (Ran.set (Ran.set (Ran.set (Below.trans (Ran.drewN (Ran.new RW.out (infoD 0 0 0 0)) 1) R8.out) ⟨W.heap.size, 0, none⟩ (.int .i64 y.kind)) ⟨W.heap.size, 1, none⟩ (.int .i64 (a : Int))) ⟨W.heap.size, 2, none⟩ (.int .i64 y.names)) ⟨W.heap.size, 3, none⟩ (.int .i64 y.holds); have S9 := S8b.out; obtain ⟨w6, hw6⟩ : ∃ w6, w6 = ((((w8.setCell ⟨W.heap.size, 0, none⟩ (.int .i64 y.kind)).setCell ⟨W.heap.size, 1, none⟩ (.int .i64 (a : Int))).setCell ⟨W.heap.size, 2, none⟩ (.int .i64 y.names)).setCell ⟨W.heap.size, 3, none⟩ (.int .i64 y.holds)) := ⟨_, rfl⟩; obtain ⟨ib, hib⟩ : ∃ ib, ib = W.heap.size := ⟨_, rfl⟩; rw [← hw6] at R9 S9 ⊢; rw [← hib] at S9 ⊢)
    all_goals
      have S9 : Sat w6 (pts ib (infoD y.kind (a : Int) y.names y.holds) * (pts w.heap.size (dhO ⟨xi, 1, xr, xa, (j : Int), xrd, true, true, xd, xm, xp⟩) * (rtHp c L qn * (rfHp cf N * R)))) := S9
      have S7 := S9.perm (show _ = pts w.heap.size (dhO ⟨xi, 1, xr, xa, (j : Int), xrd, true, true, xd, xm, xp⟩) * (rtHp c L qn * (rfHp cf N * (pts ib (infoD y.kind (a : Int) y.names y.holds) * R))) by ac_rfl)
      obtain ⟨-, -, g3, gf⟩ := HC.out _ ⟨xi, 1, xr, xa, (j : Int), xrd, true, true, xd, xm, xp⟩ _ S7
      have i1 := (infoD_cells S9).2.1
      have SX : Sat _ (pts w.heap.size (dhO ⟨xi, 1, xr, (a : Int), (j : Int), xrd, true, true, xd, xm, xp⟩) * _) := S7.set (i := 3) (.int .i64 (a : Int))
      have RX := Lib.hid (Ran.set R9 ⟨w.heap.size, 3, none⟩ (.int .i64 (a : Int)))
      have SX := Lib.hid SX
      clear S9 S7 R9 hw6 hib k0 k4 k3 kf j0 j4 j3 jf HSA HSB SW RW HST
      go_upto_region 17 with fail
      obtain ⟨W2, hW2⟩ : ∃ W2, W2 = w6.setCell ⟨w.heap.size, 3, none⟩ (.int .i64 (a : Int)) := ⟨_, rfl⟩
      rw [← hW2] at SX RX ⊢
      have SW := SX
      have RW := RX
      clear hW2 SX RX g3 gf i1
      obtain ⟨k0, k4, k3, kf⟩ := HC.out _ ⟨xi, 1, xr, (a : Int), (j : Int), xrd, true, true, xd, xm, xp⟩ _ SW.out.drew
      have HWR := Lib.hid (HW.out _ _ (SW.out.drew.perm (show _ = rfHp cf N * (pts w.heap.size (dhO ⟨xi, 1, xr, (a : Int), (j : Int), xrd, true, true, xd, xm, xp⟩) * (rtHp c L qn * (pts ib (infoD y.kind (a : Int) y.names y.holds) * R))) by ac_rfl)))
      refine region_plan (S := (fun w' => w'.cell? ⟨c.tb, 0, none⟩ = some (pp cf.fb) ∧ w'.cell? ⟨w.heap.size, 4, none⟩ = some (.int .i64 (j : Int)) ∧ w'.cell? ⟨w.heap.size, 3, none⟩ = some (.int .i64 (a : Int)))) [(0, true), (1, true), (2, true), (3, true), (4, true), (5, true), (6, true), (7, true), (8, true), (9, false), (10, true)] (by kernel_rfl) (by kernel_rfl) (by kernel_rfl) ?_ ?_
      · ((try dsimp only); (first | done | (first | exact Kset.out | exact ⟨k0, k4, k3⟩)))
      simp only [planOps, List.map_cons, List.map_nil, List.getElem?_toArray, List.getElem?_cons_zero, List.getElem?_cons_succ]
      repeat (first
        | ((refine plan_yes (v := ?_) (by rfl) ?_ ?_); rotate_left; (focus (intro w hSw; (try dsimp only at hSw); go_simp; try (with_reducible rfl))); (try simp only [Act.put, List.setIfInBounds_toArray, List.set_cons_zero, List.set_cons_succ]))
        | ((refine plan_no (by rfl) ?_); (try simp only [Act.put, List.setIfInBounds_toArray, List.set_cons_zero, List.set_cons_succ]))
        | ((refine plan_step (fun K hK => ?_)); (first | (go_simp; (go_at_call 86; refine HWR.out.mono ?_; rintro e w3 ⟨⟨rfl, S3⟩, R3⟩; have S3 := S3.perm (show _ = pts w.heap.size (dhO ⟨xi, 1, xr, (a : Int), (j : Int), xrd, true, true, xd, xm, xp⟩) * (rtHp c L qn * (rfHp cf zl * (pts ib (infoD y.kind (a : Int) y.names y.holds) * R))) by ac_rfl); obtain ⟨kk0, kk4, kk3, kkf⟩ := HC.out _ ⟨xi, 1, xr, (a : Int), (j : Int), xrd, true, true, xd, xm, xp⟩ _ S3; have Kset := Lib.hid (And.intro kk0 (And.intro kk4 kk3)); have S3 := Lib.hid S3; have R3 := Lib.hid (Below.trans (Ran.drewN RW.out 1) R3)); (try go_wp2_with fail)) | go_simp); (refine hK.out _ _ ?_ (fun hHeld => ?_)); (focus ((try dsimp only); (first | done | (first | exact Kset.out | exact ⟨k0, k4, k3⟩)))); clear hK K; (try simp only [Act.put, List.setIfInBounds_toArray, List.set_cons_zero, List.set_cons_succ])))
      refine plan_done ?_
      clear k0 k4 k3 kf HWR SW RW kk0 kk4 Kset
      go_upto_region 20 with fail
      obtain ⟨W4, hW4⟩ : ∃ W4, W4 = w3.setCell ⟨w.heap.size, 3, none⟩ (.int .i64 ((a : Int) + (d.size : Int))) := ⟨_, rfl⟩
      have S4 : Sat _ (pts w.heap.size (dhO ⟨xi, 1, xr, (a : Int) + (d.size : Int), (j : Int), xrd, true, true, xd, xm, xp⟩) * _) := S3.out.set (i := 3) (.int .i64 ((a : Int) + (d.size : Int)))
      have R4 := Ran.set R3.out ⟨w.heap.size, 3, none⟩ (.int .i64 ((a : Int) + (d.size : Int)))
      rw [← hW4] at S4 R4 ⊢
      obtain ⟨q2, q3, q4, qf, q5⟩ := HD.out _ ⟨xi, 1, xr, (a : Int) + (d.size : Int), (j : Int), xrd, true, true, xd, xm, xp⟩ _ S4
      have S9 := Lib.hid q5
      have R9 := Lib.hid R4
      clear q5 R4 S3 R3 kk3 kkf HC HD hW4 S4
      go_still_tail 9, (by kernel_rfl)
      go_wp2_with fail
      go_ret
      exact ⟨⟨rfl, (S9.out.perm (show _ = pts ib (infoD y.kind (a : Int) y.names y.holds) * (rtHp c (L.set i (⟨xi, 1, xr, (a : Int) + (d.size : Int), (j : Int), xrd, true, true, xd, xm, xp⟩ : DH)) qn * (rfHp cf zl * R)) by ac_rfl)).right⟩, Ran.set (Ran.drewN R9.out 1) _ _⟩
  · rw [if_neg hz0]
    have hzb : (ze == 0) = false := by simp [hz0]
    go_enter Tryz.func55, Tryz.ntmps55
    go_wp2_with fail
    refine HP.out.mono ?_
    rintro e w1 ⟨rfl, rfl⟩
    clear HP
    go_upto_region 15 with fail
    obtain ⟨W, hW⟩ : ∃ W, W = w.alloc (dhO ⟨xi, 1, xr, xa, (j : Int), xrd, true, true, xd, xm, xp⟩) := ⟨_, rfl⟩
    rw [← hW] at HS0 ⊢
    have SW := HS0.out.1
    have RW := Lib.hid HS0.out.2
    obtain ⟨k0, k4, k3, kf⟩ := HC.out _ ⟨xi, 1, xr, xa, (j : Int), xrd, true, true, xd, xm, xp⟩ _ SW.drew
    obtain ⟨j0, j4, j3, jf⟩ := HC.out _ ⟨xi, 1, xr, xa, (j : Int), xrd, true, true, xd, xm, xp⟩ _ (SW.old (infoD 0 0 0 0)).drew
    have HSA := Lib.hid (HST.out W.drew _ (SW.drew.perm (show _ = rfHp cf N * (pts w.heap.size (dhO ⟨xi, 1, xr, xa, (j : Int), xrd, true, true, xd, xm, xp⟩) * (rtHp c L qn * R)) by ac_rfl)))
    have HSB := Lib.hid (HST.out _ _ ((SW.alloc (infoD 0 0 0 0)).drew.perm (show _ = rfHp cf N * (pts W.heap.size (infoD 0 0 0 0) * (pts w.heap.size (dhO ⟨xi, 1, xr, xa, (j : Int), xrd, true, true, xd, xm, xp⟩) * (rtHp c L qn * R))) by ac_rfl)))
    have SW := Lib.hid SW
    clear hW HS0 r0 r1 r2 r3 r4 r5 r6 r7 r8 r9 r10 m0 m1 m2 m3 m4 m5 m6 m7 m8 m9 m10 c0 c1 c2 c3
    refine region_tree (S := (fun w' => w'.cell? ⟨c.tb, 0, none⟩ = some (pp cf.fb) ∧ w'.cell? ⟨w.heap.size, 4, none⟩ = some (.int .i64 (j : Int)))) (.take 0 (.take 1 (.take 2 (.take 3 (.take 4 (.take 5 (.fork 6 (.take 7 (.take 8 (.take 9 (.step 10 (.step 11 (.take 12 (.nil))))))) 10 (.step 6 (.take 7 (.take 8 (.take 9 (.step 11 (.take 12 (.nil)))))))))))))) (by kernel_rfl) (by kernel_rfl) (by kernel_rfl) ?_ ?_
    · ((try dsimp only); (first | done | (first | with_reducible exact ⟨k0, k4⟩ | with_reducible exact ⟨j0, j4⟩ | with_reducible exact ⟨k5, k54⟩ | with_reducible exact k6 _ | with_reducible exact ⟨k7, k74⟩ | with_reducible exact Kset.out)))
    simp only [Plan.ops, List.getElem?_toArray, List.getElem?_cons_zero, List.getElem?_cons_succ]
    ((first | ((refine tree_yes (v := ?_) (by rfl) ?_ ?_); rotate_left; (focus (intro w hSw; (try dsimp only at hSw); go_simp; try (with_reducible rfl)))) | (refine tree_no (by rfl) ?_)); (try simp only [Act.put, List.setIfInBounds_toArray, List.set_cons_zero, List.set_cons_succ]))
    ((first | ((refine tree_yes (v := ?_) (by rfl) ?_ ?_); rotate_left; (focus (intro w hSw; (try dsimp only at hSw); go_simp; try (with_reducible rfl)))) | (refine tree_no (by rfl) ?_)); (try simp only [Act.put, List.setIfInBounds_toArray, List.set_cons_zero, List.set_cons_succ]))
    ((first | ((refine tree_yes (v := ?_) (by rfl) ?_ ?_); rotate_left; (focus (intro w hSw; (try dsimp only at hSw); go_simp; try (with_reducible rfl)))) | (refine tree_no (by rfl) ?_)); (try simp only [Act.put, List.setIfInBounds_toArray, List.set_cons_zero, List.set_cons_succ]))
    ((first | ((refine tree_yes (v := ?_) (by rfl) ?_ ?_); rotate_left; (focus (intro w hSw; (try dsimp only at hSw); go_simp; try (with_reducible rfl)))) | (refine tree_no (by rfl) ?_)); (try simp only [Act.put, List.setIfInBounds_toArray, List.set_cons_zero, List.set_cons_succ]))
    ((first | ((refine tree_yes (v := ?_) (by rfl) ?_ ?_); rotate_left; (focus (intro w hSw; (try dsimp only at hSw); go_simp; try (with_reducible rfl)))) | (refine tree_no (by rfl) ?_)); (try simp only [Act.put, List.setIfInBounds_toArray, List.set_cons_zero, List.set_cons_succ]))
    ((first | ((refine tree_yes (v := ?_) (by rfl) ?_ ?_); rotate_left; (focus (intro w hSw; (try dsimp only at hSw); go_simp; try (with_reducible rfl)))) | (refine tree_no (by rfl) ?_)); (try simp only [Act.put, List.setIfInBounds_toArray, List.set_cons_zero, List.set_cons_succ]))
    refine tree_fork (fun K hK => ?_) (fun K hK => ?_)
    focus
      ((first | (go_simp; (first | (go_at_call 76; refine HSA.out.mono ?_; rintro e w8 ⟨⟨rfl, S8⟩, R8⟩; have S8 := S8.perm (show _ = pts w.heap.size (dhO ⟨xi, 1, xr, xa, (j : Int), xrd, true, true, xd, xm, xp⟩) * (rtHp c L qn * (rfHp cf N * R)) by ac_rfl); obtain ⟨k5, k54, -, -⟩ := HC.out _ ⟨xi, 1, xr, xa, (j : Int), xrd, true, true, xd, xm, xp⟩ _ S8; have k6 := (fun o => (And.intro (HC.out _ ⟨xi, 1, xr, xa, (j : Int), xrd, true, true, xd, xm, xp⟩ _ (S8.old o)).1 (HC.out _ ⟨xi, 1, xr, xa, (j : Int), xrd, true, true, xd, xm, xp⟩ _ (S8.old o)).2.1)); have S8 := Lib.hid S8; have R8 := Lib.hid R8) | (go_at_call 76; refine HSB.out.mono ?_; rintro e w8 ⟨⟨rfl, S8⟩, R8⟩; have S8 := S8.perm (show _ = pts W.heap.size (infoD 0 0 0 0) * (pts w.heap.size (dhO ⟨xi, 1, xr, xa, (j : Int), xrd, true, true, xd, xm, xp⟩) * (rtHp c L qn * (rfHp cf N * R))) by ac_rfl); obtain ⟨k7, k74, -, -⟩ := HC.out _ ⟨xi, 1, xr, xa, (j : Int), xrd, true, true, xd, xm, xp⟩ _ S8.right; obtain ⟨z0, z1, z2, z3⟩ := infoD_cells S8; have f0b : ∀ i, w8.frozen? ⟨W.heap.size, i, none⟩ = false := (fun i => free_at S8.get i); have S8c := (((S8.set (i := 0) (.int .i64 y.kind)).set (i := 1) (.int .i64 (a : Int))).set (i := 2) (.int .i64 y.names)).set (i := 3) (.int .i64 y.holds); obtain ⟨m7, m74, -, -⟩ := HC.out _ ⟨xi, 1, xr, xa, (j : Int), xrd, true, true, xd, xm, xp⟩ _ S8c.right; have Kset := Lib.hid (And.intro m7 m74); have S8b := Lib.hid S8c; have R8 := Lib.hid R8; clear S8c)); (try go_wp2_with fail)) | go_simp); (refine hK.out _ _ ?_ (fun hHeld => ?_)); (focus ((try dsimp only); (first | done | (first | with_reducible exact ⟨k0, k4⟩ | with_reducible exact ⟨j0, j4⟩ | with_reducible exact ⟨k5, k54⟩ | with_reducible exact k6 _ | with_reducible exact ⟨k7, k74⟩ | with_reducible exact Kset.out)))); clear hK K; (try simp only [Act.put, List.setIfInBounds_toArray, List.set_cons_zero, List.set_cons_succ]))
      ((first | ((refine tree_yes (v := ?_) (by rfl) ?_ ?_); rotate_left; (focus (intro w hSw; (try dsimp only at hSw); go_simp; try (with_reducible rfl)))) | (refine tree_no (by rfl) ?_)); (try simp only [Act.put, List.setIfInBounds_toArray, List.set_cons_zero, List.set_cons_succ]))
      ((first | ((refine tree_yes (v := ?_) (by rfl) ?_ ?_); rotate_left; (focus (intro w hSw; (try dsimp only at hSw); go_simp; try (with_reducible rfl)))) | (refine tree_no (by rfl) ?_)); (try simp only [Act.put, List.setIfInBounds_toArray, List.set_cons_zero, List.set_cons_succ]))
      ((first | ((refine tree_yes (v := ?_) (by rfl) ?_ ?_); rotate_left; (focus (intro w hSw; (try dsimp only at hSw); go_simp; try (with_reducible rfl)))) | (refine tree_no (by rfl) ?_)); (try simp only [Act.put, List.setIfInBounds_toArray, List.set_cons_zero, List.set_cons_succ]))
      ((refine tree_step (fun K hK => ?_)); (first | (go_simp; (first | (go_at_call 76; refine HSA.out.mono ?_; rintro e w8 ⟨⟨rfl, S8⟩, R8⟩; have S8 := S8.perm (show _ = pts w.heap.size (dhO ⟨xi, 1, xr, xa, (j : Int), xrd, true, true, xd, xm, xp⟩) * (rtHp c L qn * (rfHp cf N * R)) by ac_rfl); obtain ⟨k5, k54, -, -⟩ := HC.out _ ⟨xi, 1, xr, xa, (j : Int), xrd, true, true, xd, xm, xp⟩ _ S8; have k6 := (fun o => (And.intro (HC.out _ ⟨xi, 1, xr, xa, (j : Int), xrd, true, true, xd, xm, xp⟩ _ (S8.old o)).1 (HC.out _ ⟨xi, 1, xr, xa, (j : Int), xrd, true, true, xd, xm, xp⟩ _ (S8.old o)).2.1)); have S8 := Lib.hid S8; have R8 := Lib.hid R8) | (go_at_call 76; refine HSB.out.mono ?_; rintro e w8 ⟨⟨rfl, S8⟩, R8⟩; have S8 := S8.perm (show _ = pts W.heap.size (infoD 0 0 0 0) * (pts w.heap.size (dhO ⟨xi, 1, xr, xa, (j : Int), xrd, true, true, xd, xm, xp⟩) * (rtHp c L qn * (rfHp cf N * R))) by ac_rfl); obtain ⟨k7, k74, -, -⟩ := HC.out _ ⟨xi, 1, xr, xa, (j : Int), xrd, true, true, xd, xm, xp⟩ _ S8.right; obtain ⟨z0, z1, z2, z3⟩ := infoD_cells S8; have f0b : ∀ i, w8.frozen? ⟨W.heap.size, i, none⟩ = false := (fun i => free_at S8.get i); have S8c := (((S8.set (i := 0) (.int .i64 y.kind)).set (i := 1) (.int .i64 (a : Int))).set (i := 2) (.int .i64 y.names)).set (i := 3) (.int .i64 y.holds); obtain ⟨m7, m74, -, -⟩ := HC.out _ ⟨xi, 1, xr, xa, (j : Int), xrd, true, true, xd, xm, xp⟩ _ S8c.right; have Kset := Lib.hid (And.intro m7 m74); have S8b := Lib.hid S8c; have R8 := Lib.hid R8; clear S8c)); (try go_wp2_with fail)) | go_simp); (refine hK.out _ _ ?_ (fun hHeld => ?_)); (focus ((try dsimp only); (first | done | (first | with_reducible exact ⟨k0, k4⟩ | with_reducible exact ⟨j0, j4⟩ | with_reducible exact ⟨k5, k54⟩ | with_reducible exact k6 _ | with_reducible exact ⟨k7, k74⟩ | with_reducible exact Kset.out)))); clear hK K; (try simp only [Act.put, List.setIfInBounds_toArray, List.set_cons_zero, List.set_cons_succ]))
      ((refine tree_step (fun K hK => ?_)); (first | (go_simp; (first | (go_at_call 76; refine HSA.out.mono ?_; rintro e w8 ⟨⟨rfl, S8⟩, R8⟩; have S8 := S8.perm (show _ = pts w.heap.size (dhO ⟨xi, 1, xr, xa, (j : Int), xrd, true, true, xd, xm, xp⟩) * (rtHp c L qn * (rfHp cf N * R)) by ac_rfl); obtain ⟨k5, k54, -, -⟩ := HC.out _ ⟨xi, 1, xr, xa, (j : Int), xrd, true, true, xd, xm, xp⟩ _ S8; have k6 := (fun o => (And.intro (HC.out _ ⟨xi, 1, xr, xa, (j : Int), xrd, true, true, xd, xm, xp⟩ _ (S8.old o)).1 (HC.out _ ⟨xi, 1, xr, xa, (j : Int), xrd, true, true, xd, xm, xp⟩ _ (S8.old o)).2.1)); have S8 := Lib.hid S8; have R8 := Lib.hid R8) | (go_at_call 76; refine HSB.out.mono ?_; rintro e w8 ⟨⟨rfl, S8⟩, R8⟩; have S8 := S8.perm (show _ = pts W.heap.size (infoD 0 0 0 0) * (pts w.heap.size (dhO ⟨xi, 1, xr, xa, (j : Int), xrd, true, true, xd, xm, xp⟩) * (rtHp c L qn * (rfHp cf N * R))) by ac_rfl); obtain ⟨k7, k74, -, -⟩ := HC.out _ ⟨xi, 1, xr, xa, (j : Int), xrd, true, true, xd, xm, xp⟩ _ S8.right; obtain ⟨z0, z1, z2, z3⟩ := infoD_cells S8; have f0b : ∀ i, w8.frozen? ⟨W.heap.size, i, none⟩ = false := (fun i => free_at S8.get i); have S8c := (((S8.set (i := 0) (.int .i64 y.kind)).set (i := 1) (.int .i64 (a : Int))).set (i := 2) (.int .i64 y.names)).set (i := 3) (.int .i64 y.holds); obtain ⟨m7, m74, -, -⟩ := HC.out _ ⟨xi, 1, xr, xa, (j : Int), xrd, true, true, xd, xm, xp⟩ _ S8c.right; have Kset := Lib.hid (And.intro m7 m74); have S8b := Lib.hid S8c; have R8 := Lib.hid R8; clear S8c)); (try go_wp2_with fail)) | go_simp); (refine hK.out _ _ ?_ (fun hHeld => ?_)); (focus ((try dsimp only); (first | done | (first | with_reducible exact ⟨k0, k4⟩ | with_reducible exact ⟨j0, j4⟩ | with_reducible exact ⟨k5, k54⟩ | with_reducible exact k6 _ | with_reducible exact ⟨k7, k74⟩ | with_reducible exact Kset.out)))); clear hK K; (try simp only [Act.put, List.setIfInBounds_toArray, List.set_cons_zero, List.set_cons_succ]))
      ((first | ((refine tree_yes (v := ?_) (by rfl) ?_ ?_); rotate_left; (focus (intro w hSw; (try dsimp only at hSw); go_simp; try (with_reducible rfl)))) | (refine tree_no (by rfl) ?_)); (try simp only [Act.put, List.setIfInBounds_toArray, List.set_cons_zero, List.set_cons_succ]))
      refine tree_done ?_
    rotate_left 1
    focus
      ((first | (go_simp; (first | (go_at_call 76; refine HSA.out.mono ?_; rintro e w8 ⟨⟨rfl, S8⟩, R8⟩; have S8 := S8.perm (show _ = pts w.heap.size (dhO ⟨xi, 1, xr, xa, (j : Int), xrd, true, true, xd, xm, xp⟩) * (rtHp c L qn * (rfHp cf N * R)) by ac_rfl); obtain ⟨k5, k54, -, -⟩ := HC.out _ ⟨xi, 1, xr, xa, (j : Int), xrd, true, true, xd, xm, xp⟩ _ S8; have k6 := (fun o => (And.intro (HC.out _ ⟨xi, 1, xr, xa, (j : Int), xrd, true, true, xd, xm, xp⟩ _ (S8.old o)).1 (HC.out _ ⟨xi, 1, xr, xa, (j : Int), xrd, true, true, xd, xm, xp⟩ _ (S8.old o)).2.1)); have S8 := Lib.hid S8; have R8 := Lib.hid R8) | (go_at_call 76; refine HSB.out.mono ?_; rintro e w8 ⟨⟨rfl, S8⟩, R8⟩; have S8 := S8.perm (show _ = pts W.heap.size (infoD 0 0 0 0) * (pts w.heap.size (dhO ⟨xi, 1, xr, xa, (j : Int), xrd, true, true, xd, xm, xp⟩) * (rtHp c L qn * (rfHp cf N * R))) by ac_rfl); obtain ⟨k7, k74, -, -⟩ := HC.out _ ⟨xi, 1, xr, xa, (j : Int), xrd, true, true, xd, xm, xp⟩ _ S8.right; obtain ⟨z0, z1, z2, z3⟩ := infoD_cells S8; have f0b : ∀ i, w8.frozen? ⟨W.heap.size, i, none⟩ = false := (fun i => free_at S8.get i); have S8c := (((S8.set (i := 0) (.int .i64 y.kind)).set (i := 1) (.int .i64 (a : Int))).set (i := 2) (.int .i64 y.names)).set (i := 3) (.int .i64 y.holds); obtain ⟨m7, m74, -, -⟩ := HC.out _ ⟨xi, 1, xr, xa, (j : Int), xrd, true, true, xd, xm, xp⟩ _ S8c.right; have Kset := Lib.hid (And.intro m7 m74); have S8b := Lib.hid S8c; have R8 := Lib.hid R8; clear S8c)); (try go_wp2_with fail)) | go_simp); (refine hK.out _ _ ?_ (fun hHeld => ?_)); (focus ((try dsimp only); (first | done | (first | with_reducible exact ⟨k0, k4⟩ | with_reducible exact ⟨j0, j4⟩ | with_reducible exact ⟨k5, k54⟩ | with_reducible exact k6 _ | with_reducible exact ⟨k7, k74⟩ | with_reducible exact Kset.out)))); clear hK K; (try simp only [Act.put, List.setIfInBounds_toArray, List.set_cons_zero, List.set_cons_succ]))
      ((refine tree_step (fun K hK => ?_)); (first | (go_simp; (first | (go_at_call 76; refine HSA.out.mono ?_; rintro e w8 ⟨⟨rfl, S8⟩, R8⟩; have S8 := S8.perm (show _ = pts w.heap.size (dhO ⟨xi, 1, xr, xa, (j : Int), xrd, true, true, xd, xm, xp⟩) * (rtHp c L qn * (rfHp cf N * R)) by ac_rfl); obtain ⟨k5, k54, -, -⟩ := HC.out _ ⟨xi, 1, xr, xa, (j : Int), xrd, true, true, xd, xm, xp⟩ _ S8; have k6 := (fun o => (And.intro (HC.out _ ⟨xi, 1, xr, xa, (j : Int), xrd, true, true, xd, xm, xp⟩ _ (S8.old o)).1 (HC.out _ ⟨xi, 1, xr, xa, (j : Int), xrd, true, true, xd, xm, xp⟩ _ (S8.old o)).2.1)); have S8 := Lib.hid S8; have R8 := Lib.hid R8) | (go_at_call 76; refine HSB.out.mono ?_; rintro e w8 ⟨⟨rfl, S8⟩, R8⟩; have S8 := S8.perm (show _ = pts W.heap.size (infoD 0 0 0 0) * (pts w.heap.size (dhO ⟨xi, 1, xr, xa, (j : Int), xrd, true, true, xd, xm, xp⟩) * (rtHp c L qn * (rfHp cf N * R))) by ac_rfl); obtain ⟨k7, k74, -, -⟩ := HC.out _ ⟨xi, 1, xr, xa, (j : Int), xrd, true, true, xd, xm, xp⟩ _ S8.right; obtain ⟨z0, z1, z2, z3⟩ := infoD_cells S8; have f0b : ∀ i, w8.frozen? ⟨W.heap.size, i, none⟩ = false := (fun i => free_at S8.get i); have S8c := (((S8.set (i := 0) (.int .i64 y.kind)).set (i := 1) (.int .i64 (a : Int))).set (i := 2) (.int .i64 y.names)).set (i := 3) (.int .i64 y.holds); obtain ⟨m7, m74, -, -⟩ := HC.out _ ⟨xi, 1, xr, xa, (j : Int), xrd, true, true, xd, xm, xp⟩ _ S8c.right; have Kset := Lib.hid (And.intro m7 m74); have S8b := Lib.hid S8c; have R8 := Lib.hid R8; clear S8c)); (try go_wp2_with fail)) | go_simp); (refine hK.out _ _ ?_ (fun hHeld => ?_)); (focus ((try dsimp only); (first | done | (first | with_reducible exact ⟨k0, k4⟩ | with_reducible exact ⟨j0, j4⟩ | with_reducible exact ⟨k5, k54⟩ | with_reducible exact k6 _ | with_reducible exact ⟨k7, k74⟩ | with_reducible exact Kset.out)))); clear hK K; (try simp only [Act.put, List.setIfInBounds_toArray, List.set_cons_zero, List.set_cons_succ]))
      ((first | ((refine tree_yes (v := ?_) (by rfl) ?_ ?_); rotate_left; (focus (intro w hSw; (try dsimp only at hSw); go_simp; try (with_reducible rfl)))) | (refine tree_no (by rfl) ?_)); (try simp only [Act.put, List.setIfInBounds_toArray, List.set_cons_zero, List.set_cons_succ]))
      ((first | ((refine tree_yes (v := ?_) (by rfl) ?_ ?_); rotate_left; (focus (intro w hSw; (try dsimp only at hSw); go_simp; try (with_reducible rfl)))) | (refine tree_no (by rfl) ?_)); (try simp only [Act.put, List.setIfInBounds_toArray, List.set_cons_zero, List.set_cons_succ]))
      ((first | ((refine tree_yes (v := ?_) (by rfl) ?_ ?_); rotate_left; (focus (intro w hSw; (try dsimp only at hSw); go_simp; try (with_reducible rfl)))) | (refine tree_no (by rfl) ?_)); (try simp only [Act.put, List.setIfInBounds_toArray, List.set_cons_zero, List.set_cons_succ]))
      ((refine tree_step (fun K hK => ?_)); (first | (go_simp; (first | (go_at_call 76; refine HSA.out.mono ?_; rintro e w8 ⟨⟨rfl, S8⟩, R8⟩; have S8 := S8.perm (show _ = pts w.heap.size (dhO ⟨xi, 1, xr, xa, (j : Int), xrd, true, true, xd, xm, xp⟩) * (rtHp c L qn * (rfHp cf N * R)) by ac_rfl); obtain ⟨k5, k54, -, -⟩ := HC.out _ ⟨xi, 1, xr, xa, (j : Int), xrd, true, true, xd, xm, xp⟩ _ S8; have k6 := (fun o => (And.intro (HC.out _ ⟨xi, 1, xr, xa, (j : Int), xrd, true, true, xd, xm, xp⟩ _ (S8.old o)).1 (HC.out _ ⟨xi, 1, xr, xa, (j : Int), xrd, true, true, xd, xm, xp⟩ _ (S8.old o)).2.1)); have S8 := Lib.hid S8; have R8 := Lib.hid R8) | (go_at_call 76; refine HSB.out.mono ?_; rintro e w8 ⟨⟨rfl, S8⟩, R8⟩; have S8 := S8.perm (show _ = pts W.heap.size (infoD 0 0 0 0) * (pts w.heap.size (dhO ⟨xi, 1, xr, xa, (j : Int), xrd, true, true, xd, xm, xp⟩) * (rtHp c L qn * (rfHp cf N * R))) by ac_rfl); obtain ⟨k7, k74, -, -⟩ := HC.out _ ⟨xi, 1, xr, xa, (j : Int), xrd, true, true, xd, xm, xp⟩ _ S8.right; obtain ⟨z0, z1, z2, z3⟩ := infoD_cells S8; have f0b : ∀ i, w8.frozen? ⟨W.heap.size, i, none⟩ = false := (fun i => free_at S8.get i); have S8c := (((S8.set (i := 0) (.int .i64 y.kind)).set (i := 1) (.int .i64 (a : Int))).set (i := 2) (.int .i64 y.names)).set (i := 3) (.int .i64 y.holds); obtain ⟨m7, m74, -, -⟩ := HC.out _ ⟨xi, 1, xr, xa, (j : Int), xrd, true, true, xd, xm, xp⟩ _ S8c.right; have Kset := Lib.hid (And.intro m7 m74); have S8b := Lib.hid S8c; have R8 := Lib.hid R8; clear S8c)); (try go_wp2_with fail)) | go_simp); (refine hK.out _ _ ?_ (fun hHeld => ?_)); (focus ((try dsimp only); (first | done | (first | with_reducible exact ⟨k0, k4⟩ | with_reducible exact ⟨j0, j4⟩ | with_reducible exact ⟨k5, k54⟩ | with_reducible exact k6 _ | with_reducible exact ⟨k7, k74⟩ | with_reducible exact Kset.out)))); clear hK K; (try simp only [Act.put, List.setIfInBounds_toArray, List.set_cons_zero, List.set_cons_succ]))
      ((first | ((refine tree_yes (v := ?_) (by rfl) ?_ ?_); rotate_left; (focus (intro w hSw; (try dsimp only at hSw); go_simp; try (with_reducible rfl)))) | (refine tree_no (by rfl) ?_)); (try simp only [Act.put, List.setIfInBounds_toArray, List.set_cons_zero, List.set_cons_succ]))
      refine tree_done ?_
    all_goals
      first
      | (have R9 := Ran.new (Below.trans (Ran.drewN RW.out 1) R8.out) (infoD y.kind (a : Int) y.names y.holds); have S9 := S8.out.alloc (infoD y.kind (a : Int) y.names y.holds); obtain ⟨w6, hw6⟩ : ∃ w6, w6 = w8.alloc (infoD y.kind (a : Int) y.names y.holds) := ⟨_, rfl⟩; obtain ⟨ib, hib⟩ : ∃ ib, ib = w8.heap.size := ⟨_, rfl⟩; rw [← hw6] at R9 S9 ⊢; rw [← hib] at S9 ⊢)
      | (have R9 := Ran.set (Ran.set (Ran.set (Ran.set (Below.trans (Ran.drewN (Ran.new RW.out (infoD 0 0 0 0)) 1) R8.out) ⟨W.heap.size, 0, none⟩ (.int .i64 y.kind)) ⟨W.heap.size, 1, none⟩ (.int .i64 (a : Int))) ⟨W.heap.size, 2, none⟩ (.int .i64 y.names)) ⟨W.heap.size, 3, none⟩ (.int .i64 y.holds); have S9 := S8b.out; obtain ⟨w6, hw6⟩ : ∃ w6, w6 = ((((w8.setCell ⟨W.heap.size, 0, none⟩ (.int .i64 y.kind)).setCell ⟨W.heap.size, 1, none⟩ (.int .i64 (a : Int))).setCell ⟨W.heap.size, 2, none⟩ (.int .i64 y.names)).setCell ⟨W.heap.size, 3, none⟩ (.int .i64 y.holds)) := ⟨_, rfl⟩; obtain ⟨ib, hib⟩ : ∃ ib, ib = W.heap.size := ⟨_, rfl⟩; rw [← hw6] at R9 S9 ⊢; rw [← hib] at S9 ⊢)
    all_goals
      have S9 : Sat w6 (pts ib (infoD y.kind (a : Int) y.names y.holds) * (pts w.heap.size (dhO ⟨xi, 1, xr, xa, (j : Int), xrd, true, true, xd, xm, xp⟩) * (rtHp c L qn * (rfHp cf N * R)))) := S9
      have S7 := S9.perm (show _ = pts w.heap.size (dhO ⟨xi, 1, xr, xa, (j : Int), xrd, true, true, xd, xm, xp⟩) * (rtHp c L qn * (rfHp cf N * (pts ib (infoD y.kind (a : Int) y.names y.holds) * R))) by ac_rfl)
      obtain ⟨-, -, g3, gf⟩ := HC.out _ ⟨xi, 1, xr, xa, (j : Int), xrd, true, true, xd, xm, xp⟩ _ S7
      have i1 := (infoD_cells S9).2.1
      have SX : Sat _ (pts w.heap.size (dhO ⟨xi, 1, xr, (a : Int), (j : Int), xrd, true, true, xd, xm, xp⟩) * _) := S7.set (i := 3) (.int .i64 (a : Int))
      have RX := Lib.hid (Ran.set R9 ⟨w.heap.size, 3, none⟩ (.int .i64 (a : Int)))
      have SX := Lib.hid SX
      clear S9 S7 R9 hw6 hib k0 k4 k3 kf j0 j4 j3 jf HSA HSB SW RW HST
      go_upto_region 17 with fail
      obtain ⟨W2, hW2⟩ : ∃ W2, W2 = w6.setCell ⟨w.heap.size, 3, none⟩ (.int .i64 (a : Int)) := ⟨_, rfl⟩
      rw [← hW2] at SX RX ⊢
      have SW := SX
      have RW := RX
      clear hW2 SX RX g3 gf i1
      obtain ⟨k0, k4, k3, kf⟩ := HC.out _ ⟨xi, 1, xr, (a : Int), (j : Int), xrd, true, true, xd, xm, xp⟩ _ SW.out.drew
      have HWR := Lib.hid (HW.out _ _ (SW.out.drew.perm (show _ = rfHp cf N * (pts w.heap.size (dhO ⟨xi, 1, xr, (a : Int), (j : Int), xrd, true, true, xd, xm, xp⟩) * (rtHp c L qn * (pts ib (infoD y.kind (a : Int) y.names y.holds) * R))) by ac_rfl)))
      refine region_plan (S := (fun w' => w'.cell? ⟨c.tb, 0, none⟩ = some (pp cf.fb) ∧ w'.cell? ⟨w.heap.size, 4, none⟩ = some (.int .i64 (j : Int)) ∧ w'.cell? ⟨w.heap.size, 3, none⟩ = some (.int .i64 (a : Int)))) [(0, true), (1, true), (2, true), (3, true), (4, true), (5, true), (6, true), (7, true), (8, true), (9, false), (10, true)] (by kernel_rfl) (by kernel_rfl) (by kernel_rfl) ?_ ?_
      · ((try dsimp only); (first | done | (first | exact Kset.out | exact ⟨k0, k4, k3⟩)))
      simp only [planOps, List.map_cons, List.map_nil, List.getElem?_toArray, List.getElem?_cons_zero, List.getElem?_cons_succ]
      repeat (first
        | ((refine plan_yes (v := ?_) (by rfl) ?_ ?_); rotate_left; (focus (intro w hSw; (try dsimp only at hSw); go_simp; try (with_reducible rfl))); (try simp only [Act.put, List.setIfInBounds_toArray, List.set_cons_zero, List.set_cons_succ]))
        | ((refine plan_no (by rfl) ?_); (try simp only [Act.put, List.setIfInBounds_toArray, List.set_cons_zero, List.set_cons_succ]))
        | ((refine plan_step (fun K hK => ?_)); (first | (go_simp; (go_at_call 86; refine HWR.out.mono ?_; rintro e w3 ⟨⟨rfl, S3⟩, R3⟩; have S3 := S3.perm (show _ = pts w.heap.size (dhO ⟨xi, 1, xr, (a : Int), (j : Int), xrd, true, true, xd, xm, xp⟩) * (rtHp c L qn * (rfHp cf zl * (pts ib (infoD y.kind (a : Int) y.names y.holds) * R))) by ac_rfl); obtain ⟨kk0, kk4, kk3, kkf⟩ := HC.out _ ⟨xi, 1, xr, (a : Int), (j : Int), xrd, true, true, xd, xm, xp⟩ _ S3; have Kset := Lib.hid (And.intro kk0 (And.intro kk4 kk3)); have S3 := Lib.hid S3; have R3 := Lib.hid (Below.trans (Ran.drewN RW.out 1) R3)); (try go_wp2_with fail)) | go_simp); (refine hK.out _ _ ?_ (fun hHeld => ?_)); (focus ((try dsimp only); (first | done | (first | exact Kset.out | exact ⟨k0, k4, k3⟩)))); clear hK K; (try simp only [Act.put, List.setIfInBounds_toArray, List.set_cons_zero, List.set_cons_succ])))
      refine plan_done ?_
      clear k0 k4 k3 kf HWR SW RW kk0 kk4 Kset
      go_upto_region 20 with fail
      obtain ⟨q2, q3, q4, qf, q5⟩ := HD.out _ ⟨xi, 1, xr, (a : Int), (j : Int), xrd, true, true, xd, xm, xp⟩ _ S3.out
      have R4 := R3.out
      have S9 := Lib.hid q5
      have R9 := Lib.hid R4
      clear q5 R4 S3 R3 kk3 kkf HC HD
      go_still_tail 9, (by kernel_rfl)
      go_wp2_with fail
      go_ret
      exact ⟨⟨rfl, (S9.out.perm (show _ = pts ib (infoD y.kind (a : Int) y.names y.holds) * (rtHp c (L.set i (⟨xi, 1, xr, (a : Int), (j : Int), xrd, true, true, xd, xm, xp⟩ : DH)) qn * (rfHp cf zl * R)) by ac_rfl)).right⟩, Ran.set (Ran.drewN R9.out 1) _ _⟩
end
end Go.Proofs.YtljlpkeddbfpaaaGreatDoor.Hd

