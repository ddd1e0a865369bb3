/- HandlesPlays, part 24 of 34: the texts HdPq, joined by a program. -/
import Derived.Test.YtljlpkeddbfpaaaGreatDoorHm23
namespace Go.Proofs.YtljlpkeddbfpaaaGreatDoor.Hd
open Go.RowKit Go.Maps Go.Proofs.YtljlpkeddbfpaaaGreatDoor Go.Proofs.YtljlpkeddbfpaaaGreatDoor.Hp
set_option linter.unusedVariables false
attribute [local go_sem] Oper.semAt_some

section
variable {w : World} {c : RT} {L : List DH} {qn : Nat} {R : Hp}
set_option maxRecDepth 100000 in
set_option maxHeartbeats 4000000 in
/-- The last ref of an end is gone, the other end stays. -/
theorem RUnref_two (id : Int) (i : Nat) (hL : L.length ≤ 900000) (hi : i < L.length) (hp : placeN L id 0 = (i : Int)) (hr : L[i].refs = 1) (k : Nat) (hk : k ≤ 1000000) (hkd : L[i].kind = 4 ∨ L[i].kind = 5) (hpi : L[i].pipe = (k : Int) + 1) (hoth : othN ((k : Int) + 1) (L.eraseIdx i) = true) (h : Sat w (rtHp c L qn * R)) :
    Calls Tryz.prog 53 #[pp c.tb, .int .i64 id] w fun e w' => (e = .returned (.int .i64 0) ∧ ∃ lp lc, Sat w' (rtHp { c with lp := lp, lc := lc } (L.eraseIdx i) qn * R)) ∧ Ran w w' := by
  have HP := rplace_calls c L qn id (by omega) w _ h
  rw [hp] at HP
  have HP := Lib.hid HP
  obtain ⟨c0, c1, c2, c3⟩ := rt_cells h
  obtain ⟨⟨b, o, hb⟩, hlc, hlm⟩ := rt_addr h hi
  obtain ⟨m0, m1, m2, m3, m4, m5, m6, m7, m8, m9, m10⟩ := dh_cells h hb hi
  have hbb := hb
  rw [hb] at c2
  have hcm : (c.lc : Int) ≤ 9223372036854775807 := by unfold maxLen at hlm; omega
  have hiI : (i : Int) < (L.length : Int) := by omega
  have hi0 : (0 : Int) ≤ (i : Int) := by omega
  have hLI : (L.length : Int) ≤ 1000000 := by omega
  obtain ⟨x, hx⟩ : ∃ x, x = L[i] := ⟨_, rfl⟩
  rw [← hx] at m0 m1 m2 m3 m4 m5 m6 m7 m8 m9 m10
  have HS0 := h.alloc (dhO x)
  obtain ⟨r0, r1, r2, r3, r4, r5, r6, r7, r8, r9, r10⟩ := dhO_cells HS0
  have S1 := And.intro (h.old (dhO x)) (Ran.new (Below.refl 0 w) (dhO x))
  obtain ⟨L1, hL1⟩ : ∃ L1, L1 = L.set i { x with refs := 0 } := ⟨_, rfl⟩
  have he : L.eraseIdx i = L1.eraseIdx i := by rw [hL1, List.eraseIdx_set_eq]
  rw [he] at hoth ⊢
  rw [← hx] at hr hkd hpi
  have f0 : ∀ j, w.frozen? ⟨b, j, none⟩ = false := fun j => by
    have := rt_arr h; rw [hbb] at this; exact this.arr_free j
  have HF : Sat ((w.setCell ⟨b, o + i * 11 + 2, none⟩ (.int .i64 0)).drew) (rtHp c L1 qn * (R)) ∧ Ran w ((w.setCell ⟨b, o + i * 11 + 2, none⟩ (.int .i64 0)).drew) := by
    rw [hL1]
    exact ⟨(dh_set h hbb hi 2 (.int .i64 0) { x with refs := 0 } (by omega) (by rw [← hx]; rfl)).drew, Ran.drewN (Ran.set (Below.refl 0 w) ⟨b, o + i * 11 + 2, none⟩ (.int .i64 0)) 1⟩
  have hl1 : L1.length = L.length := by rw [hL1, List.length_set]
  have hi1 : i < L1.length := by omega
  have hg1 : L1[i] = { x with refs := 0 } := by
    subst hL1; rw [List.getElem_set_self]
  have HF := Lib.hid HF
  have HBB := Lib.hid hbb
  obtain ⟨xi, xk, xr, xa, xn, xrd, xpt, xmo, xd, xm, xp⟩ := x
  dsimp only at hr hg1 hkd hpi m0 m1 m2 m3 m4 m5 m6 m7 m8 m9 m10 ⊢
  subst hr
  subst hpi
  have HL1 := Lib.hid (fun h : i < L1.length => (hg1 : L1[i] = ⟨xi, xk, 0, xa, xn, xrd, xpt, xmo, xd, xm, (k : Int) + 1⟩))
  have hi1I : (i : Int) < (L1.length : Int) := by omega
  have hL1I : (L1.length : Int) ≤ 900000 := by omega
  have HOTH := Lib.hid hoth
  have hdk : decide ((k : Int) + 1 > 0) = true := decide_eq_true (by omega)
  have hdk2 : decide ((0 : Int) < (k : Int) + 1) = true := decide_eq_true (by omega)
  have hdk3 : (0 : Int) < (k : Int) + 1 := by omega
  clear h hp hx hb hbb hlm HS0 S1 hL1 he hoth hl1 hg1 r0 r1 r2 r3 r4 r5 r6 r7 r8 r9 r10
  rcases hkd with rfl | rfl
  · go_enter Tryz.func53, Tryz.ntmps53
    go_wp2_with fail
    refine HP.out.mono ?_
    rintro e w1 ⟨rfl, rfl⟩
    clear HP
    go_upto_region 4 with fail
    go_still_tail 16, (by kernel_rfl)
    obtain ⟨W, hW⟩ : ∃ W, W = (w.setCell ⟨b, o + i * 11 + 2, none⟩ (.int .i64 0)).drew := ⟨_, rfl⟩
    go_upto_region 5 with fail
    rw [← hW] at HF ⊢
    clear hW f0 m0 m1 m2 m3 m4 m5 m6 m7 m8 m9 m10 c0 c1 c2 c3
    obtain ⟨c0, c1, c2, c3⟩ := rt_cells HF.out.1
    rw [HBB.out] at c2
    obtain ⟨m0, m1, m2, m3, m4, m5, m6, m7, m8, m9, m10⟩ := dh_cells HF.out.1 HBB.out hi1
    rw [HL1.out hi1] at m0 m1 m2 m3 m4 m5 m6 m7 m8 m9 m10
    dsimp only at m0 m1 m2 m3 m4 m5 m6 m7 m8 m9 m10
    have S1 := Lib.hid ((HF.out.1.alloc (dhO ⟨xi, 4, 0, xa, xn, xrd, xpt, xmo, xd, xm, (k : Int) + 1⟩)).nil_arr 146 11)
    have R1 := Lib.hid (Ran.new HF.out.2 (dhO ⟨xi, 4, 0, xa, xn, xrd, xpt, xmo, xd, xm, (k : Int) + 1⟩))
    obtain ⟨r0, r1, r2, r3, r4, r5, r6, r7, r8, r9, r10⟩ := dhO_cells (HF.out.1.alloc (dhO ⟨xi, 4, 0, xa, xn, xrd, xpt, xmo, xd, xm, (k : Int) + 1⟩))
    obtain ⟨hb, hhb⟩ : ∃ hb, hb = W.heap.size := ⟨_, rfl⟩
    obtain ⟨W2, hW2⟩ : ∃ W2, W2 = W.alloc (dhO ⟨xi, 4, 0, xa, xn, xrd, xpt, xmo, xd, xm, (k : Int) + 1⟩) := ⟨_, rfl⟩
    go_upto_region 8 with fail
    rw [← hhb, ← hW2] at S1 ⊢
    rw [← hW2] at R1
    clear r0 r1 r2 r3 r4 r5 r6 r7 r8 r9 r10 m0 m1 m2 m3 m4 m5 m6 m7 m8 m9 m10 c0 c1 c2 c3 HF hhb hW2
    go_wp2_with fail
    go_loopg [7, 8, 9] (L1.length) (fun (g : Nat) (v7 v8 v9 : Value) (wr : World) => ∃ (j : Nat) (out : List DH) (p : Option Addr) (cap : Nat), v9 = .int .i64 (j : Int) ∧ v7 = .slice p out.length cap ∧ v8 = .bool (othN ((k : Int) + 1) out) ∧ out = (L1.take j).eraseIdx i ∧ j + g = L1.length ∧ Sat wr (dhA p cap out * (pts hb (dhO ⟨xi, 4, 0, xa, xn, xrd, xpt, xmo, xd, xm, (k : Int) + 1⟩) * (rtHp c L1 qn * R))) ∧ Ran w wr)
    case atStart => exact ⟨0, [], none, 0, rfl, rfl, rfl, by simp, by omega, S1.out, R1.out⟩
    case round =>
      clear S1 R1
      obtain ⟨j, out, p, cap, rfl, rfl, rfl, hout, hgj, Sr, Rr⟩ := hrel
      have hol : out.length ≤ j := by rw [hout]; exact erase_len L1 i j
      by_cases hlt : j < L1.length
      · have hltI : (j : Int) < (L1.length : Int) := by omega
        have hj0 : (0 : Int) ≤ (j : Int) := by omega
        have hoI : (out.length : Int) ≤ 1000000 := by omega
        have c2 := (rt_cells Sr.right.right).2.2.1
        obtain ⟨⟨b9, o9, hbo⟩, hlc, hlm⟩ := rt_addr Sr.right.right hlt
        rw [hbo] at c2
        have hcm : (c.lc : Int) ≤ 9223372036854775807 := by unfold maxLen at hlm; omega
        have hlcI : (L1.length : Int) ≤ (c.lc : Int) := by omega
        by_cases hji : j = i
        · have hne : ((j : Int) != (i : Int)) = false := by simp [hji]
          have HO := Lib.hid (show out = (L1.take (j + 1)).eraseIdx i by rw [hout, hji, erase_skip L1 i (by omega)])
          have Sr := Lib.hid Sr
          have Rr := Lib.hid Rr
          clear hout hbo hlm
          go_wp2_with fail
          go_roundg (gk - 1)
          case rel => exact ⟨j + 1, out, p, cap, by simp [hji], rfl, rfl, HO.out, by omega, Sr.out, Rr.out⟩
          case measure => omega
        · have hne : ((j : Int) != (i : Int)) = true := by simp; omega
          obtain ⟨m0, m1, m2, m3, m4, m5, m6, m7, m8, m9, m10⟩ := dh_cells Sr.right.right hbo hlt
          obtain ⟨z, hz⟩ : ∃ z, z = L1[j] := ⟨_, rfl⟩
          have HO := Lib.hid (show out ++ [z] = (L1.take (j + 1)).eraseIdx i by rw [hout, erase_step L1 i j hlt hji, hz])
          rw [← hz] at m0 m1 m2 m3 m4 m5 m6 m7 m8 m9 m10
          have HM := Lib.hid (fun (W' : World) (X : Hp) (hX : Sat W' (rtHp c L1 qn * X)) => (show W'.cell? ⟨c.tb, 2, none⟩ = some (.slice (some ⟨b9, o9, none⟩) L1.length c.lc) ∧ W'.cell? ⟨b9, o9 + j * 11 + 10, none⟩ = some (.int .i64 z.pipe) by
            have e2 := (rt_cells hX).2.2.1
            rw [hbo] at e2
            have e3 := (dh_cells hX hbo hlt).2.2.2.2.2.2.2.2.2.2
            rw [← hz] at e3
            exact ⟨e2, e3⟩))
          obtain ⟨zi, zk, zr, za, zn, zrd, zpt, zmo, zd, zm, zp⟩ := z
          dsimp only at HM m0 m1 m2 m3 m4 m5 m6 m7 m8 m9 m10
          obtain ⟨ot, hot⟩ : ∃ ot, ot = othN ((k : Int) + 1) out := ⟨_, rfl⟩
          have HOT := Lib.hid (othN_snoc ((k : Int) + 1) out ⟨zi, zk, zr, za, zn, zrd, zpt, zmo, zd, zm, zp⟩)
          rw [← hot] at HOT ⊢
          have HA := Lib.hid (Sr.old (dhO ⟨zi, zk, zr, za, zn, zrd, zpt, zmo, zd, zm, zp⟩))
          have HX := Lib.hid (heap_alloc_new wr (dhO ⟨zi, zk, zr, za, zn, zrd, zpt, zmo, zd, zm, zp⟩))
          have RA := Lib.hid (Ran.new Rr (dhO ⟨zi, zk, zr, za, zn, zrd, zpt, zmo, zd, zm, zp⟩))
          clear hout hbo hlm hz hot Sr Rr
          cases ot with
          | true =>
            go_upto_region 15 with (at_builtin; go_loud (refine appDH rfl _ _ rfl p out.length cap out ⟨zi, zk, zr, za, zn, zrd, zpt, zmo, zd, zm, zp⟩ rfl rfl _ rfl HX.out HA.out (by omega) ?_; intro p' cap' w6 T6 R6; clear HA HX c2 m0 m1 m2 m3 m4 m5 m6 m7 m8 m9 m10))
            obtain ⟨n2, n10⟩ := HM.out _ _ (T6.perm (show _ = rtHp c L1 qn * (dhA p' cap' (out ++ [⟨zi, zk, zr, za, zn, zrd, zpt, zmo, zd, zm, zp⟩]) * (pts hb (dhO ⟨xi, 4, 0, xa, xn, xrd, xpt, xmo, xd, xm, (k : Int) + 1⟩) * R)) by ac_rfl)).drew
            have nr := (dhO_cells T6.drew.right).2.2.2.2.2.2.2.2.2.2
            dsimp only at nr
            have T6 := Lib.hid T6.drew
            have R6 := Lib.hid (Ran.drewN (Below.trans RA.out R6) 1)
            refine region_plan (S := (fun w' => w'.cell? ⟨c.tb, 2, none⟩ = some (.slice (some ⟨b9, o9, none⟩) L1.length c.lc) ∧ w'.cell? ⟨b9, o9 + j * 11 + 10, none⟩ = some (.int .i64 zp) ∧ w'.cell? ⟨hb, 10, none⟩ = some (.int .i64 ((k : Int) + 1)))) [(0, true), (1, true), (2, true), (3, true), (4, true), (5, true), (6, true), (7, true), (8, true), (9, true), (10, true), (11, true), (12, true), (13, true), (14, true), (15, true), (16, true), (17, true), (18, true), (19, true)] (by kernel_rfl) (by kernel_rfl) (by kernel_rfl) ?_ ?_
            · ((try dsimp only); (first | done | (exact ⟨n2, n10, nr⟩)))
            simp only [planOps, List.map_cons, List.map_nil, List.getElem?_toArray, List.getElem?_cons_zero, List.getElem?_cons_succ]
            repeat (first
              | ((refine plan_yes (v := ?_) (by rfl) ?_ ?_); rotate_left; (focus (intro w hSw; (try dsimp only at hSw); go_simp; try (with_reducible rfl))); (try simp only [Act.put, List.setIfInBounds_toArray, List.set_cons_zero, List.set_cons_succ]))
              | ((refine plan_no (by rfl) ?_); (try simp only [Act.put, List.setIfInBounds_toArray, List.set_cons_zero, List.set_cons_succ]))
              | ((refine plan_step (fun K hK => ?_)); (first | (fail) | (go_simp; (fail); (try go_wp2_with fail)) | go_simp); (refine hK.out _ _ ?_ (fun hHeld => ?_)); (focus ((try dsimp only); (first | done | (exact ⟨n2, n10, nr⟩)))); clear hK K; (try simp only [Act.put, List.setIfInBounds_toArray, List.set_cons_zero, List.set_cons_succ])))
            refine plan_done ?_
            go_wp2_with fail
            go_roundg (gk - 1)
            case rel => exact ⟨j + 1, _, p', cap', by simp, by simp, by rw [HOT.out]; simp, HO.out, by omega, T6.out, R6.out⟩
            case measure => omega
          | false =>
            go_upto_region 15 with (at_builtin; go_loud (refine appDH rfl _ _ rfl p out.length cap out ⟨zi, zk, zr, za, zn, zrd, zpt, zmo, zd, zm, zp⟩ rfl rfl _ rfl HX.out HA.out (by omega) ?_; intro p' cap' w6 T6 R6; clear HA HX c2 m0 m1 m2 m3 m4 m5 m6 m7 m8 m9 m10))
            obtain ⟨n2, n10⟩ := HM.out _ _ (T6.perm (show _ = rtHp c L1 qn * (dhA p' cap' (out ++ [⟨zi, zk, zr, za, zn, zrd, zpt, zmo, zd, zm, zp⟩]) * (pts hb (dhO ⟨xi, 4, 0, xa, xn, xrd, xpt, xmo, xd, xm, (k : Int) + 1⟩) * R)) by ac_rfl)).drew
            have nr := (dhO_cells T6.drew.right).2.2.2.2.2.2.2.2.2.2
            dsimp only at nr
            have T6 := Lib.hid T6.drew
            have R6 := Lib.hid (Ran.drewN (Below.trans RA.out R6) 1)
            refine region_plan (S := (fun w' => w'.cell? ⟨c.tb, 2, none⟩ = some (.slice (some ⟨b9, o9, none⟩) L1.length c.lc) ∧ w'.cell? ⟨b9, o9 + j * 11 + 10, none⟩ = some (.int .i64 zp) ∧ w'.cell? ⟨hb, 10, none⟩ = some (.int .i64 ((k : Int) + 1)))) [(0, true), (1, true), (2, true), (3, true), (4, true), (5, true), (6, true), (7, true), (8, true), (9, true), (10, true), (11, true), (12, true), (13, true), (14, true), (15, true), (16, true), (17, true), (18, true), (19, true)] (by kernel_rfl) (by kernel_rfl) (by kernel_rfl) ?_ ?_
            · ((try dsimp only); (first | done | (exact ⟨n2, n10, nr⟩)))
            simp only [planOps, List.map_cons, List.map_nil, List.getElem?_toArray, List.getElem?_cons_zero, List.getElem?_cons_succ]
            repeat (first
              | ((refine plan_yes (v := ?_) (by rfl) ?_ ?_); rotate_left; (focus (intro w hSw; (try dsimp only at hSw); go_simp; try (with_reducible rfl))); (try simp only [Act.put, List.setIfInBounds_toArray, List.set_cons_zero, List.set_cons_succ]))
              | ((refine plan_no (by rfl) ?_); (try simp only [Act.put, List.setIfInBounds_toArray, List.set_cons_zero, List.set_cons_succ]))
              | ((refine plan_step (fun K hK => ?_)); (first | (fail) | (go_simp; (fail); (try go_wp2_with fail)) | go_simp); (refine hK.out _ _ ?_ (fun hHeld => ?_)); (focus ((try dsimp only); (first | done | (exact ⟨n2, n10, nr⟩)))); clear hK K; (try simp only [Act.put, List.setIfInBounds_toArray, List.set_cons_zero, List.set_cons_succ])))
            refine plan_done ?_
            go_wp2_with fail
            go_roundg (gk - 1)
            case rel => exact ⟨j + 1, _, p', cap', by simp, by simp, by rw [HOT.out]; simp, HO.out, by omega, T6.out, R6.out⟩
            case measure => omega
      · have hge : (L1.length : Int) ≤ (j : Int) := by omega
        have HO := Lib.hid (show out = L1.eraseIdx i by rw [hout, List.take_of_length_le (by omega)])
        have c2 := (rt_cells Sr.right.right).2.2.1
        have f0 : ∀ i, wr.frozen? ⟨c.tb, i, none⟩ = false := fun i => rt_free Sr.right.right i
        have S9 := rt_new (Sr.perm (show _ = dhA p cap out * (rtHp c L1 qn * (pts hb (dhO ⟨xi, 4, 0, xa, xn, xrd, xpt, xmo, xd, xm, (k : Int) + 1⟩) * R)) by ac_rfl))
        have R9 := Lib.hid (Ran.set Rr ⟨c.tb, 2, none⟩ (.slice p out.length cap))
        have S9 := S9.perm (show _ = pts hb (dhO ⟨xi, 4, 0, xa, xn, xrd, xpt, xmo, xd, xm, (k : Int) + 1⟩) * (rtHp { c with lp := p, lc := cap } out qn * R) by ac_rfl)
        obtain ⟨r0, r1, r2, r3, r4, r5, r6, r7, r8, r9, r10⟩ := dhO_cells S9
        dsimp only at r0 r1 r2 r3 r4 r5 r6 r7 r8 r9 r10
        have S9 := Lib.hid S9
        clear hout Sr Rr hol
        have hot : othN ((k : Int) + 1) out = true := by rw [HO.out]; exact HOTH.out
        rw [hot]
        clear hot
        go_wp2_with fail
        go_ret
        exact ⟨⟨rfl, p, cap, by rw [← HO.out]; exact S9.out.right⟩, R9.out⟩
  · go_enter Tryz.func53, Tryz.ntmps53
    go_wp2_with fail
    refine HP.out.mono ?_
    rintro e w1 ⟨rfl, rfl⟩
    clear HP
    go_upto_region 4 with fail
    go_still_tail 16, (by kernel_rfl)
    obtain ⟨W, hW⟩ : ∃ W, W = (w.setCell ⟨b, o + i * 11 + 2, none⟩ (.int .i64 0)).drew := ⟨_, rfl⟩
    go_upto_region 5 with fail
    rw [← hW] at HF ⊢
    clear hW f0 m0 m1 m2 m3 m4 m5 m6 m7 m8 m9 m10 c0 c1 c2 c3
    obtain ⟨c0, c1, c2, c3⟩ := rt_cells HF.out.1
    rw [HBB.out] at c2
    obtain ⟨m0, m1, m2, m3, m4, m5, m6, m7, m8, m9, m10⟩ := dh_cells HF.out.1 HBB.out hi1
    rw [HL1.out hi1] at m0 m1 m2 m3 m4 m5 m6 m7 m8 m9 m10
    dsimp only at m0 m1 m2 m3 m4 m5 m6 m7 m8 m9 m10
    have S1 := Lib.hid ((HF.out.1.alloc (dhO ⟨xi, 5, 0, xa, xn, xrd, xpt, xmo, xd, xm, (k : Int) + 1⟩)).nil_arr 146 11)
    have R1 := Lib.hid (Ran.new HF.out.2 (dhO ⟨xi, 5, 0, xa, xn, xrd, xpt, xmo, xd, xm, (k : Int) + 1⟩))
    obtain ⟨r0, r1, r2, r3, r4, r5, r6, r7, r8, r9, r10⟩ := dhO_cells (HF.out.1.alloc (dhO ⟨xi, 5, 0, xa, xn, xrd, xpt, xmo, xd, xm, (k : Int) + 1⟩))
    obtain ⟨hb, hhb⟩ : ∃ hb, hb = W.heap.size := ⟨_, rfl⟩
    obtain ⟨W2, hW2⟩ : ∃ W2, W2 = W.alloc (dhO ⟨xi, 5, 0, xa, xn, xrd, xpt, xmo, xd, xm, (k : Int) + 1⟩) := ⟨_, rfl⟩
    go_upto_region 8 with fail
    rw [← hhb, ← hW2] at S1 ⊢
    rw [← hW2] at R1
    clear r0 r1 r2 r3 r4 r5 r6 r7 r8 r9 r10 m0 m1 m2 m3 m4 m5 m6 m7 m8 m9 m10 c0 c1 c2 c3 HF hhb hW2
    go_wp2_with fail
    go_loopg [7, 8, 9] (L1.length) (fun (g : Nat) (v7 v8 v9 : Value) (wr : World) => ∃ (j : Nat) (out : List DH) (p : Option Addr) (cap : Nat), v9 = .int .i64 (j : Int) ∧ v7 = .slice p out.length cap ∧ v8 = .bool (othN ((k : Int) + 1) out) ∧ out = (L1.take j).eraseIdx i ∧ j + g = L1.length ∧ Sat wr (dhA p cap out * (pts hb (dhO ⟨xi, 5, 0, xa, xn, xrd, xpt, xmo, xd, xm, (k : Int) + 1⟩) * (rtHp c L1 qn * R))) ∧ Ran w wr)
    case atStart => exact ⟨0, [], none, 0, rfl, rfl, rfl, by simp, by omega, S1.out, R1.out⟩
    case round =>
      clear S1 R1
      obtain ⟨j, out, p, cap, rfl, rfl, rfl, hout, hgj, Sr, Rr⟩ := hrel
      have hol : out.length ≤ j := by rw [hout]; exact erase_len L1 i j
      by_cases hlt : j < L1.length
      · have hltI : (j : Int) < (L1.length : Int) := by omega
        have hj0 : (0 : Int) ≤ (j : Int) := by omega
        have hoI : (out.length : Int) ≤ 1000000 := by omega
        have c2 := (rt_cells Sr.right.right).2.2.1
        obtain ⟨⟨b9, o9, hbo⟩, hlc, hlm⟩ := rt_addr Sr.right.right hlt
        rw [hbo] at c2
        have hcm : (c.lc : Int) ≤ 9223372036854775807 := by unfold maxLen at hlm; omega
        have hlcI : (L1.length : Int) ≤ (c.lc : Int) := by omega
        by_cases hji : j = i
        · have hne : ((j : Int) != (i : Int)) = false := by simp [hji]
          have HO := Lib.hid (show out = (L1.take (j + 1)).eraseIdx i by rw [hout, hji, erase_skip L1 i (by omega)])
          have Sr := Lib.hid Sr
          have Rr := Lib.hid Rr
          clear hout hbo hlm
          go_wp2_with fail
          go_roundg (gk - 1)
          case rel => exact ⟨j + 1, out, p, cap, by simp [hji], rfl, rfl, HO.out, by omega, Sr.out, Rr.out⟩
          case measure => omega
        · have hne : ((j : Int) != (i : Int)) = true := by simp; omega
          obtain ⟨m0, m1, m2, m3, m4, m5, m6, m7, m8, m9, m10⟩ := dh_cells Sr.right.right hbo hlt
          obtain ⟨z, hz⟩ : ∃ z, z = L1[j] := ⟨_, rfl⟩
          have HO := Lib.hid (show out ++ [z] = (L1.take (j + 1)).eraseIdx i by rw [hout, erase_step L1 i j hlt hji, hz])
          rw [← hz] at m0 m1 m2 m3 m4 m5 m6 m7 m8 m9 m10
          have HM := Lib.hid (fun (W' : World) (X : Hp) (hX : Sat W' (rtHp c L1 qn * X)) => (show W'.cell? ⟨c.tb, 2, none⟩ = some (.slice (some ⟨b9, o9, none⟩) L1.length c.lc) ∧ W'.cell? ⟨b9, o9 + j * 11 + 10, none⟩ = some (.int .i64 z.pipe) by
            have e2 := (rt_cells hX).2.2.1
            rw [hbo] at e2
            have e3 := (dh_cells hX hbo hlt).2.2.2.2.2.2.2.2.2.2
            rw [← hz] at e3
            exact ⟨e2, e3⟩))
          obtain ⟨zi, zk, zr, za, zn, zrd, zpt, zmo, zd, zm, zp⟩ := z
          dsimp only at HM m0 m1 m2 m3 m4 m5 m6 m7 m8 m9 m10
          obtain ⟨ot, hot⟩ : ∃ ot, ot = othN ((k : Int) + 1) out := ⟨_, rfl⟩
          have HOT := Lib.hid (othN_snoc ((k : Int) + 1) out ⟨zi, zk, zr, za, zn, zrd, zpt, zmo, zd, zm, zp⟩)
          rw [← hot] at HOT ⊢
          have HA := Lib.hid (Sr.old (dhO ⟨zi, zk, zr, za, zn, zrd, zpt, zmo, zd, zm, zp⟩))
          have HX := Lib.hid (heap_alloc_new wr (dhO ⟨zi, zk, zr, za, zn, zrd, zpt, zmo, zd, zm, zp⟩))
          have RA := Lib.hid (Ran.new Rr (dhO ⟨zi, zk, zr, za, zn, zrd, zpt, zmo, zd, zm, zp⟩))
          clear hout hbo hlm hz hot Sr Rr
          cases ot with
          | true =>
            go_upto_region 15 with (at_builtin; go_loud (refine appDH rfl _ _ rfl p out.length cap out ⟨zi, zk, zr, za, zn, zrd, zpt, zmo, zd, zm, zp⟩ rfl rfl _ rfl HX.out HA.out (by omega) ?_; intro p' cap' w6 T6 R6; clear HA HX c2 m0 m1 m2 m3 m4 m5 m6 m7 m8 m9 m10))
            obtain ⟨n2, n10⟩ := HM.out _ _ (T6.perm (show _ = rtHp c L1 qn * (dhA p' cap' (out ++ [⟨zi, zk, zr, za, zn, zrd, zpt, zmo, zd, zm, zp⟩]) * (pts hb (dhO ⟨xi, 5, 0, xa, xn, xrd, xpt, xmo, xd, xm, (k : Int) + 1⟩) * R)) by ac_rfl)).drew
            have nr := (dhO_cells T6.drew.right).2.2.2.2.2.2.2.2.2.2
            dsimp only at nr
            have T6 := Lib.hid T6.drew
            have R6 := Lib.hid (Ran.drewN (Below.trans RA.out R6) 1)
            refine region_plan (S := (fun w' => w'.cell? ⟨c.tb, 2, none⟩ = some (.slice (some ⟨b9, o9, none⟩) L1.length c.lc) ∧ w'.cell? ⟨b9, o9 + j * 11 + 10, none⟩ = some (.int .i64 zp) ∧ w'.cell? ⟨hb, 10, none⟩ = some (.int .i64 ((k : Int) + 1)))) [(0, true), (1, true), (2, true), (3, true), (4, true), (5, true), (6, true), (7, true), (8, true), (9, true), (10, true), (11, true), (12, true), (13, true), (14, true), (15, true), (16, true), (17, true), (18, true), (19, true)] (by kernel_rfl) (by kernel_rfl) (by kernel_rfl) ?_ ?_
            · ((try dsimp only); (first | done | (exact ⟨n2, n10, nr⟩)))
            simp only [planOps, List.map_cons, List.map_nil, List.getElem?_toArray, List.getElem?_cons_zero, List.getElem?_cons_succ]
            repeat (first
              | ((refine plan_yes (v := ?_) (by rfl) ?_ ?_); rotate_left; (focus (intro w hSw; (try dsimp only at hSw); go_simp; try (with_reducible rfl))); (try simp only [Act.put, List.setIfInBounds_toArray, List.set_cons_zero, List.set_cons_succ]))
              | ((refine plan_no (by rfl) ?_); (try simp only [Act.put, List.setIfInBounds_toArray, List.set_cons_zero, List.set_cons_succ]))
              | ((refine plan_step (fun K hK => ?_)); (first | (fail) | (go_simp; (fail); (try go_wp2_with fail)) | go_simp); (refine hK.out _ _ ?_ (fun hHeld => ?_)); (focus ((try dsimp only); (first | done | (exact ⟨n2, n10, nr⟩)))); clear hK K; (try simp only [Act.put, List.setIfInBounds_toArray, List.set_cons_zero, List.set_cons_succ])))
            refine plan_done ?_
            go_wp2_with fail
            go_roundg (gk - 1)
            case rel => exact ⟨j + 1, _, p', cap', by simp, by simp, by rw [HOT.out]; simp, HO.out, by omega, T6.out, R6.out⟩
            case measure => omega
          | false =>
            go_upto_region 15 with (at_builtin; go_loud (refine appDH rfl _ _ rfl p out.length cap out ⟨zi, zk, zr, za, zn, zrd, zpt, zmo, zd, zm, zp⟩ rfl rfl _ rfl HX.out HA.out (by omega) ?_; intro p' cap' w6 T6 R6; clear HA HX c2 m0 m1 m2 m3 m4 m5 m6 m7 m8 m9 m10))
            obtain ⟨n2, n10⟩ := HM.out _ _ (T6.perm (show _ = rtHp c L1 qn * (dhA p' cap' (out ++ [⟨zi, zk, zr, za, zn, zrd, zpt, zmo, zd, zm, zp⟩]) * (pts hb (dhO ⟨xi, 5, 0, xa, xn, xrd, xpt, xmo, xd, xm, (k : Int) + 1⟩) * R)) by ac_rfl)).drew
            have nr := (dhO_cells T6.drew.right).2.2.2.2.2.2.2.2.2.2
            dsimp only at nr
            have T6 := Lib.hid T6.drew
            have R6 := Lib.hid (Ran.drewN (Below.trans RA.out R6) 1)
            refine region_plan (S := (fun w' => w'.cell? ⟨c.tb, 2, none⟩ = some (.slice (some ⟨b9, o9, none⟩) L1.length c.lc) ∧ w'.cell? ⟨b9, o9 + j * 11 + 10, none⟩ = some (.int .i64 zp) ∧ w'.cell? ⟨hb, 10, none⟩ = some (.int .i64 ((k : Int) + 1)))) [(0, true), (1, true), (2, true), (3, true), (4, true), (5, true), (6, true), (7, true), (8, true), (9, true), (10, true), (11, true), (12, true), (13, true), (14, true), (15, true), (16, true), (17, true), (18, true), (19, true)] (by kernel_rfl) (by kernel_rfl) (by kernel_rfl) ?_ ?_
            · ((try dsimp only); (first | done | (exact ⟨n2, n10, nr⟩)))
            simp only [planOps, List.map_cons, List.map_nil, List.getElem?_toArray, List.getElem?_cons_zero, List.getElem?_cons_succ]
            repeat (first
              | ((refine plan_yes (v := ?_) (by rfl) ?_ ?_); rotate_left; (focus (intro w hSw; (try dsimp only at hSw); go_simp; try (with_reducible rfl))); (try simp only [Act.put, List.setIfInBounds_toArray, List.set_cons_zero, List.set_cons_succ]))
              | ((refine plan_no (by rfl) ?_); (try simp only [Act.put, List.setIfInBounds_toArray, List.set_cons_zero, List.set_cons_succ]))
              | ((refine plan_step (fun K hK => ?_)); (first | (fail) | (go_simp; (fail); (try go_wp2_with fail)) | go_simp); (refine hK.out _ _ ?_ (fun hHeld => ?_)); (focus ((try dsimp only); (first | done | (exact ⟨n2, n10, nr⟩)))); clear hK K; (try simp only [Act.put, List.setIfInBounds_toArray, List.set_cons_zero, List.set_cons_succ])))
            refine plan_done ?_
            go_wp2_with fail
            go_roundg (gk - 1)
            case rel => exact ⟨j + 1, _, p', cap', by simp, by simp, by rw [HOT.out]; simp, HO.out, by omega, T6.out, R6.out⟩
            case measure => omega
      · have hge : (L1.length : Int) ≤ (j : Int) := by omega
        have HO := Lib.hid (show out = L1.eraseIdx i by rw [hout, List.take_of_length_le (by omega)])
        have c2 := (rt_cells Sr.right.right).2.2.1
        have f0 : ∀ i, wr.frozen? ⟨c.tb, i, none⟩ = false := fun i => rt_free Sr.right.right i
        have S9 := rt_new (Sr.perm (show _ = dhA p cap out * (rtHp c L1 qn * (pts hb (dhO ⟨xi, 5, 0, xa, xn, xrd, xpt, xmo, xd, xm, (k : Int) + 1⟩) * R)) by ac_rfl))
        have R9 := Lib.hid (Ran.set Rr ⟨c.tb, 2, none⟩ (.slice p out.length cap))
        have S9 := S9.perm (show _ = pts hb (dhO ⟨xi, 5, 0, xa, xn, xrd, xpt, xmo, xd, xm, (k : Int) + 1⟩) * (rtHp { c with lp := p, lc := cap } out qn * R) by ac_rfl)
        obtain ⟨r0, r1, r2, r3, r4, r5, r6, r7, r8, r9, r10⟩ := dhO_cells S9
        dsimp only at r0 r1 r2 r3 r4 r5 r6 r7 r8 r9 r10
        have S9 := Lib.hid S9
        clear hout Sr Rr hol
        have hot : othN ((k : Int) + 1) out = true := by rw [HO.out]; exact HOTH.out
        rw [hot]
        clear hot
        go_wp2_with fail
        go_ret
        exact ⟨⟨rfl, p, cap, by rw [← HO.out]; exact S9.out.right⟩, R9.out⟩
end
end Go.Proofs.YtljlpkeddbfpaaaGreatDoor.Hd

