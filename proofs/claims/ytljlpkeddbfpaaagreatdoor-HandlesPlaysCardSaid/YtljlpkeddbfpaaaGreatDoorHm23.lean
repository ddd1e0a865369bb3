/- HandlesPlays, part 23 of 34: the texts HdPn HdPo, joined by a program. -/
import Derived.Test.YtljlpkeddbfpaaaGreatDoorHm22
namespace Go.Proofs.YtljlpkeddbfpaaaGreatDoor.Hd
open Go.RowKit Go.Maps Go.Proofs.YtljlpkeddbfpaaaGreatDoor Go.Proofs.YtljlpkeddbfpaaaGreatDoor.Hp
set_option linter.unusedVariables false
attribute [local go_sem] Oper.semAt_some

section
variable {w : World} {c : RT} {L : List DH} {qn : Nat} {R : Hp}
set_option maxRecDepth 100000 in
set_option maxHeartbeats 4000000 in
theorem RUnref_none (id : Int) (hL : L.length ≤ 1000000) (hp : placeN L id 0 = -1) (h : Sat w (rtHp c L qn * R)) :
    Calls Tryz.prog 53 #[pp c.tb, .int .i64 id] w fun e w' => e = .returned (.int .i64 18) ∧ w = w' := by
  have HP := rplace_calls c L qn id hL w R h
  rw [hp] at HP
  have HP := Lib.hid HP
  clear h hp
  go_enter Tryz.func53, Tryz.ntmps53
  go_wp2_with fail
  refine HP.out.mono ?_
  rintro e w1 ⟨rfl, rfl⟩
  clear HP
  go_wp2_with fail
  go_ret
  exact ⟨rfl, rfl⟩
set_option maxRecDepth 100000 in
set_option maxHeartbeats 4000000 in
/-- One ref of several is gone. -/
theorem RUnref_more (id : Int) (i : Nat) (hL : L.length ≤ 1000000) (hi : i < L.length) (hp : placeN L id 0 = (i : Int)) (hr : 1 < L[i].refs ∧ L[i].refs ≤ 1000000) (h : Sat w (rtHp c L qn * R)) :
    Calls Tryz.prog 53 #[pp c.tb, .int .i64 id] w fun e w' => (e = .returned (.int .i64 0) ∧ Sat w' (rtHp c (L.set i { L[i] with refs := L[i].refs - 1 }) qn * R)) ∧ Ran w w' := by
  have HP := rplace_calls c L qn id hL w R h
  rw [hp] at HP
  have HP := Lib.hid HP
  obtain ⟨c0, c1, c2, c3⟩ := rt_cells h
  obtain ⟨⟨b, o, hb⟩, hlc, hlm⟩ := rt_addr h hi
  obtain ⟨m0, m1, m2, m3, m4, m5, m6, m7, m8, m9, m10⟩ := dh_cells h hb hi
  have hbb := hb
  rw [hb] at c2
  have hcm : (c.lc : Int) ≤ 9223372036854775807 := by unfold maxLen at hlm; omega
  have hiI : (i : Int) < (L.length : Int) := by omega
  have hi0 : (0 : Int) ≤ (i : Int) := by omega
  have hLI : (L.length : Int) ≤ 1000000 := by omega
  obtain ⟨x, hx⟩ : ∃ x, x = L[i] := ⟨_, rfl⟩
  rw [← hx] at m0 m1 m2 m3 m4 m5 m6 m7 m8 m9 m10
  have HS0 := h.alloc (dhO x)
  obtain ⟨r0, r1, r2, r3, r4, r5, r6, r7, r8, r9, r10⟩ := dhO_cells HS0
  have S1 := And.intro (h.old (dhO x)) (Ran.new (Below.refl 0 w) (dhO x))
  rw [← hx] at hr ⊢
  have S4 := (dh_set h hbb hi 2 (.int .i64 (x.refs - 1)) { x with refs := x.refs - 1 } (by omega) (by rw [← hx]; rfl)).drew
  have R4 := Ran.drewN (Ran.set (Below.refl 0 w) ⟨b, o + i * 11 + 2, none⟩ (.int .i64 (x.refs - 1))) 1
  have f0 : ∀ j, w.frozen? ⟨b, j, none⟩ = false := fun j => by
    have := rt_arr h; rw [hbb] at this; exact this.arr_free j
  have S4 : Sat ((w.setCell ⟨b, o + i * 11 + 2, none⟩ (.int .i64 (x.refs - 1))).drew) (rtHp c (L.set i { x with refs := x.refs - 1 }) qn * R) := S4
  have R4 : Ran w ((w.setCell ⟨b, o + i * 11 + 2, none⟩ (.int .i64 (x.refs - 1))).drew) := R4
  have HBB := Lib.hid (And.intro hbb hi)
  obtain ⟨xi, xk, xr, xa, xn, xrd, xpt, xmo, xd, xm, xp⟩ := x
  dsimp only at hr S4 R4 m0 m1 m2 m3 m4 m5 m6 m7 m8 m9 m10 ⊢
  have HF := Lib.hid (And.intro S4 R4)
  have hr1 : IntKind.i64.wrap (xr - 1) = xr - 1 := IntWalk.i64_in _ (by omega)
  obtain ⟨hr0, hr2⟩ := hr
  clear h hp hx hb hbb hlm HS0 S1 S4 R4 r0 r1 r2 r3 r4 r5 r6 r7 r8 r9 r10
  go_enter Tryz.func53, Tryz.ntmps53
  go_wp2_with fail
  refine HP.out.mono ?_
  rintro e w1 ⟨rfl, rfl⟩
  clear HP
  go_upto_region 4 with fail
  go_still_tail 16, (by kernel_rfl)
  obtain ⟨W, hW⟩ : ∃ W, W = (w.setCell ⟨b, o + i * 11 + 2, none⟩ (.int .i64 (xr - 1))).drew := ⟨_, rfl⟩
  go_upto_region 5 with fail
  rw [← hW] at HF ⊢
  clear hW f0 m0 m1 m2 m3 m4 m5 m6 m7 m8 m9 m10 c0 c1 c2 c3
  obtain ⟨c0, c1, c2, c3⟩ := rt_cells HF.out.1
  rw [HBB.out.1, List.length_set] at c2
  have hi2 : i < (L.set i (⟨xi, xk, xr - 1, xa, xn, xrd, xpt, xmo, xd, xm, xp⟩ : DH)).length := by rw [List.length_set]; exact HBB.out.2
  obtain ⟨m0, m1, m2, m3, m4, m5, m6, m7, m8, m9, m10⟩ := dh_cells HF.out.1 HBB.out.1 hi2
  rw [List.getElem_set_self] at m0 m1 m2 m3 m4 m5 m6 m7 m8 m9 m10
  dsimp only at m0 m1 m2 m3 m4 m5 m6 m7 m8 m9 m10
  have S1 := Lib.hid (And.intro (HF.out.1.old (dhO ⟨xi, xk, xr - 1, xa, xn, xrd, xpt, xmo, xd, xm, xp⟩)) (Ran.new HF.out.2 (dhO ⟨xi, xk, xr - 1, xa, xn, xrd, xpt, xmo, xd, xm, xp⟩)))
  obtain ⟨r0, r1, r2, r3, r4, r5, r6, r7, r8, r9, r10⟩ := dhO_cells (HF.out.1.alloc (dhO ⟨xi, xk, xr - 1, xa, xn, xrd, xpt, xmo, xd, xm, xp⟩))
  have hd : decide (xr - 1 > 0) = true := decide_eq_true (by omega)
  have hd2 : decide (0 < xr - 1) = true := decide_eq_true (by omega)
  have hd3 : 0 < xr - 1 := by omega
  go_wp2_with fail
  go_ret
  exact ⟨⟨rfl, S1.out.1⟩, S1.out.2⟩
end
end Go.Proofs.YtljlpkeddbfpaaaGreatDoor.Hd

namespace Go.Proofs.YtljlpkeddbfpaaaGreatDoor.Hd
open Go.RowKit Go.Maps Go.Proofs.YtljlpkeddbfpaaaGreatDoor Go.Proofs.YtljlpkeddbfpaaaGreatDoor.Hp
set_option linter.unusedVariables false
attribute [local go_sem] Oper.semAt_some

/-- Does one of them have that pipe? -/
def othN (p : Int) (l : List DH) : Bool := l.any fun y => decide (0 < p) && (y.pipe == p)
theorem othN_snoc (p : Int) (l : List DH) (y : DH) : othN p (l ++ [y]) = (othN p l || (decide (0 < p) && (y.pipe == p))) := by
  unfold othN; rw [List.any_append]; simp
theorem erase_step (L : List DH) (i j : Nat) (hj : j < L.length) (hij : j ≠ i) : (L.take (j + 1)).eraseIdx i = (L.take j).eraseIdx i ++ [L[j]] := by
  rw [List.take_succ_eq_append_getElem hj]
  by_cases h : i < j
  · rw [List.eraseIdx_append_of_lt_length (by rw [List.length_take]; omega)]
  · rw [List.eraseIdx_of_length_le (by simp; omega), List.eraseIdx_of_length_le (by simp; omega)]
theorem erase_skip (L : List DH) (i : Nat) (hj : i < L.length) : (L.take (i + 1)).eraseIdx i = (L.take i).eraseIdx i := by
  rw [List.take_succ_eq_append_getElem hj, List.eraseIdx_append_of_length_le (by rw [List.length_take]; omega), List.eraseIdx_of_length_le (l := L.take i) (by rw [List.length_take]; omega), List.length_take, show i - min i L.length = 0 by omega]
  simp
theorem erase_len (L : List DH) (i j : Nat) : ((L.take j).eraseIdx i).length ≤ j := by
  refine Nat.le_trans (List.length_eraseIdx_le _ _) ?_
  rw [List.length_take]; omega
section
variable {w : World} {c : RT} {L : List DH} {qn : Nat} {R : Hp}
set_option maxRecDepth 100000 in
set_option maxHeartbeats 4000000 in
/-- The last ref of a text or a sink is gone. -/
theorem RUnref_plain (id : Int) (i : Nat) (hL : L.length ≤ 900000) (hi : i < L.length) (hp : placeN L id 0 = (i : Int)) (hr : L[i].refs = 1) (hkd : L[i].kind = 2 ∨ L[i].kind = 3) (hpi : L[i].pipe = 0) (h : Sat w (rtHp c L qn * R)) :
    Calls Tryz.prog 53 #[pp c.tb, .int .i64 id] w fun e w' => (e = .returned (.int .i64 0) ∧ ∃ lp lc, Sat w' (rtHp { c with lp := lp, lc := lc } (L.eraseIdx i) qn * R)) ∧ Ran w w' := by
  have HP := rplace_calls c L qn id (by omega) w _ h
  rw [hp] at HP
  have HP := Lib.hid HP
  obtain ⟨c0, c1, c2, c3⟩ := rt_cells h
  obtain ⟨⟨b, o, hb⟩, hlc, hlm⟩ := rt_addr h hi
  obtain ⟨m0, m1, m2, m3, m4, m5, m6, m7, m8, m9, m10⟩ := dh_cells h hb hi
  have hbb := hb
  rw [hb] at c2
  have hcm : (c.lc : Int) ≤ 9223372036854775807 := by unfold maxLen at hlm; omega
  have hiI : (i : Int) < (L.length : Int) := by omega
  have hi0 : (0 : Int) ≤ (i : Int) := by omega
  have hLI : (L.length : Int) ≤ 1000000 := by omega
  obtain ⟨x, hx⟩ : ∃ x, x = L[i] := ⟨_, rfl⟩
  rw [← hx] at m0 m1 m2 m3 m4 m5 m6 m7 m8 m9 m10
  have HS0 := h.alloc (dhO x)
  obtain ⟨r0, r1, r2, r3, r4, r5, r6, r7, r8, r9, r10⟩ := dhO_cells HS0
  have S1 := And.intro (h.old (dhO x)) (Ran.new (Below.refl 0 w) (dhO x))
  obtain ⟨L1, hL1⟩ : ∃ L1, L1 = L.set i { x with refs := 0 } := ⟨_, rfl⟩
  have he : L.eraseIdx i = L1.eraseIdx i := by rw [hL1, List.eraseIdx_set_eq]
  rw [he]
  rw [← hx] at hr hkd hpi
  have f0 : ∀ j, w.frozen? ⟨b, j, none⟩ = false := fun j => by
    have := rt_arr h; rw [hbb] at this; exact this.arr_free j
  have HF : Sat ((w.setCell ⟨b, o + i * 11 + 2, none⟩ (.int .i64 0)).drew) (rtHp c L1 qn * (R)) ∧ Ran w ((w.setCell ⟨b, o + i * 11 + 2, none⟩ (.int .i64 0)).drew) := by
    rw [hL1]
    exact ⟨(dh_set h hbb hi 2 (.int .i64 0) { x with refs := 0 } (by omega) (by rw [← hx]; rfl)).drew, Ran.drewN (Ran.set (Below.refl 0 w) ⟨b, o + i * 11 + 2, none⟩ (.int .i64 0)) 1⟩
  have hl1 : L1.length = L.length := by rw [hL1, List.length_set]
  have hi1 : i < L1.length := by omega
  have hg1 : L1[i] = { x with refs := 0 } := by
    subst hL1; rw [List.getElem_set_self]
  have HF := Lib.hid HF
  have HBB := Lib.hid hbb
  obtain ⟨xi, xk, xr, xa, xn, xrd, xpt, xmo, xd, xm, xp⟩ := x
  dsimp only at hr hg1 hkd hpi m0 m1 m2 m3 m4 m5 m6 m7 m8 m9 m10 ⊢
  subst hr
  subst hpi
  have HL1 := Lib.hid (fun h : i < L1.length => (hg1 : L1[i] = ⟨xi, xk, 0, xa, xn, xrd, xpt, xmo, xd, xm, 0⟩))
  have hi1I : (i : Int) < (L1.length : Int) := by omega
  have hL1I : (L1.length : Int) ≤ 900000 := by omega
  clear h hp hx hb hbb hlm HS0 S1 hL1 he hl1 hg1 r0 r1 r2 r3 r4 r5 r6 r7 r8 r9 r10
  rcases hkd with rfl | rfl
  · go_enter Tryz.func53, Tryz.ntmps53
    go_wp2_with fail
    refine HP.out.mono ?_
    rintro e w1 ⟨rfl, rfl⟩
    clear HP
    go_upto_region 4 with fail
    go_still_tail 16, (by kernel_rfl)
    obtain ⟨W, hW⟩ : ∃ W, W = (w.setCell ⟨b, o + i * 11 + 2, none⟩ (.int .i64 0)).drew := ⟨_, rfl⟩
    go_upto_region 5 with fail
    rw [← hW] at HF ⊢
    clear hW f0 m0 m1 m2 m3 m4 m5 m6 m7 m8 m9 m10 c0 c1 c2 c3
    obtain ⟨c0, c1, c2, c3⟩ := rt_cells HF.out.1
    rw [HBB.out] at c2
    obtain ⟨m0, m1, m2, m3, m4, m5, m6, m7, m8, m9, m10⟩ := dh_cells HF.out.1 HBB.out hi1
    rw [HL1.out hi1] at m0 m1 m2 m3 m4 m5 m6 m7 m8 m9 m10
    dsimp only at m0 m1 m2 m3 m4 m5 m6 m7 m8 m9 m10
    have S1 := Lib.hid ((HF.out.1.alloc (dhO ⟨xi, 2, 0, xa, xn, xrd, xpt, xmo, xd, xm, 0⟩)).nil_arr 146 11)
    have R1 := Lib.hid (Ran.new HF.out.2 (dhO ⟨xi, 2, 0, xa, xn, xrd, xpt, xmo, xd, xm, 0⟩))
    obtain ⟨r0, r1, r2, r3, r4, r5, r6, r7, r8, r9, r10⟩ := dhO_cells (HF.out.1.alloc (dhO ⟨xi, 2, 0, xa, xn, xrd, xpt, xmo, xd, xm, 0⟩))
    obtain ⟨hb, hhb⟩ : ∃ hb, hb = W.heap.size := ⟨_, rfl⟩
    obtain ⟨W2, hW2⟩ : ∃ W2, W2 = W.alloc (dhO ⟨xi, 2, 0, xa, xn, xrd, xpt, xmo, xd, xm, 0⟩) := ⟨_, rfl⟩
    go_upto_region 8 with fail
    rw [← hhb, ← hW2] at S1 ⊢
    rw [← hW2] at R1
    clear r0 r1 r2 r3 r4 r5 r6 r7 r8 r9 r10 m0 m1 m2 m3 m4 m5 m6 m7 m8 m9 m10 c0 c1 c2 c3 HF hhb hW2
    go_wp2_with fail
    go_loopg [7, 8, 9] (L1.length) (fun (g : Nat) (v7 v8 v9 : Value) (wr : World) => ∃ (j : Nat) (out : List DH) (p : Option Addr) (cap : Nat), v9 = .int .i64 (j : Int) ∧ v7 = .slice p out.length cap ∧ v8 = .bool (othN (0 : Int) out) ∧ out = (L1.take j).eraseIdx i ∧ j + g = L1.length ∧ Sat wr (dhA p cap out * (pts hb (dhO ⟨xi, 2, 0, xa, xn, xrd, xpt, xmo, xd, xm, 0⟩) * (rtHp c L1 qn * R))) ∧ Ran w wr)
    case atStart => exact ⟨0, [], none, 0, rfl, rfl, rfl, by simp, by omega, S1.out, R1.out⟩
    case round =>
      clear S1 R1
      obtain ⟨j, out, p, cap, rfl, rfl, rfl, hout, hgj, Sr, Rr⟩ := hrel
      have hol : out.length ≤ j := by rw [hout]; exact erase_len L1 i j
      by_cases hlt : j < L1.length
      · have hltI : (j : Int) < (L1.length : Int) := by omega
        have hj0 : (0 : Int) ≤ (j : Int) := by omega
        have hoI : (out.length : Int) ≤ 1000000 := by omega
        have c2 := (rt_cells Sr.right.right).2.2.1
        obtain ⟨⟨b9, o9, hbo⟩, hlc, hlm⟩ := rt_addr Sr.right.right hlt
        rw [hbo] at c2
        have hcm : (c.lc : Int) ≤ 9223372036854775807 := by unfold maxLen at hlm; omega
        have hlcI : (L1.length : Int) ≤ (c.lc : Int) := by omega
        by_cases hji : j = i
        · have hne : ((j : Int) != (i : Int)) = false := by simp [hji]
          have HO := Lib.hid (show out = (L1.take (j + 1)).eraseIdx i by rw [hout, hji, erase_skip L1 i (by omega)])
          have Sr := Lib.hid Sr
          have Rr := Lib.hid Rr
          clear hout hbo hlm
          go_wp2_with fail
          go_roundg (gk - 1)
          case rel => exact ⟨j + 1, out, p, cap, by simp [hji], rfl, rfl, HO.out, by omega, Sr.out, Rr.out⟩
          case measure => omega
        · have hne : ((j : Int) != (i : Int)) = true := by simp; omega
          obtain ⟨m0, m1, m2, m3, m4, m5, m6, m7, m8, m9, m10⟩ := dh_cells Sr.right.right hbo hlt
          obtain ⟨z, hz⟩ : ∃ z, z = L1[j] := ⟨_, rfl⟩
          have HO := Lib.hid (show out ++ [z] = (L1.take (j + 1)).eraseIdx i by rw [hout, erase_step L1 i j hlt hji, hz])
          rw [← hz] at m0 m1 m2 m3 m4 m5 m6 m7 m8 m9 m10
          have HM := Lib.hid (fun (W' : World) (X : Hp) (hX : Sat W' (rtHp c L1 qn * X)) => (show W'.cell? ⟨c.tb, 2, none⟩ = some (.slice (some ⟨b9, o9, none⟩) L1.length c.lc) ∧ W'.cell? ⟨b9, o9 + j * 11 + 10, none⟩ = some (.int .i64 z.pipe) by
            have e2 := (rt_cells hX).2.2.1
            rw [hbo] at e2
            have e3 := (dh_cells hX hbo hlt).2.2.2.2.2.2.2.2.2.2
            rw [← hz] at e3
            exact ⟨e2, e3⟩))
          obtain ⟨zi, zk, zr, za, zn, zrd, zpt, zmo, zd, zm, zp⟩ := z
          dsimp only at HM m0 m1 m2 m3 m4 m5 m6 m7 m8 m9 m10
          obtain ⟨ot, hot⟩ : ∃ ot, ot = othN (0 : Int) out := ⟨_, rfl⟩
          have HOT := Lib.hid (othN_snoc (0 : Int) out ⟨zi, zk, zr, za, zn, zrd, zpt, zmo, zd, zm, zp⟩)
          rw [← hot] at HOT ⊢
          have HA := Lib.hid (Sr.old (dhO ⟨zi, zk, zr, za, zn, zrd, zpt, zmo, zd, zm, zp⟩))
          have HX := Lib.hid (heap_alloc_new wr (dhO ⟨zi, zk, zr, za, zn, zrd, zpt, zmo, zd, zm, zp⟩))
          have RA := Lib.hid (Ran.new Rr (dhO ⟨zi, zk, zr, za, zn, zrd, zpt, zmo, zd, zm, zp⟩))
          clear hout hbo hlm hz hot Sr Rr
          cases ot with
          | true =>
            go_upto_region 15 with (at_builtin; go_loud (refine appDH rfl _ _ rfl p out.length cap out ⟨zi, zk, zr, za, zn, zrd, zpt, zmo, zd, zm, zp⟩ rfl rfl _ rfl HX.out HA.out (by omega) ?_; intro p' cap' w6 T6 R6; clear HA HX c2 m0 m1 m2 m3 m4 m5 m6 m7 m8 m9 m10))
            obtain ⟨n2, n10⟩ := HM.out _ _ (T6.perm (show _ = rtHp c L1 qn * (dhA p' cap' (out ++ [⟨zi, zk, zr, za, zn, zrd, zpt, zmo, zd, zm, zp⟩]) * (pts hb (dhO ⟨xi, 2, 0, xa, xn, xrd, xpt, xmo, xd, xm, 0⟩) * R)) by ac_rfl)).drew
            have nr := (dhO_cells T6.drew.right).2.2.2.2.2.2.2.2.2.2
            dsimp only at nr
            have T6 := Lib.hid T6.drew
            have R6 := Lib.hid (Ran.drewN (Below.trans RA.out R6) 1)
            refine region_plan (S := (fun w' => w'.cell? ⟨c.tb, 2, none⟩ = some (.slice (some ⟨b9, o9, none⟩) L1.length c.lc) ∧ w'.cell? ⟨b9, o9 + j * 11 + 10, none⟩ = some (.int .i64 zp) ∧ w'.cell? ⟨hb, 10, none⟩ = some (.int .i64 (0 : Int)))) [(0, true), (1, true), (2, true), (3, true), (4, true), (5, true), (6, true), (7, true), (8, true), (9, true), (10, true), (11, true), (12, true), (13, true), (14, true), (15, true), (16, true), (17, true), (18, true), (19, true)] (by kernel_rfl) (by kernel_rfl) (by kernel_rfl) ?_ ?_
            · ((try dsimp only); (first | done | (exact ⟨n2, n10, nr⟩)))
            simp only [planOps, List.map_cons, List.map_nil, List.getElem?_toArray, List.getElem?_cons_zero, List.getElem?_cons_succ]
            repeat (first
              | ((refine plan_yes (v := ?_) (by rfl) ?_ ?_); rotate_left; (focus (intro w hSw; (try dsimp only at hSw); go_simp; try (with_reducible rfl))); (try simp only [Act.put, List.setIfInBounds_toArray, List.set_cons_zero, List.set_cons_succ]))
              | ((refine plan_no (by rfl) ?_); (try simp only [Act.put, List.setIfInBounds_toArray, List.set_cons_zero, List.set_cons_succ]))
              | ((refine plan_step (fun K hK => ?_)); (first | (fail) | (go_simp; (fail); (try go_wp2_with fail)) | go_simp); (refine hK.out _ _ ?_ (fun hHeld => ?_)); (focus ((try dsimp only); (first | done | (exact ⟨n2, n10, nr⟩)))); clear hK K; (try simp only [Act.put, List.setIfInBounds_toArray, List.set_cons_zero, List.set_cons_succ])))
            refine plan_done ?_
            go_wp2_with fail
            go_roundg (gk - 1)
            case rel => exact ⟨j + 1, _, p', cap', by simp, by simp, by rw [HOT.out]; simp, HO.out, by omega, T6.out, R6.out⟩
            case measure => omega
          | false =>
            go_upto_region 15 with (at_builtin; go_loud (refine appDH rfl _ _ rfl p out.length cap out ⟨zi, zk, zr, za, zn, zrd, zpt, zmo, zd, zm, zp⟩ rfl rfl _ rfl HX.out HA.out (by omega) ?_; intro p' cap' w6 T6 R6; clear HA HX c2 m0 m1 m2 m3 m4 m5 m6 m7 m8 m9 m10))
            obtain ⟨n2, n10⟩ := HM.out _ _ (T6.perm (show _ = rtHp c L1 qn * (dhA p' cap' (out ++ [⟨zi, zk, zr, za, zn, zrd, zpt, zmo, zd, zm, zp⟩]) * (pts hb (dhO ⟨xi, 2, 0, xa, xn, xrd, xpt, xmo, xd, xm, 0⟩) * R)) by ac_rfl)).drew
            have nr := (dhO_cells T6.drew.right).2.2.2.2.2.2.2.2.2.2
            dsimp only at nr
            have T6 := Lib.hid T6.drew
            have R6 := Lib.hid (Ran.drewN (Below.trans RA.out R6) 1)
            refine region_plan (S := (fun w' => w'.cell? ⟨c.tb, 2, none⟩ = some (.slice (some ⟨b9, o9, none⟩) L1.length c.lc) ∧ w'.cell? ⟨b9, o9 + j * 11 + 10, none⟩ = some (.int .i64 zp) ∧ w'.cell? ⟨hb, 10, none⟩ = some (.int .i64 (0 : Int)))) [(0, true), (1, true), (2, true), (3, true), (4, true), (5, true), (6, true), (7, true), (8, true), (9, true), (10, true), (11, true), (12, true), (13, true), (14, true), (15, true), (16, true), (17, true), (18, true), (19, true)] (by kernel_rfl) (by kernel_rfl) (by kernel_rfl) ?_ ?_
            · ((try dsimp only); (first | done | (exact ⟨n2, n10, nr⟩)))
            simp only [planOps, List.map_cons, List.map_nil, List.getElem?_toArray, List.getElem?_cons_zero, List.getElem?_cons_succ]
            repeat (first
              | ((refine plan_yes (v := ?_) (by rfl) ?_ ?_); rotate_left; (focus (intro w hSw; (try dsimp only at hSw); go_simp; try (with_reducible rfl))); (try simp only [Act.put, List.setIfInBounds_toArray, List.set_cons_zero, List.set_cons_succ]))
              | ((refine plan_no (by rfl) ?_); (try simp only [Act.put, List.setIfInBounds_toArray, List.set_cons_zero, List.set_cons_succ]))
              | ((refine plan_step (fun K hK => ?_)); (first | (fail) | (go_simp; (fail); (try go_wp2_with fail)) | go_simp); (refine hK.out _ _ ?_ (fun hHeld => ?_)); (focus ((try dsimp only); (first | done | (exact ⟨n2, n10, nr⟩)))); clear hK K; (try simp only [Act.put, List.setIfInBounds_toArray, List.set_cons_zero, List.set_cons_succ])))
            refine plan_done ?_
            go_wp2_with fail
            go_roundg (gk - 1)
            case rel => exact ⟨j + 1, _, p', cap', by simp, by simp, by rw [HOT.out]; simp, HO.out, by omega, T6.out, R6.out⟩
            case measure => omega
      · have hge : (L1.length : Int) ≤ (j : Int) := by omega
        have HO := Lib.hid (show out = L1.eraseIdx i by rw [hout, List.take_of_length_le (by omega)])
        have c2 := (rt_cells Sr.right.right).2.2.1
        have f0 : ∀ i, wr.frozen? ⟨c.tb, i, none⟩ = false := fun i => rt_free Sr.right.right i
        have S9 := rt_new (Sr.perm (show _ = dhA p cap out * (rtHp c L1 qn * (pts hb (dhO ⟨xi, 2, 0, xa, xn, xrd, xpt, xmo, xd, xm, 0⟩) * R)) by ac_rfl))
        have R9 := Lib.hid (Ran.set Rr ⟨c.tb, 2, none⟩ (.slice p out.length cap))
        have S9 := S9.perm (show _ = pts hb (dhO ⟨xi, 2, 0, xa, xn, xrd, xpt, xmo, xd, xm, 0⟩) * (rtHp { c with lp := p, lc := cap } out qn * R) by ac_rfl)
        obtain ⟨r0, r1, r2, r3, r4, r5, r6, r7, r8, r9, r10⟩ := dhO_cells S9
        dsimp only at r0 r1 r2 r3 r4 r5 r6 r7 r8 r9 r10
        have S9 := Lib.hid S9
        clear hout Sr Rr hol
        go_wp2_with fail
        go_ret
        exact ⟨⟨rfl, p, cap, by rw [← HO.out]; exact S9.out.right⟩, R9.out⟩
  · go_enter Tryz.func53, Tryz.ntmps53
    go_wp2_with fail
    refine HP.out.mono ?_
    rintro e w1 ⟨rfl, rfl⟩
    clear HP
    go_upto_region 4 with fail
    go_still_tail 16, (by kernel_rfl)
    obtain ⟨W, hW⟩ : ∃ W, W = (w.setCell ⟨b, o + i * 11 + 2, none⟩ (.int .i64 0)).drew := ⟨_, rfl⟩
    go_upto_region 5 with fail
    rw [← hW] at HF ⊢
    clear hW f0 m0 m1 m2 m3 m4 m5 m6 m7 m8 m9 m10 c0 c1 c2 c3
    obtain ⟨c0, c1, c2, c3⟩ := rt_cells HF.out.1
    rw [HBB.out] at c2
    obtain ⟨m0, m1, m2, m3, m4, m5, m6, m7, m8, m9, m10⟩ := dh_cells HF.out.1 HBB.out hi1
    rw [HL1.out hi1] at m0 m1 m2 m3 m4 m5 m6 m7 m8 m9 m10
    dsimp only at m0 m1 m2 m3 m4 m5 m6 m7 m8 m9 m10
    have S1 := Lib.hid ((HF.out.1.alloc (dhO ⟨xi, 3, 0, xa, xn, xrd, xpt, xmo, xd, xm, 0⟩)).nil_arr 146 11)
    have R1 := Lib.hid (Ran.new HF.out.2 (dhO ⟨xi, 3, 0, xa, xn, xrd, xpt, xmo, xd, xm, 0⟩))
    obtain ⟨r0, r1, r2, r3, r4, r5, r6, r7, r8, r9, r10⟩ := dhO_cells (HF.out.1.alloc (dhO ⟨xi, 3, 0, xa, xn, xrd, xpt, xmo, xd, xm, 0⟩))
    obtain ⟨hb, hhb⟩ : ∃ hb, hb = W.heap.size := ⟨_, rfl⟩
    obtain ⟨W2, hW2⟩ : ∃ W2, W2 = W.alloc (dhO ⟨xi, 3, 0, xa, xn, xrd, xpt, xmo, xd, xm, 0⟩) := ⟨_, rfl⟩
    go_upto_region 8 with fail
    rw [← hhb, ← hW2] at S1 ⊢
    rw [← hW2] at R1
    clear r0 r1 r2 r3 r4 r5 r6 r7 r8 r9 r10 m0 m1 m2 m3 m4 m5 m6 m7 m8 m9 m10 c0 c1 c2 c3 HF hhb hW2
    go_wp2_with fail
    go_loopg [7, 8, 9] (L1.length) (fun (g : Nat) (v7 v8 v9 : Value) (wr : World) => ∃ (j : Nat) (out : List DH) (p : Option Addr) (cap : Nat), v9 = .int .i64 (j : Int) ∧ v7 = .slice p out.length cap ∧ v8 = .bool (othN (0 : Int) out) ∧ out = (L1.take j).eraseIdx i ∧ j + g = L1.length ∧ Sat wr (dhA p cap out * (pts hb (dhO ⟨xi, 3, 0, xa, xn, xrd, xpt, xmo, xd, xm, 0⟩) * (rtHp c L1 qn * R))) ∧ Ran w wr)
    case atStart => exact ⟨0, [], none, 0, rfl, rfl, rfl, by simp, by omega, S1.out, R1.out⟩
    case round =>
      clear S1 R1
      obtain ⟨j, out, p, cap, rfl, rfl, rfl, hout, hgj, Sr, Rr⟩ := hrel
      have hol : out.length ≤ j := by rw [hout]; exact erase_len L1 i j
      by_cases hlt : j < L1.length
      · have hltI : (j : Int) < (L1.length : Int) := by omega
        have hj0 : (0 : Int) ≤ (j : Int) := by omega
        have hoI : (out.length : Int) ≤ 1000000 := by omega
        have c2 := (rt_cells Sr.right.right).2.2.1
        obtain ⟨⟨b9, o9, hbo⟩, hlc, hlm⟩ := rt_addr Sr.right.right hlt
        rw [hbo] at c2
        have hcm : (c.lc : Int) ≤ 9223372036854775807 := by unfold maxLen at hlm; omega
        have hlcI : (L1.length : Int) ≤ (c.lc : Int) := by omega
        by_cases hji : j = i
        · have hne : ((j : Int) != (i : Int)) = false := by simp [hji]
          have HO := Lib.hid (show out = (L1.take (j + 1)).eraseIdx i by rw [hout, hji, erase_skip L1 i (by omega)])
          have Sr := Lib.hid Sr
          have Rr := Lib.hid Rr
          clear hout hbo hlm
          go_wp2_with fail
          go_roundg (gk - 1)
          case rel => exact ⟨j + 1, out, p, cap, by simp [hji], rfl, rfl, HO.out, by omega, Sr.out, Rr.out⟩
          case measure => omega
        · have hne : ((j : Int) != (i : Int)) = true := by simp; omega
          obtain ⟨m0, m1, m2, m3, m4, m5, m6, m7, m8, m9, m10⟩ := dh_cells Sr.right.right hbo hlt
          obtain ⟨z, hz⟩ : ∃ z, z = L1[j] := ⟨_, rfl⟩
          have HO := Lib.hid (show out ++ [z] = (L1.take (j + 1)).eraseIdx i by rw [hout, erase_step L1 i j hlt hji, hz])
          rw [← hz] at m0 m1 m2 m3 m4 m5 m6 m7 m8 m9 m10
          have HM := Lib.hid (fun (W' : World) (X : Hp) (hX : Sat W' (rtHp c L1 qn * X)) => (show W'.cell? ⟨c.tb, 2, none⟩ = some (.slice (some ⟨b9, o9, none⟩) L1.length c.lc) ∧ W'.cell? ⟨b9, o9 + j * 11 + 10, none⟩ = some (.int .i64 z.pipe) by
            have e2 := (rt_cells hX).2.2.1
            rw [hbo] at e2
            have e3 := (dh_cells hX hbo hlt).2.2.2.2.2.2.2.2.2.2
            rw [← hz] at e3
            exact ⟨e2, e3⟩))
          obtain ⟨zi, zk, zr, za, zn, zrd, zpt, zmo, zd, zm, zp⟩ := z
          dsimp only at HM m0 m1 m2 m3 m4 m5 m6 m7 m8 m9 m10
          obtain ⟨ot, hot⟩ : ∃ ot, ot = othN (0 : Int) out := ⟨_, rfl⟩
          have HOT := Lib.hid (othN_snoc (0 : Int) out ⟨zi, zk, zr, za, zn, zrd, zpt, zmo, zd, zm, zp⟩)
          rw [← hot] at HOT ⊢
          have HA := Lib.hid (Sr.old (dhO ⟨zi, zk, zr, za, zn, zrd, zpt, zmo, zd, zm, zp⟩))
          have HX := Lib.hid (heap_alloc_new wr (dhO ⟨zi, zk, zr, za, zn, zrd, zpt, zmo, zd, zm, zp⟩))
          have RA := Lib.hid (Ran.new Rr (dhO ⟨zi, zk, zr, za, zn, zrd, zpt, zmo, zd, zm, zp⟩))
          clear hout hbo hlm hz hot Sr Rr
          cases ot with
          | true =>
            go_upto_region 15 with (at_builtin; go_loud (refine appDH rfl _ _ rfl p out.length cap out ⟨zi, zk, zr, za, zn, zrd, zpt, zmo, zd, zm, zp⟩ rfl rfl _ rfl HX.out HA.out (by omega) ?_; intro p' cap' w6 T6 R6; clear HA HX c2 m0 m1 m2 m3 m4 m5 m6 m7 m8 m9 m10))
            obtain ⟨n2, n10⟩ := HM.out _ _ (T6.perm (show _ = rtHp c L1 qn * (dhA p' cap' (out ++ [⟨zi, zk, zr, za, zn, zrd, zpt, zmo, zd, zm, zp⟩]) * (pts hb (dhO ⟨xi, 3, 0, xa, xn, xrd, xpt, xmo, xd, xm, 0⟩) * R)) by ac_rfl)).drew
            have nr := (dhO_cells T6.drew.right).2.2.2.2.2.2.2.2.2.2
            dsimp only at nr
            have T6 := Lib.hid T6.drew
            have R6 := Lib.hid (Ran.drewN (Below.trans RA.out R6) 1)
            refine region_plan (S := (fun w' => w'.cell? ⟨c.tb, 2, none⟩ = some (.slice (some ⟨b9, o9, none⟩) L1.length c.lc) ∧ w'.cell? ⟨b9, o9 + j * 11 + 10, none⟩ = some (.int .i64 zp) ∧ w'.cell? ⟨hb, 10, none⟩ = some (.int .i64 (0 : Int)))) [(0, true), (1, true), (2, true), (3, true), (4, true), (5, true), (6, true), (7, true), (8, true), (9, true), (10, true), (11, true), (12, true), (13, true), (14, true), (15, true), (16, true), (17, true), (18, true), (19, true)] (by kernel_rfl) (by kernel_rfl) (by kernel_rfl) ?_ ?_
            · ((try dsimp only); (first | done | (exact ⟨n2, n10, nr⟩)))
            simp only [planOps, List.map_cons, List.map_nil, List.getElem?_toArray, List.getElem?_cons_zero, List.getElem?_cons_succ]
            repeat (first
              | ((refine plan_yes (v := ?_) (by rfl) ?_ ?_); rotate_left; (focus (intro w hSw; (try dsimp only at hSw); go_simp; try (with_reducible rfl))); (try simp only [Act.put, List.setIfInBounds_toArray, List.set_cons_zero, List.set_cons_succ]))
              | ((refine plan_no (by rfl) ?_); (try simp only [Act.put, List.setIfInBounds_toArray, List.set_cons_zero, List.set_cons_succ]))
              | ((refine plan_step (fun K hK => ?_)); (first | (fail) | (go_simp; (fail); (try go_wp2_with fail)) | go_simp); (refine hK.out _ _ ?_ (fun hHeld => ?_)); (focus ((try dsimp only); (first | done | (exact ⟨n2, n10, nr⟩)))); clear hK K; (try simp only [Act.put, List.setIfInBounds_toArray, List.set_cons_zero, List.set_cons_succ])))
            refine plan_done ?_
            go_wp2_with fail
            go_roundg (gk - 1)
            case rel => exact ⟨j + 1, _, p', cap', by simp, by simp, by rw [HOT.out]; simp, HO.out, by omega, T6.out, R6.out⟩
            case measure => omega
          | false =>
            go_upto_region 15 with (at_builtin; go_loud (refine appDH rfl _ _ rfl p out.length cap out ⟨zi, zk, zr, za, zn, zrd, zpt, zmo, zd, zm, zp⟩ rfl rfl _ rfl HX.out HA.out (by omega) ?_; intro p' cap' w6 T6 R6; clear HA HX c2 m0 m1 m2 m3 m4 m5 m6 m7 m8 m9 m10))
            obtain ⟨n2, n10⟩ := HM.out _ _ (T6.perm (show _ = rtHp c L1 qn * (dhA p' cap' (out ++ [⟨zi, zk, zr, za, zn, zrd, zpt, zmo, zd, zm, zp⟩]) * (pts hb (dhO ⟨xi, 3, 0, xa, xn, xrd, xpt, xmo, xd, xm, 0⟩) * R)) by ac_rfl)).drew
            have nr := (dhO_cells T6.drew.right).2.2.2.2.2.2.2.2.2.2
            dsimp only at nr
            have T6 := Lib.hid T6.drew
            have R6 := Lib.hid (Ran.drewN (Below.trans RA.out R6) 1)
            refine region_plan (S := (fun w' => w'.cell? ⟨c.tb, 2, none⟩ = some (.slice (some ⟨b9, o9, none⟩) L1.length c.lc) ∧ w'.cell? ⟨b9, o9 + j * 11 + 10, none⟩ = some (.int .i64 zp) ∧ w'.cell? ⟨hb, 10, none⟩ = some (.int .i64 (0 : Int)))) [(0, true), (1, true), (2, true), (3, true), (4, true), (5, true), (6, true), (7, true), (8, true), (9, true), (10, true), (11, true), (12, true), (13, true), (14, true), (15, true), (16, true), (17, true), (18, true), (19, true)] (by kernel_rfl) (by kernel_rfl) (by kernel_rfl) ?_ ?_
            · ((try dsimp only); (first | done | (exact ⟨n2, n10, nr⟩)))
            simp only [planOps, List.map_cons, List.map_nil, List.getElem?_toArray, List.getElem?_cons_zero, List.getElem?_cons_succ]
            repeat (first
              | ((refine plan_yes (v := ?_) (by rfl) ?_ ?_); rotate_left; (focus (intro w hSw; (try dsimp only at hSw); go_simp; try (with_reducible rfl))); (try simp only [Act.put, List.setIfInBounds_toArray, List.set_cons_zero, List.set_cons_succ]))
              | ((refine plan_no (by rfl) ?_); (try simp only [Act.put, List.setIfInBounds_toArray, List.set_cons_zero, List.set_cons_succ]))
              | ((refine plan_step (fun K hK => ?_)); (first | (fail) | (go_simp; (fail); (try go_wp2_with fail)) | go_simp); (refine hK.out _ _ ?_ (fun hHeld => ?_)); (focus ((try dsimp only); (first | done | (exact ⟨n2, n10, nr⟩)))); clear hK K; (try simp only [Act.put, List.setIfInBounds_toArray, List.set_cons_zero, List.set_cons_succ])))
            refine plan_done ?_
            go_wp2_with fail
            go_roundg (gk - 1)
            case rel => exact ⟨j + 1, _, p', cap', by simp, by simp, by rw [HOT.out]; simp, HO.out, by omega, T6.out, R6.out⟩
            case measure => omega
      · have hge : (L1.length : Int) ≤ (j : Int) := by omega
        have HO := Lib.hid (show out = L1.eraseIdx i by rw [hout, List.take_of_length_le (by omega)])
        have c2 := (rt_cells Sr.right.right).2.2.1
        have f0 : ∀ i, wr.frozen? ⟨c.tb, i, none⟩ = false := fun i => rt_free Sr.right.right i
        have S9 := rt_new (Sr.perm (show _ = dhA p cap out * (rtHp c L1 qn * (pts hb (dhO ⟨xi, 3, 0, xa, xn, xrd, xpt, xmo, xd, xm, 0⟩) * R)) by ac_rfl))
        have R9 := Lib.hid (Ran.set Rr ⟨c.tb, 2, none⟩ (.slice p out.length cap))
        have S9 := S9.perm (show _ = pts hb (dhO ⟨xi, 3, 0, xa, xn, xrd, xpt, xmo, xd, xm, 0⟩) * (rtHp { c with lp := p, lc := cap } out qn * R) by ac_rfl)
        obtain ⟨r0, r1, r2, r3, r4, r5, r6, r7, r8, r9, r10⟩ := dhO_cells S9
        dsimp only at r0 r1 r2 r3 r4 r5 r6 r7 r8 r9 r10
        have S9 := Lib.hid S9
        clear hout Sr Rr hol
        go_wp2_with fail
        go_ret
        exact ⟨⟨rfl, p, cap, by rw [← HO.out]; exact S9.out.right⟩, R9.out⟩
end
section
variable {w : World} {c : RT} {L : List DH} {qn : Nat} {cf : RF} {N : List DN} {R : Hp}
set_option maxRecDepth 100000 in
set_option maxHeartbeats 4000000 in
/-- The last ref of a file is gone. -/
theorem RUnref_file (id : Int) (i : Nat) (hL : L.length ≤ 900000) (hi : i < L.length) (hp : placeN L id 0 = (i : Int)) (hr : L[i].refs = 1) (q : Nat) (hrf : c.rf = cf.fb) (hkd : L[i].kind = 1) (hpi : L[i].pipe = 0) (hnd : L[i].node = (q : Int)) (hq1 : 1 ≤ q) (hq : q < N.length) (hqk : N[q].kind ≠ 0) (hqn : 1 ≤ N[q].names) (hqh : 1 ≤ N[q].holds ∧ N[q].holds ≤ 1000000) (h : Sat w (rtHp c L qn * (rfHp cf N * R))) :
    Calls Tryz.prog 53 #[pp c.tb, .int .i64 id] w fun e w' => (e = .returned (.int .i64 0) ∧ ∃ lp lc, Sat w' (rtHp { c with lp := lp, lc := lc } (L.eraseIdx i) qn * (rfHp cf (N.set q { N[q] with holds := N[q].holds - 1 }) * R))) ∧ Ran w w' := by
  have HP := rplace_calls c L qn id (by omega) w _ h
  rw [hp] at HP
  have HP := Lib.hid HP
  obtain ⟨c0, c1, c2, c3⟩ := rt_cells h
  obtain ⟨⟨b, o, hb⟩, hlc, hlm⟩ := rt_addr h hi
  obtain ⟨m0, m1, m2, m3, m4, m5, m6, m7, m8, m9, m10⟩ := dh_cells h hb hi
  have hbb := hb
  rw [hb] at c2
  have hcm : (c.lc : Int) ≤ 9223372036854775807 := by unfold maxLen at hlm; omega
  have hiI : (i : Int) < (L.length : Int) := by omega
  have hi0 : (0 : Int) ≤ (i : Int) := by omega
  have hLI : (L.length : Int) ≤ 1000000 := by omega
  obtain ⟨x, hx⟩ : ∃ x, x = L[i] := ⟨_, rfl⟩
  rw [← hx] at m0 m1 m2 m3 m4 m5 m6 m7 m8 m9 m10
  have HS0 := h.alloc (dhO x)
  obtain ⟨r0, r1, r2, r3, r4, r5, r6, r7, r8, r9, r10⟩ := dhO_cells HS0
  have S1 := And.intro (h.old (dhO x)) (Ran.new (Below.refl 0 w) (dhO x))
  have HDR := Lib.hid (fun (W' : World) (X : Hp) (hX : Sat W' (rfHp cf N * X)) => rdrop_calls hq1 hq hqk hqn hqh hX)
  have HRF := Lib.hid hrf
  obtain ⟨N2, hN2⟩ : ∃ N2, N2 = (N.set q { N[q] with holds := N[q].holds - 1 }) := ⟨_, rfl⟩
  rw [← hN2] at HDR ⊢
  obtain ⟨L1, hL1⟩ : ∃ L1, L1 = L.set i { x with refs := 0 } := ⟨_, rfl⟩
  have he : L.eraseIdx i = L1.eraseIdx i := by rw [hL1, List.eraseIdx_set_eq]
  rw [he]
  rw [← hx] at hr hkd hpi hnd
  have f0 : ∀ j, w.frozen? ⟨b, j, none⟩ = false := fun j => by
    have := rt_arr h; rw [hbb] at this; exact this.arr_free j
  have HF : Sat ((w.setCell ⟨b, o + i * 11 + 2, none⟩ (.int .i64 0)).drew) (rtHp c L1 qn * ((rfHp cf N * R))) ∧ Ran w ((w.setCell ⟨b, o + i * 11 + 2, none⟩ (.int .i64 0)).drew) := by
    rw [hL1]
    exact ⟨(dh_set h hbb hi 2 (.int .i64 0) { x with refs := 0 } (by omega) (by rw [← hx]; rfl)).drew, Ran.drewN (Ran.set (Below.refl 0 w) ⟨b, o + i * 11 + 2, none⟩ (.int .i64 0)) 1⟩
  have hl1 : L1.length = L.length := by rw [hL1, List.length_set]
  have hi1 : i < L1.length := by omega
  have hg1 : L1[i] = { x with refs := 0 } := by
    subst hL1; rw [List.getElem_set_self]
  have HF := Lib.hid HF
  have HBB := Lib.hid hbb
  obtain ⟨xi, xk, xr, xa, xn, xrd, xpt, xmo, xd, xm, xp⟩ := x
  dsimp only at hr hg1 hkd hpi hnd m0 m1 m2 m3 m4 m5 m6 m7 m8 m9 m10 ⊢
  subst hr
  subst hkd hpi hnd
  have HL1 := Lib.hid (fun h : i < L1.length => (hg1 : L1[i] = ⟨xi, 1, 0, xa, (q : Int), xrd, xpt, xmo, xd, xm, 0⟩))
  have hi1I : (i : Int) < (L1.length : Int) := by omega
  have hL1I : (L1.length : Int) ≤ 900000 := by omega
  clear h hp hx hb hbb hlm HS0 S1 hL1 he hrf hqk hqn hqh hN2 hl1 hg1 r0 r1 r2 r3 r4 r5 r6 r7 r8 r9 r10
  go_enter Tryz.func53, Tryz.ntmps53
  go_wp2_with fail
  refine HP.out.mono ?_
  rintro e w1 ⟨rfl, rfl⟩
  clear HP
  go_upto_region 4 with fail
  go_still_tail 16, (by kernel_rfl)
  obtain ⟨W, hW⟩ : ∃ W, W = (w.setCell ⟨b, o + i * 11 + 2, none⟩ (.int .i64 0)).drew := ⟨_, rfl⟩
  go_upto_region 5 with fail
  rw [← hW] at HF ⊢
  clear hW f0 m0 m1 m2 m3 m4 m5 m6 m7 m8 m9 m10 c0 c1 c2 c3
  obtain ⟨c0, c1, c2, c3⟩ := rt_cells HF.out.1
  rw [HBB.out] at c2
  obtain ⟨m0, m1, m2, m3, m4, m5, m6, m7, m8, m9, m10⟩ := dh_cells HF.out.1 HBB.out hi1
  rw [HL1.out hi1] at m0 m1 m2 m3 m4 m5 m6 m7 m8 m9 m10
  dsimp only at m0 m1 m2 m3 m4 m5 m6 m7 m8 m9 m10
  have S1 := Lib.hid ((HF.out.1.alloc (dhO ⟨xi, 1, 0, xa, (q : Int), xrd, xpt, xmo, xd, xm, 0⟩)).nil_arr 146 11)
  have R1 := Lib.hid (Ran.new HF.out.2 (dhO ⟨xi, 1, 0, xa, (q : Int), xrd, xpt, xmo, xd, xm, 0⟩))
  obtain ⟨r0, r1, r2, r3, r4, r5, r6, r7, r8, r9, r10⟩ := dhO_cells (HF.out.1.alloc (dhO ⟨xi, 1, 0, xa, (q : Int), xrd, xpt, xmo, xd, xm, 0⟩))
  obtain ⟨hb, hhb⟩ : ∃ hb, hb = W.heap.size := ⟨_, rfl⟩
  obtain ⟨W2, hW2⟩ : ∃ W2, W2 = W.alloc (dhO ⟨xi, 1, 0, xa, (q : Int), xrd, xpt, xmo, xd, xm, 0⟩) := ⟨_, rfl⟩
  go_upto_region 8 with fail
  rw [← hhb, ← hW2] at S1 ⊢
  rw [← hW2] at R1
  clear r0 r1 r2 r3 r4 r5 r6 r7 r8 r9 r10 m0 m1 m2 m3 m4 m5 m6 m7 m8 m9 m10 c0 c1 c2 c3 HF hhb hW2
  go_wp2_with fail
  go_loopg [7, 8, 9] (L1.length) (fun (g : Nat) (v7 v8 v9 : Value) (wr : World) => ∃ (j : Nat) (out : List DH) (p : Option Addr) (cap : Nat), v9 = .int .i64 (j : Int) ∧ v7 = .slice p out.length cap ∧ v8 = .bool (othN (0 : Int) out) ∧ out = (L1.take j).eraseIdx i ∧ j + g = L1.length ∧ Sat wr (dhA p cap out * (pts hb (dhO ⟨xi, 1, 0, xa, (q : Int), xrd, xpt, xmo, xd, xm, 0⟩) * (rtHp c L1 qn * (rfHp cf N * R)))) ∧ Ran w wr)
  case atStart => exact ⟨0, [], none, 0, rfl, rfl, rfl, by simp, by omega, S1.out, R1.out⟩
  case round =>
    clear S1 R1
    obtain ⟨j, out, p, cap, rfl, rfl, rfl, hout, hgj, Sr, Rr⟩ := hrel
    have hol : out.length ≤ j := by rw [hout]; exact erase_len L1 i j
    by_cases hlt : j < L1.length
    · have hltI : (j : Int) < (L1.length : Int) := by omega
      have hj0 : (0 : Int) ≤ (j : Int) := by omega
      have hoI : (out.length : Int) ≤ 1000000 := by omega
      have c2 := (rt_cells Sr.right.right).2.2.1
      obtain ⟨⟨b9, o9, hbo⟩, hlc, hlm⟩ := rt_addr Sr.right.right hlt
      rw [hbo] at c2
      have hcm : (c.lc : Int) ≤ 9223372036854775807 := by unfold maxLen at hlm; omega
      have hlcI : (L1.length : Int) ≤ (c.lc : Int) := by omega
      by_cases hji : j = i
      · have hne : ((j : Int) != (i : Int)) = false := by simp [hji]
        have HO := Lib.hid (show out = (L1.take (j + 1)).eraseIdx i by rw [hout, hji, erase_skip L1 i (by omega)])
        have Sr := Lib.hid Sr
        have Rr := Lib.hid Rr
        clear hout hbo hlm
        go_wp2_with fail
        go_roundg (gk - 1)
        case rel => exact ⟨j + 1, out, p, cap, by simp [hji], rfl, rfl, HO.out, by omega, Sr.out, Rr.out⟩
        case measure => omega
      · have hne : ((j : Int) != (i : Int)) = true := by simp; omega
        obtain ⟨m0, m1, m2, m3, m4, m5, m6, m7, m8, m9, m10⟩ := dh_cells Sr.right.right hbo hlt
        obtain ⟨z, hz⟩ : ∃ z, z = L1[j] := ⟨_, rfl⟩
        have HO := Lib.hid (show out ++ [z] = (L1.take (j + 1)).eraseIdx i by rw [hout, erase_step L1 i j hlt hji, hz])
        rw [← hz] at m0 m1 m2 m3 m4 m5 m6 m7 m8 m9 m10
        have HM := Lib.hid (fun (W' : World) (X : Hp) (hX : Sat W' (rtHp c L1 qn * X)) => (show W'.cell? ⟨c.tb, 2, none⟩ = some (.slice (some ⟨b9, o9, none⟩) L1.length c.lc) ∧ W'.cell? ⟨b9, o9 + j * 11 + 10, none⟩ = some (.int .i64 z.pipe) by
          have e2 := (rt_cells hX).2.2.1
          rw [hbo] at e2
          have e3 := (dh_cells hX hbo hlt).2.2.2.2.2.2.2.2.2.2
          rw [← hz] at e3
          exact ⟨e2, e3⟩))
        obtain ⟨zi, zk, zr, za, zn, zrd, zpt, zmo, zd, zm, zp⟩ := z
        dsimp only at HM m0 m1 m2 m3 m4 m5 m6 m7 m8 m9 m10
        obtain ⟨ot, hot⟩ : ∃ ot, ot = othN (0 : Int) out := ⟨_, rfl⟩
        have HOT := Lib.hid (othN_snoc (0 : Int) out ⟨zi, zk, zr, za, zn, zrd, zpt, zmo, zd, zm, zp⟩)
        rw [← hot] at HOT ⊢
        have HA := Lib.hid (Sr.old (dhO ⟨zi, zk, zr, za, zn, zrd, zpt, zmo, zd, zm, zp⟩))
        have HX := Lib.hid (heap_alloc_new wr (dhO ⟨zi, zk, zr, za, zn, zrd, zpt, zmo, zd, zm, zp⟩))
        have RA := Lib.hid (Ran.new Rr (dhO ⟨zi, zk, zr, za, zn, zrd, zpt, zmo, zd, zm, zp⟩))
        clear hout hbo hlm hz hot Sr Rr
        cases ot with
        | true =>
          go_upto_region 15 with (at_builtin; go_loud (refine appDH rfl _ _ rfl p out.length cap out ⟨zi, zk, zr, za, zn, zrd, zpt, zmo, zd, zm, zp⟩ rfl rfl _ rfl HX.out HA.out (by omega) ?_; intro p' cap' w6 T6 R6; clear HA HX c2 m0 m1 m2 m3 m4 m5 m6 m7 m8 m9 m10))
          obtain ⟨n2, n10⟩ := HM.out _ _ (T6.perm (show _ = rtHp c L1 qn * (dhA p' cap' (out ++ [⟨zi, zk, zr, za, zn, zrd, zpt, zmo, zd, zm, zp⟩]) * (pts hb (dhO ⟨xi, 1, 0, xa, (q : Int), xrd, xpt, xmo, xd, xm, 0⟩) * (rfHp cf N * R))) by ac_rfl)).drew
          have nr := (dhO_cells T6.drew.right).2.2.2.2.2.2.2.2.2.2
          dsimp only at nr
          have T6 := Lib.hid T6.drew
          have R6 := Lib.hid (Ran.drewN (Below.trans RA.out R6) 1)
          refine region_plan (S := (fun w' => w'.cell? ⟨c.tb, 2, none⟩ = some (.slice (some ⟨b9, o9, none⟩) L1.length c.lc) ∧ w'.cell? ⟨b9, o9 + j * 11 + 10, none⟩ = some (.int .i64 zp) ∧ w'.cell? ⟨hb, 10, none⟩ = some (.int .i64 (0 : Int)))) [(0, true), (1, true), (2, true), (3, true), (4, true), (5, true), (6, true), (7, true), (8, true), (9, true), (10, true), (11, true), (12, true), (13, true), (14, true), (15, true), (16, true), (17, true), (18, true), (19, true)] (by kernel_rfl) (by kernel_rfl) (by kernel_rfl) ?_ ?_
          · ((try dsimp only); (first | done | (exact ⟨n2, n10, nr⟩)))
          simp only [planOps, List.map_cons, List.map_nil, List.getElem?_toArray, List.getElem?_cons_zero, List.getElem?_cons_succ]
          repeat (first
            | ((refine plan_yes (v := ?_) (by rfl) ?_ ?_); rotate_left; (focus (intro w hSw; (try dsimp only at hSw); go_simp; try (with_reducible rfl))); (try simp only [Act.put, List.setIfInBounds_toArray, List.set_cons_zero, List.set_cons_succ]))
            | ((refine plan_no (by rfl) ?_); (try simp only [Act.put, List.setIfInBounds_toArray, List.set_cons_zero, List.set_cons_succ]))
            | ((refine plan_step (fun K hK => ?_)); (first | (fail) | (go_simp; (fail); (try go_wp2_with fail)) | go_simp); (refine hK.out _ _ ?_ (fun hHeld => ?_)); (focus ((try dsimp only); (first | done | (exact ⟨n2, n10, nr⟩)))); clear hK K; (try simp only [Act.put, List.setIfInBounds_toArray, List.set_cons_zero, List.set_cons_succ])))
          refine plan_done ?_
          go_wp2_with fail
          go_roundg (gk - 1)
          case rel => exact ⟨j + 1, _, p', cap', by simp, by simp, by rw [HOT.out]; simp, HO.out, by omega, T6.out, R6.out⟩
          case measure => omega
        | false =>
          go_upto_region 15 with (at_builtin; go_loud (refine appDH rfl _ _ rfl p out.length cap out ⟨zi, zk, zr, za, zn, zrd, zpt, zmo, zd, zm, zp⟩ rfl rfl _ rfl HX.out HA.out (by omega) ?_; intro p' cap' w6 T6 R6; clear HA HX c2 m0 m1 m2 m3 m4 m5 m6 m7 m8 m9 m10))
          obtain ⟨n2, n10⟩ := HM.out _ _ (T6.perm (show _ = rtHp c L1 qn * (dhA p' cap' (out ++ [⟨zi, zk, zr, za, zn, zrd, zpt, zmo, zd, zm, zp⟩]) * (pts hb (dhO ⟨xi, 1, 0, xa, (q : Int), xrd, xpt, xmo, xd, xm, 0⟩) * (rfHp cf N * R))) by ac_rfl)).drew
          have nr := (dhO_cells T6.drew.right).2.2.2.2.2.2.2.2.2.2
          dsimp only at nr
          have T6 := Lib.hid T6.drew
          have R6 := Lib.hid (Ran.drewN (Below.trans RA.out R6) 1)
          refine region_plan (S := (fun w' => w'.cell? ⟨c.tb, 2, none⟩ = some (.slice (some ⟨b9, o9, none⟩) L1.length c.lc) ∧ w'.cell? ⟨b9, o9 + j * 11 + 10, none⟩ = some (.int .i64 zp) ∧ w'.cell? ⟨hb, 10, none⟩ = some (.int .i64 (0 : Int)))) [(0, true), (1, true), (2, true), (3, true), (4, true), (5, true), (6, true), (7, true), (8, true), (9, true), (10, true), (11, true), (12, true), (13, true), (14, true), (15, true), (16, true), (17, true), (18, true), (19, true)] (by kernel_rfl) (by kernel_rfl) (by kernel_rfl) ?_ ?_
          · ((try dsimp only); (first | done | (exact ⟨n2, n10, nr⟩)))
          simp only [planOps, List.map_cons, List.map_nil, List.getElem?_toArray, List.getElem?_cons_zero, List.getElem?_cons_succ]
          repeat (first
            | ((refine plan_yes (v := ?_) (by rfl) ?_ ?_); rotate_left; (focus (intro w hSw; (try dsimp only at hSw); go_simp; try (with_reducible rfl))); (try simp only [Act.put, List.setIfInBounds_toArray, List.set_cons_zero, List.set_cons_succ]))
            | ((refine plan_no (by rfl) ?_); (try simp only [Act.put, List.setIfInBounds_toArray, List.set_cons_zero, List.set_cons_succ]))
            | ((refine plan_step (fun K hK => ?_)); (first | (fail) | (go_simp; (fail); (try go_wp2_with fail)) | go_simp); (refine hK.out _ _ ?_ (fun hHeld => ?_)); (focus ((try dsimp only); (first | done | (exact ⟨n2, n10, nr⟩)))); clear hK K; (try simp only [Act.put, List.setIfInBounds_toArray, List.set_cons_zero, List.set_cons_succ])))
          refine plan_done ?_
          go_wp2_with fail
          go_roundg (gk - 1)
          case rel => exact ⟨j + 1, _, p', cap', by simp, by simp, by rw [HOT.out]; simp, HO.out, by omega, T6.out, R6.out⟩
          case measure => omega
    · have hge : (L1.length : Int) ≤ (j : Int) := by omega
      have HO := Lib.hid (show out = L1.eraseIdx i by rw [hout, List.take_of_length_le (by omega)])
      have c2 := (rt_cells Sr.right.right).2.2.1
      have f0 : ∀ i, wr.frozen? ⟨c.tb, i, none⟩ = false := fun i => rt_free Sr.right.right i
      have S9 := rt_new (Sr.perm (show _ = dhA p cap out * (rtHp c L1 qn * (pts hb (dhO ⟨xi, 1, 0, xa, (q : Int), xrd, xpt, xmo, xd, xm, 0⟩) * (rfHp cf N * R))) by ac_rfl))
      have R9 := Lib.hid (Ran.set Rr ⟨c.tb, 2, none⟩ (.slice p out.length cap))
      have S9 := S9.perm (show _ = pts hb (dhO ⟨xi, 1, 0, xa, (q : Int), xrd, xpt, xmo, xd, xm, 0⟩) * (rtHp { c with lp := p, lc := cap } out qn * (rfHp cf N * R)) by ac_rfl)
      obtain ⟨r0, r1, r2, r3, r4, r5, r6, r7, r8, r9, r10⟩ := dhO_cells S9
      dsimp only at r0 r1 r2 r3 r4 r5 r6 r7 r8 r9 r10
      have S9 := Lib.hid S9
      clear hout Sr Rr hol
      go_upto_region 18 with fail
      have k0 := (rt_cells S9.out.right).1
      dsimp only at k0
      rw [HRF.out] at k0
      have HDR2 := Lib.hid (HDR.out _ _ (S9.out.drew.perm (show _ = rfHp cf N * (pts hb (dhO ⟨xi, 1, 0, xa, (q : Int), xrd, xpt, xmo, xd, xm, 0⟩) * (rtHp { c with lp := p, lc := cap } out qn * R)) by ac_rfl)))
      refine region_plan (S := (fun w' => w'.cell? ⟨c.tb, 0, none⟩ = some (pp cf.fb) ∧ w'.cell? ⟨hb, 4, none⟩ = some (.int .i64 (q : Int)))) [(0, true), (1, true), (2, true), (3, true), (4, true), (5, true), (6, false)] (by kernel_rfl) (by kernel_rfl) (by kernel_rfl) ?_ ?_
      · ((try dsimp only); (first | done | (first | exact Kset.out | exact ⟨k0, r4⟩)))
      simp only [planOps, List.map_cons, List.map_nil, List.getElem?_toArray, List.getElem?_cons_zero, List.getElem?_cons_succ]
      repeat (first
        | ((refine plan_yes (v := ?_) (by rfl) ?_ ?_); rotate_left; (focus (intro w hSw; (try dsimp only at hSw); go_simp; try (with_reducible rfl))); (try simp only [Act.put, List.setIfInBounds_toArray, List.set_cons_zero, List.set_cons_succ]))
        | ((refine plan_no (by rfl) ?_); (try simp only [Act.put, List.setIfInBounds_toArray, List.set_cons_zero, List.set_cons_succ]))
        | ((refine plan_step (fun K hK => ?_)); (first | (go_simp; (go_at_call 81; refine HDR2.out.mono ?_; rintro e w3 ⟨⟨rfl, S3⟩, R3⟩; have S3 := S3.perm (show _ = pts hb (dhO ⟨xi, 1, 0, xa, (q : Int), xrd, xpt, xmo, xd, xm, 0⟩) * (rtHp { c with lp := p, lc := cap } out qn * (rfHp cf N2 * R)) by ac_rfl); have s0 := (rt_cells S3.right).1; dsimp only at s0; rw [HRF.out] at s0; have s4 := (dhO_cells S3).2.2.2.2.1; have s10 := (dhO_cells S3).2.2.2.2.2.2.2.2.2.2; dsimp only at s4 s10; have Kset := Lib.hid (And.intro s0 s4); have S3 := Lib.hid S3; have R3 := Lib.hid (Below.trans (Ran.drewN R9.out 1) R3)); (try go_wp2_with fail)) | go_simp); (refine hK.out _ _ ?_ (fun hHeld => ?_)); (focus ((try dsimp only); (first | done | (first | exact Kset.out | exact ⟨k0, r4⟩)))); clear hK K; (try simp only [Act.put, List.setIfInBounds_toArray, List.set_cons_zero, List.set_cons_succ])))
      refine plan_done ?_
      clear r0 r1 r2 r3 r4 r5 r6 r7 r8 r9 r10 k0 c2 f0
      go_wp2_with fail
      go_ret
      exact ⟨⟨rfl, p, cap, by rw [← HO.out]; exact S3.out.right⟩, R3.out⟩
end
end Go.Proofs.YtljlpkeddbfpaaaGreatDoor.Hd

