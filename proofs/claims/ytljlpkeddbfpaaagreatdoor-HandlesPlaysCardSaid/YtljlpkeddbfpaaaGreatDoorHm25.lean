/- HandlesPlays, part 25 of 34: the texts HdPr HdPs HdPt HdPu, joined by a program. -/
import Derived.Test.YtljlpkeddbfpaaaGreatDoorHm24
namespace Go.Proofs.YtljlpkeddbfpaaaGreatDoor.Hd
open Go.RowKit Go.Maps Go.Proofs.YtljlpkeddbfpaaaGreatDoor Go.Proofs.YtljlpkeddbfpaaaGreatDoor.Hp
set_option linter.unusedVariables false
attribute [local go_sem] Oper.semAt_some

section
variable {w : World} {c : RT} {L : List DH} {B : List Spill.Bf} {R : Hp}
set_option maxRecDepth 100000 in
set_option maxHeartbeats 4000000 in
/-- The last ref of a pipe's last end is gone. -/
theorem RUnref_one (id : Int) (i : Nat) (hL : L.length ≤ 900000) (hi : i < L.length) (hp : placeN L id 0 = (i : Int)) (hr : L[i].refs = 1) (k ba rb pcap : Nat) (pp0 : Option Addr) (pre data : List UInt8) (hk : k < B.length) (hB : B.length ≤ 1000000) (hBk : B[k] = ⟨ba, rb, false, pre, data⟩) (hkd : L[i].kind = 4 ∨ L[i].kind = 5) (hpi : L[i].pipe = (k : Int) + 1) (hoth : othN ((k : Int) + 1) (L.eraseIdx i) = false) (h : Sat w (rtHp c L B.length * (pqHp c B * (Spill.rpool c.rp 40 3 4 pcap pp0 B * (all Spill.rbuf B * R))))) :
    Calls Tryz.prog 53 #[pp c.tb, .int .i64 id] w fun e w' => (e = .returned (.int .i64 0) ∧ ∃ lp lc, Sat w' (rtHp { c with lp := lp, lc := lc } (L.eraseIdx i) B.length * (pqHp c (B.set k ⟨ba, rb, true, pre, data⟩) * (Spill.rpool c.rp 40 3 4 pcap pp0 (B.set k ⟨ba, rb, true, pre, data⟩) * (all Spill.rbuf (B.set k ⟨ba, rb, true, pre, data⟩) * R))))) ∧ Ran w w' := by
  have HP := rplace_calls c L B.length id (by omega) w _ h
  rw [hp] at HP
  have HP := Lib.hid HP
  obtain ⟨c0, c1, c2, c3⟩ := rt_cells h
  obtain ⟨⟨b, o, hb⟩, hlc, hlm⟩ := rt_addr h hi
  obtain ⟨m0, m1, m2, m3, m4, m5, m6, m7, m8, m9, m10⟩ := dh_cells h hb hi
  have hbb := hb
  rw [hb] at c2
  have hcm : (c.lc : Int) ≤ 9223372036854775807 := by unfold maxLen at hlm; omega
  have hiI : (i : Int) < (L.length : Int) := by omega
  have hi0 : (0 : Int) ≤ (i : Int) := by omega
  have hLI : (L.length : Int) ≤ 1000000 := by omega
  obtain ⟨x, hx⟩ : ∃ x, x = L[i] := ⟨_, rfl⟩
  rw [← hx] at m0 m1 m2 m3 m4 m5 m6 m7 m8 m9 m10
  have HS0 := h.alloc (dhO x)
  obtain ⟨r0, r1, r2, r3, r4, r5, r6, r7, r8, r9, r10⟩ := dhO_cells HS0
  have S1 := And.intro (h.old (dhO x)) (Ran.new (Below.refl 0 w) (dhO x))
  rw [pq_set hk _ (by rw [hBk])]
  have HCL := (fun (W' : World) (X : Hp) (hX : Sat W' (Spill.rpool c.rp 40 3 4 pcap pp0 B * (all Spill.rbuf B * X))) => (show Calls Tryz.prog 82 #[pp rb] W' (fun e w' => e = .returned (.int .i64 0) ∧ Sat w' (Spill.rpool c.rp 40 3 4 pcap pp0 (B.set k ⟨ba, rb, true, pre, data⟩) * (all Spill.rbuf (B.set k ⟨ba, rb, true, pre, data⟩) * X)) ∧ Ran W' w') by
    have h3 := Spill.rfocus hk hX
    rw [hBk] at h3
    refine (Spill.rclose_open ba rb pre data W' _ h3).mono ?_
    rintro e w3 ⟨rfl, S3, R3⟩
    exact ⟨rfl, Spill.runfocus hk ⟨ba, rb, true, pre, data⟩ (by rw [hBk]) S3, R3⟩))
  obtain ⟨B2, hB2⟩ : ∃ B2, B2 = (B.set k ⟨ba, rb, true, pre, data⟩) := ⟨_, rfl⟩
  rw [← hB2] at HCL ⊢
  have HCL := Lib.hid HCL
  obtain ⟨⟨b2, o2, hb2, -⟩, hqc, hqm⟩ := pq_cell h.right hk
  have hrb : B[k].rb = rb := by rw [hBk]
  have HPQ := Lib.hid (fun (W' : World) (v : RT) (l : List DH) (X : Hp) (hv : v.qp = c.qp) (hvc : v.qc = c.qc) (hX : Sat W' (rtHp v l B.length * (pqHp c B * X))) => (show W'.cell? ⟨v.tb, 3, none⟩ = some (.slice (some ⟨b2, o2, none⟩) B.length c.qc) ∧ W'.cell? ⟨b2, o2 + k, none⟩ = some (pp rb) by
    have e3 := (rt_cells hX).2.2.2
    obtain ⟨⟨b4, o4, hb4, Q4⟩, -, -⟩ := pq_cell hX.right hk
    rw [hb2] at hb4
    obtain ⟨rfl, rfl⟩ : b2 = b4 ∧ o2 = o4 := by injection hb4 with e; injection e with e1 e2; exact ⟨e1, e2⟩
    rw [hv, hb2, hvc] at e3
    rw [hrb] at Q4
    exact ⟨e3, Q4⟩))
  have hqm : (c.qc : Int) ≤ 9223372036854775807 := by unfold maxLen at hqm; omega
  have hqcI : (B.length : Int) ≤ (c.qc : Int) := by omega
  have hkI : (k : Int) < (B.length : Int) := by omega
  have hk0 : (0 : Int) ≤ (k : Int) := by omega
  have hBI : (B.length : Int) ≤ 1000000 := by omega
  have hwk : IntKind.i64.wrap (k : Int) = (k : Int) := IntWalk.i64_in _ (by omega)
  obtain ⟨L1, hL1⟩ : ∃ L1, L1 = L.set i { x with refs := 0 } := ⟨_, rfl⟩
  have he : L.eraseIdx i = L1.eraseIdx i := by rw [hL1, List.eraseIdx_set_eq]
  rw [he] at hoth ⊢
  rw [← hx] at hr hkd hpi
  have f0 : ∀ j, w.frozen? ⟨b, j, none⟩ = false := fun j => by
    have := rt_arr h; rw [hbb] at this; exact this.arr_free j
  have HF : Sat ((w.setCell ⟨b, o + i * 11 + 2, none⟩ (.int .i64 0)).drew) (rtHp c L1 B.length * ((pqHp c B * (Spill.rpool c.rp 40 3 4 pcap pp0 B * (all Spill.rbuf B * R))))) ∧ Ran w ((w.setCell ⟨b, o + i * 11 + 2, none⟩ (.int .i64 0)).drew) := by
    rw [hL1]
    exact ⟨(dh_set h hbb hi 2 (.int .i64 0) { x with refs := 0 } (by omega) (by rw [← hx]; rfl)).drew, Ran.drewN (Ran.set (Below.refl 0 w) ⟨b, o + i * 11 + 2, none⟩ (.int .i64 0)) 1⟩
  have hl1 : L1.length = L.length := by rw [hL1, List.length_set]
  have hi1 : i < L1.length := by omega
  have hg1 : L1[i] = { x with refs := 0 } := by
    subst hL1; rw [List.getElem_set_self]
  have HF := Lib.hid HF
  have HBB := Lib.hid hbb
  obtain ⟨xi, xk, xr, xa, xn, xrd, xpt, xmo, xd, xm, xp⟩ := x
  dsimp only at hr hg1 hkd hpi m0 m1 m2 m3 m4 m5 m6 m7 m8 m9 m10 ⊢
  subst hr
  subst hpi
  have HL1 := Lib.hid (fun h : i < L1.length => (hg1 : L1[i] = ⟨xi, xk, 0, xa, xn, xrd, xpt, xmo, xd, xm, (k : Int) + 1⟩))
  have hi1I : (i : Int) < (L1.length : Int) := by omega
  have hL1I : (L1.length : Int) ≤ 900000 := by omega
  have HOTH := Lib.hid hoth
  have hdk : decide ((k : Int) + 1 > 0) = true := decide_eq_true (by omega)
  have hdk2 : decide ((0 : Int) < (k : Int) + 1) = true := decide_eq_true (by omega)
  have hdk3 : (0 : Int) < (k : Int) + 1 := by omega
  clear h hp hx hb hbb hlm HS0 S1 hL1 he hoth hBk hB2 hb2 hrb hl1 hg1 r0 r1 r2 r3 r4 r5 r6 r7 r8 r9 r10
  rcases hkd with rfl | rfl
  · go_enter Tryz.func53, Tryz.ntmps53
    go_wp2_with fail
    refine HP.out.mono ?_
    rintro e w1 ⟨rfl, rfl⟩
    clear HP
    go_upto_region 4 with fail
    go_still_tail 16, (by kernel_rfl)
    obtain ⟨W, hW⟩ : ∃ W, W = (w.setCell ⟨b, o + i * 11 + 2, none⟩ (.int .i64 0)).drew := ⟨_, rfl⟩
    go_upto_region 5 with fail
    rw [← hW] at HF ⊢
    clear hW f0 m0 m1 m2 m3 m4 m5 m6 m7 m8 m9 m10 c0 c1 c2 c3
    obtain ⟨c0, c1, c2, c3⟩ := rt_cells HF.out.1
    rw [HBB.out] at c2
    obtain ⟨m0, m1, m2, m3, m4, m5, m6, m7, m8, m9, m10⟩ := dh_cells HF.out.1 HBB.out hi1
    rw [HL1.out hi1] at m0 m1 m2 m3 m4 m5 m6 m7 m8 m9 m10
    dsimp only at m0 m1 m2 m3 m4 m5 m6 m7 m8 m9 m10
    have S1 := Lib.hid ((HF.out.1.alloc (dhO ⟨xi, 4, 0, xa, xn, xrd, xpt, xmo, xd, xm, (k : Int) + 1⟩)).nil_arr 146 11)
    have R1 := Lib.hid (Ran.new HF.out.2 (dhO ⟨xi, 4, 0, xa, xn, xrd, xpt, xmo, xd, xm, (k : Int) + 1⟩))
    obtain ⟨r0, r1, r2, r3, r4, r5, r6, r7, r8, r9, r10⟩ := dhO_cells (HF.out.1.alloc (dhO ⟨xi, 4, 0, xa, xn, xrd, xpt, xmo, xd, xm, (k : Int) + 1⟩))
    obtain ⟨hb, hhb⟩ : ∃ hb, hb = W.heap.size := ⟨_, rfl⟩
    obtain ⟨W2, hW2⟩ : ∃ W2, W2 = W.alloc (dhO ⟨xi, 4, 0, xa, xn, xrd, xpt, xmo, xd, xm, (k : Int) + 1⟩) := ⟨_, rfl⟩
    go_upto_region 8 with fail
    rw [← hhb, ← hW2] at S1 ⊢
    rw [← hW2] at R1
    clear r0 r1 r2 r3 r4 r5 r6 r7 r8 r9 r10 m0 m1 m2 m3 m4 m5 m6 m7 m8 m9 m10 c0 c1 c2 c3 HF hhb hW2
    go_wp2_with fail
    go_loopg [7, 8, 9] (L1.length) (fun (g : Nat) (v7 v8 v9 : Value) (wr : World) => ∃ (j : Nat) (out : List DH) (p : Option Addr) (cap : Nat), v9 = .int .i64 (j : Int) ∧ v7 = .slice p out.length cap ∧ v8 = .bool (othN ((k : Int) + 1) out) ∧ out = (L1.take j).eraseIdx i ∧ j + g = L1.length ∧ Sat wr (dhA p cap out * (pts hb (dhO ⟨xi, 4, 0, xa, xn, xrd, xpt, xmo, xd, xm, (k : Int) + 1⟩) * (rtHp c L1 B.length * (pqHp c B * (Spill.rpool c.rp 40 3 4 pcap pp0 B * (all Spill.rbuf B * R)))))) ∧ Ran w wr)
    case atStart => exact ⟨0, [], none, 0, rfl, rfl, rfl, by simp, by omega, S1.out, R1.out⟩
    case round =>
      clear S1 R1
      obtain ⟨j, out, p, cap, rfl, rfl, rfl, hout, hgj, Sr, Rr⟩ := hrel
      have hol : out.length ≤ j := by rw [hout]; exact erase_len L1 i j
      by_cases hlt : j < L1.length
      · have hltI : (j : Int) < (L1.length : Int) := by omega
        have hj0 : (0 : Int) ≤ (j : Int) := by omega
        have hoI : (out.length : Int) ≤ 1000000 := by omega
        have c2 := (rt_cells Sr.right.right).2.2.1
        obtain ⟨⟨b9, o9, hbo⟩, hlc, hlm⟩ := rt_addr Sr.right.right hlt
        rw [hbo] at c2
        have hcm : (c.lc : Int) ≤ 9223372036854775807 := by unfold maxLen at hlm; omega
        have hlcI : (L1.length : Int) ≤ (c.lc : Int) := by omega
        by_cases hji : j = i
        · have hne : ((j : Int) != (i : Int)) = false := by simp [hji]
          have HO := Lib.hid (show out = (L1.take (j + 1)).eraseIdx i by rw [hout, hji, erase_skip L1 i (by omega)])
          have Sr := Lib.hid Sr
          have Rr := Lib.hid Rr
          clear hout hbo hlm
          go_wp2_with fail
          go_roundg (gk - 1)
          case rel => exact ⟨j + 1, out, p, cap, by simp [hji], rfl, rfl, HO.out, by omega, Sr.out, Rr.out⟩
          case measure => omega
        · have hne : ((j : Int) != (i : Int)) = true := by simp; omega
          obtain ⟨m0, m1, m2, m3, m4, m5, m6, m7, m8, m9, m10⟩ := dh_cells Sr.right.right hbo hlt
          obtain ⟨z, hz⟩ : ∃ z, z = L1[j] := ⟨_, rfl⟩
          have HO := Lib.hid (show out ++ [z] = (L1.take (j + 1)).eraseIdx i by rw [hout, erase_step L1 i j hlt hji, hz])
          rw [← hz] at m0 m1 m2 m3 m4 m5 m6 m7 m8 m9 m10
          have HM := Lib.hid (fun (W' : World) (X : Hp) (hX : Sat W' (rtHp c L1 B.length * X)) => (show W'.cell? ⟨c.tb, 2, none⟩ = some (.slice (some ⟨b9, o9, none⟩) L1.length c.lc) ∧ W'.cell? ⟨b9, o9 + j * 11 + 10, none⟩ = some (.int .i64 z.pipe) by
            have e2 := (rt_cells hX).2.2.1
            rw [hbo] at e2
            have e3 := (dh_cells hX hbo hlt).2.2.2.2.2.2.2.2.2.2
            rw [← hz] at e3
            exact ⟨e2, e3⟩))
          obtain ⟨zi, zk, zr, za, zn, zrd, zpt, zmo, zd, zm, zp⟩ := z
          dsimp only at HM m0 m1 m2 m3 m4 m5 m6 m7 m8 m9 m10
          obtain ⟨ot, hot⟩ : ∃ ot, ot = othN ((k : Int) + 1) out := ⟨_, rfl⟩
          have HOT := Lib.hid (othN_snoc ((k : Int) + 1) out ⟨zi, zk, zr, za, zn, zrd, zpt, zmo, zd, zm, zp⟩)
          rw [← hot] at HOT ⊢
          have HA := Lib.hid (Sr.old (dhO ⟨zi, zk, zr, za, zn, zrd, zpt, zmo, zd, zm, zp⟩))
          have HX := Lib.hid (heap_alloc_new wr (dhO ⟨zi, zk, zr, za, zn, zrd, zpt, zmo, zd, zm, zp⟩))
          have RA := Lib.hid (Ran.new Rr (dhO ⟨zi, zk, zr, za, zn, zrd, zpt, zmo, zd, zm, zp⟩))
          clear hout hbo hlm hz hot Sr Rr
          cases ot with
          | true =>
            go_upto_region 15 with (at_builtin; go_loud (refine appDH rfl _ _ rfl p out.length cap out ⟨zi, zk, zr, za, zn, zrd, zpt, zmo, zd, zm, zp⟩ rfl rfl _ rfl HX.out HA.out (by omega) ?_; intro p' cap' w6 T6 R6; clear HA HX c2 m0 m1 m2 m3 m4 m5 m6 m7 m8 m9 m10))
            obtain ⟨n2, n10⟩ := HM.out _ _ (T6.perm (show _ = rtHp c L1 B.length * (dhA p' cap' (out ++ [⟨zi, zk, zr, za, zn, zrd, zpt, zmo, zd, zm, zp⟩]) * (pts hb (dhO ⟨xi, 4, 0, xa, xn, xrd, xpt, xmo, xd, xm, (k : Int) + 1⟩) * (pqHp c B * (Spill.rpool c.rp 40 3 4 pcap pp0 B * (all Spill.rbuf B * R))))) by ac_rfl)).drew
            have nr := (dhO_cells T6.drew.right).2.2.2.2.2.2.2.2.2.2
            dsimp only at nr
            have T6 := Lib.hid T6.drew
            have R6 := Lib.hid (Ran.drewN (Below.trans RA.out R6) 1)
            refine region_plan (S := (fun w' => w'.cell? ⟨c.tb, 2, none⟩ = some (.slice (some ⟨b9, o9, none⟩) L1.length c.lc) ∧ w'.cell? ⟨b9, o9 + j * 11 + 10, none⟩ = some (.int .i64 zp) ∧ w'.cell? ⟨hb, 10, none⟩ = some (.int .i64 ((k : Int) + 1)))) [(0, true), (1, true), (2, true), (3, true), (4, true), (5, true), (6, true), (7, true), (8, true), (9, true), (10, true), (11, true), (12, true), (13, true), (14, true), (15, true), (16, true), (17, true), (18, true), (19, true)] (by kernel_rfl) (by kernel_rfl) (by kernel_rfl) ?_ ?_
            · ((try dsimp only); (first | done | (exact ⟨n2, n10, nr⟩)))
            simp only [planOps, List.map_cons, List.map_nil, List.getElem?_toArray, List.getElem?_cons_zero, List.getElem?_cons_succ]
            repeat (first
              | ((refine plan_yes (v := ?_) (by rfl) ?_ ?_); rotate_left; (focus (intro w hSw; (try dsimp only at hSw); go_simp; try (with_reducible rfl))); (try simp only [Act.put, List.setIfInBounds_toArray, List.set_cons_zero, List.set_cons_succ]))
              | ((refine plan_no (by rfl) ?_); (try simp only [Act.put, List.setIfInBounds_toArray, List.set_cons_zero, List.set_cons_succ]))
              | ((refine plan_step (fun K hK => ?_)); (first | (fail) | (go_simp; (fail); (try go_wp2_with fail)) | go_simp); (refine hK.out _ _ ?_ (fun hHeld => ?_)); (focus ((try dsimp only); (first | done | (exact ⟨n2, n10, nr⟩)))); clear hK K; (try simp only [Act.put, List.setIfInBounds_toArray, List.set_cons_zero, List.set_cons_succ])))
            refine plan_done ?_
            go_wp2_with fail
            go_roundg (gk - 1)
            case rel => exact ⟨j + 1, _, p', cap', by simp, by simp, by rw [HOT.out]; simp, HO.out, by omega, T6.out, R6.out⟩
            case measure => omega
          | false =>
            go_upto_region 15 with (at_builtin; go_loud (refine appDH rfl _ _ rfl p out.length cap out ⟨zi, zk, zr, za, zn, zrd, zpt, zmo, zd, zm, zp⟩ rfl rfl _ rfl HX.out HA.out (by omega) ?_; intro p' cap' w6 T6 R6; clear HA HX c2 m0 m1 m2 m3 m4 m5 m6 m7 m8 m9 m10))
            obtain ⟨n2, n10⟩ := HM.out _ _ (T6.perm (show _ = rtHp c L1 B.length * (dhA p' cap' (out ++ [⟨zi, zk, zr, za, zn, zrd, zpt, zmo, zd, zm, zp⟩]) * (pts hb (dhO ⟨xi, 4, 0, xa, xn, xrd, xpt, xmo, xd, xm, (k : Int) + 1⟩) * (pqHp c B * (Spill.rpool c.rp 40 3 4 pcap pp0 B * (all Spill.rbuf B * R))))) by ac_rfl)).drew
            have nr := (dhO_cells T6.drew.right).2.2.2.2.2.2.2.2.2.2
            dsimp only at nr
            have T6 := Lib.hid T6.drew
            have R6 := Lib.hid (Ran.drewN (Below.trans RA.out R6) 1)
            refine region_plan (S := (fun w' => w'.cell? ⟨c.tb, 2, none⟩ = some (.slice (some ⟨b9, o9, none⟩) L1.length c.lc) ∧ w'.cell? ⟨b9, o9 + j * 11 + 10, none⟩ = some (.int .i64 zp) ∧ w'.cell? ⟨hb, 10, none⟩ = some (.int .i64 ((k : Int) + 1)))) [(0, true), (1, true), (2, true), (3, true), (4, true), (5, true), (6, true), (7, true), (8, true), (9, true), (10, true), (11, true), (12, true), (13, true), (14, true), (15, true), (16, true), (17, true), (18, true), (19, true)] (by kernel_rfl) (by kernel_rfl) (by kernel_rfl) ?_ ?_
            · ((try dsimp only); (first | done | (exact ⟨n2, n10, nr⟩)))
            simp only [planOps, List.map_cons, List.map_nil, List.getElem?_toArray, List.getElem?_cons_zero, List.getElem?_cons_succ]
            repeat (first
              | ((refine plan_yes (v := ?_) (by rfl) ?_ ?_); rotate_left; (focus (intro w hSw; (try dsimp only at hSw); go_simp; try (with_reducible rfl))); (try simp only [Act.put, List.setIfInBounds_toArray, List.set_cons_zero, List.set_cons_succ]))
              | ((refine plan_no (by rfl) ?_); (try simp only [Act.put, List.setIfInBounds_toArray, List.set_cons_zero, List.set_cons_succ]))
              | ((refine plan_step (fun K hK => ?_)); (first | (fail) | (go_simp; (fail); (try go_wp2_with fail)) | go_simp); (refine hK.out _ _ ?_ (fun hHeld => ?_)); (focus ((try dsimp only); (first | done | (exact ⟨n2, n10, nr⟩)))); clear hK K; (try simp only [Act.put, List.setIfInBounds_toArray, List.set_cons_zero, List.set_cons_succ])))
            refine plan_done ?_
            go_wp2_with fail
            go_roundg (gk - 1)
            case rel => exact ⟨j + 1, _, p', cap', by simp, by simp, by rw [HOT.out]; simp, HO.out, by omega, T6.out, R6.out⟩
            case measure => omega
      · have hge : (L1.length : Int) ≤ (j : Int) := by omega
        have HO := Lib.hid (show out = L1.eraseIdx i by rw [hout, List.take_of_length_le (by omega)])
        have c2 := (rt_cells Sr.right.right).2.2.1
        have f0 : ∀ i, wr.frozen? ⟨c.tb, i, none⟩ = false := fun i => rt_free Sr.right.right i
        have S9 := rt_new (Sr.perm (show _ = dhA p cap out * (rtHp c L1 B.length * (pts hb (dhO ⟨xi, 4, 0, xa, xn, xrd, xpt, xmo, xd, xm, (k : Int) + 1⟩) * (pqHp c B * (Spill.rpool c.rp 40 3 4 pcap pp0 B * (all Spill.rbuf B * R))))) by ac_rfl))
        have R9 := Lib.hid (Ran.set Rr ⟨c.tb, 2, none⟩ (.slice p out.length cap))
        have S9 := S9.perm (show _ = pts hb (dhO ⟨xi, 4, 0, xa, xn, xrd, xpt, xmo, xd, xm, (k : Int) + 1⟩) * (rtHp { c with lp := p, lc := cap } out B.length * (pqHp c B * (Spill.rpool c.rp 40 3 4 pcap pp0 B * (all Spill.rbuf B * R)))) by ac_rfl)
        obtain ⟨r0, r1, r2, r3, r4, r5, r6, r7, r8, r9, r10⟩ := dhO_cells S9
        dsimp only at r0 r1 r2 r3 r4 r5 r6 r7 r8 r9 r10
        have S9 := Lib.hid S9
        clear hout Sr Rr hol
        have hot : othN ((k : Int) + 1) out = false := by rw [HO.out]; exact HOTH.out
        rw [hot]
        clear hot
        go_upto_region 20 with fail
        obtain ⟨k3, kq⟩ := HPQ.out _ { c with lp := p, lc := cap } _ _ rfl rfl S9.out.right
        dsimp only at k3
        have HCL2 := Lib.hid (HCL.out _ _ (S9.out.drew.perm (show _ = Spill.rpool c.rp 40 3 4 pcap pp0 B * (all Spill.rbuf B * (pts hb (dhO ⟨xi, 4, 0, xa, xn, xrd, xpt, xmo, xd, xm, (k : Int) + 1⟩) * (rtHp { c with lp := p, lc := cap } out B.length * (pqHp c B * R)))) by ac_rfl)))
        refine region_plan (S := (fun w' => w'.cell? ⟨c.tb, 3, none⟩ = some (.slice (some ⟨b2, o2, none⟩) B.length c.qc) ∧ w'.cell? ⟨b2, o2 + k, none⟩ = some (pp rb) ∧ w'.cell? ⟨hb, 10, none⟩ = some (.int .i64 ((k : Int) + 1)))) [(0, true), (1, true), (2, true), (3, true), (4, true), (5, true), (6, true), (7, true), (8, true), (9, false)] (by kernel_rfl) (by kernel_rfl) (by kernel_rfl) ?_ ?_
        · ((try dsimp only); (first | done | (first | exact Kset.out | exact ⟨k3, kq, r10⟩)))
        simp only [planOps, List.map_cons, List.map_nil, List.getElem?_toArray, List.getElem?_cons_zero, List.getElem?_cons_succ]
        repeat (first
          | ((refine plan_yes (v := ?_) (by rfl) ?_ ?_); rotate_left; (focus (intro w hSw; (try dsimp only at hSw); go_simp; try (with_reducible rfl))); (try simp only [Act.put, List.setIfInBounds_toArray, List.set_cons_zero, List.set_cons_succ]))
          | ((refine plan_no (by rfl) ?_); (try simp only [Act.put, List.setIfInBounds_toArray, List.set_cons_zero, List.set_cons_succ]))
          | ((refine plan_step (fun K hK => ?_)); (first | (go_simp; (go_at_call 82; refine HCL2.out.mono ?_; rintro e w3 ⟨rfl, S3, R3⟩; have S3 := S3.perm (show _ = pts hb (dhO ⟨xi, 4, 0, xa, xn, xrd, xpt, xmo, xd, xm, (k : Int) + 1⟩) * (rtHp { c with lp := p, lc := cap } out B.length * (pqHp c B * (Spill.rpool c.rp 40 3 4 pcap pp0 B2 * (all Spill.rbuf B2 * R)))) by ac_rfl); obtain ⟨s3, sq⟩ := HPQ.out _ { c with lp := p, lc := cap } _ _ rfl rfl S3.right; have s10 := (dhO_cells S3).2.2.2.2.2.2.2.2.2.2; dsimp only at s3 s10; have Kset := Lib.hid (And.intro s3 (And.intro sq s10)); have S3 := Lib.hid S3; have R3 := Lib.hid (Below.trans (Ran.drewN R9.out 1) R3)); (try go_wp2_with fail)) | go_simp); (refine hK.out _ _ ?_ (fun hHeld => ?_)); (focus ((try dsimp only); (first | done | (first | exact Kset.out | exact ⟨k3, kq, r10⟩)))); clear hK K; (try simp only [Act.put, List.setIfInBounds_toArray, List.set_cons_zero, List.set_cons_succ])))
        refine plan_done ?_
        clear r0 r1 r2 r3 r4 r5 r6 r7 r8 r9 r10 k3 kq c2 f0
        go_wp2_with fail
        go_ret
        exact ⟨⟨rfl, p, cap, by rw [← HO.out]; exact S3.out.right⟩, R3.out⟩
  · go_enter Tryz.func53, Tryz.ntmps53
    go_wp2_with fail
    refine HP.out.mono ?_
    rintro e w1 ⟨rfl, rfl⟩
    clear HP
    go_upto_region 4 with fail
    go_still_tail 16, (by kernel_rfl)
    obtain ⟨W, hW⟩ : ∃ W, W = (w.setCell ⟨b, o + i * 11 + 2, none⟩ (.int .i64 0)).drew := ⟨_, rfl⟩
    go_upto_region 5 with fail
    rw [← hW] at HF ⊢
    clear hW f0 m0 m1 m2 m3 m4 m5 m6 m7 m8 m9 m10 c0 c1 c2 c3
    obtain ⟨c0, c1, c2, c3⟩ := rt_cells HF.out.1
    rw [HBB.out] at c2
    obtain ⟨m0, m1, m2, m3, m4, m5, m6, m7, m8, m9, m10⟩ := dh_cells HF.out.1 HBB.out hi1
    rw [HL1.out hi1] at m0 m1 m2 m3 m4 m5 m6 m7 m8 m9 m10
    dsimp only at m0 m1 m2 m3 m4 m5 m6 m7 m8 m9 m10
    have S1 := Lib.hid ((HF.out.1.alloc (dhO ⟨xi, 5, 0, xa, xn, xrd, xpt, xmo, xd, xm, (k : Int) + 1⟩)).nil_arr 146 11)
    have R1 := Lib.hid (Ran.new HF.out.2 (dhO ⟨xi, 5, 0, xa, xn, xrd, xpt, xmo, xd, xm, (k : Int) + 1⟩))
    obtain ⟨r0, r1, r2, r3, r4, r5, r6, r7, r8, r9, r10⟩ := dhO_cells (HF.out.1.alloc (dhO ⟨xi, 5, 0, xa, xn, xrd, xpt, xmo, xd, xm, (k : Int) + 1⟩))
    obtain ⟨hb, hhb⟩ : ∃ hb, hb = W.heap.size := ⟨_, rfl⟩
    obtain ⟨W2, hW2⟩ : ∃ W2, W2 = W.alloc (dhO ⟨xi, 5, 0, xa, xn, xrd, xpt, xmo, xd, xm, (k : Int) + 1⟩) := ⟨_, rfl⟩
    go_upto_region 8 with fail
    rw [← hhb, ← hW2] at S1 ⊢
    rw [← hW2] at R1
    clear r0 r1 r2 r3 r4 r5 r6 r7 r8 r9 r10 m0 m1 m2 m3 m4 m5 m6 m7 m8 m9 m10 c0 c1 c2 c3 HF hhb hW2
    go_wp2_with fail
    go_loopg [7, 8, 9] (L1.length) (fun (g : Nat) (v7 v8 v9 : Value) (wr : World) => ∃ (j : Nat) (out : List DH) (p : Option Addr) (cap : Nat), v9 = .int .i64 (j : Int) ∧ v7 = .slice p out.length cap ∧ v8 = .bool (othN ((k : Int) + 1) out) ∧ out = (L1.take j).eraseIdx i ∧ j + g = L1.length ∧ Sat wr (dhA p cap out * (pts hb (dhO ⟨xi, 5, 0, xa, xn, xrd, xpt, xmo, xd, xm, (k : Int) + 1⟩) * (rtHp c L1 B.length * (pqHp c B * (Spill.rpool c.rp 40 3 4 pcap pp0 B * (all Spill.rbuf B * R)))))) ∧ Ran w wr)
    case atStart => exact ⟨0, [], none, 0, rfl, rfl, rfl, by simp, by omega, S1.out, R1.out⟩
    case round =>
      clear S1 R1
      obtain ⟨j, out, p, cap, rfl, rfl, rfl, hout, hgj, Sr, Rr⟩ := hrel
      have hol : out.length ≤ j := by rw [hout]; exact erase_len L1 i j
      by_cases hlt : j < L1.length
      · have hltI : (j : Int) < (L1.length : Int) := by omega
        have hj0 : (0 : Int) ≤ (j : Int) := by omega
        have hoI : (out.length : Int) ≤ 1000000 := by omega
        have c2 := (rt_cells Sr.right.right).2.2.1
        obtain ⟨⟨b9, o9, hbo⟩, hlc, hlm⟩ := rt_addr Sr.right.right hlt
        rw [hbo] at c2
        have hcm : (c.lc : Int) ≤ 9223372036854775807 := by unfold maxLen at hlm; omega
        have hlcI : (L1.length : Int) ≤ (c.lc : Int) := by omega
        by_cases hji : j = i
        · have hne : ((j : Int) != (i : Int)) = false := by simp [hji]
          have HO := Lib.hid (show out = (L1.take (j + 1)).eraseIdx i by rw [hout, hji, erase_skip L1 i (by omega)])
          have Sr := Lib.hid Sr
          have Rr := Lib.hid Rr
          clear hout hbo hlm
          go_wp2_with fail
          go_roundg (gk - 1)
          case rel => exact ⟨j + 1, out, p, cap, by simp [hji], rfl, rfl, HO.out, by omega, Sr.out, Rr.out⟩
          case measure => omega
        · have hne : ((j : Int) != (i : Int)) = true := by simp; omega
          obtain ⟨m0, m1, m2, m3, m4, m5, m6, m7, m8, m9, m10⟩ := dh_cells Sr.right.right hbo hlt
          obtain ⟨z, hz⟩ : ∃ z, z = L1[j] := ⟨_, rfl⟩
          have HO := Lib.hid (show out ++ [z] = (L1.take (j + 1)).eraseIdx i by rw [hout, erase_step L1 i j hlt hji, hz])
          rw [← hz] at m0 m1 m2 m3 m4 m5 m6 m7 m8 m9 m10
          have HM := Lib.hid (fun (W' : World) (X : Hp) (hX : Sat W' (rtHp c L1 B.length * X)) => (show W'.cell? ⟨c.tb, 2, none⟩ = some (.slice (some ⟨b9, o9, none⟩) L1.length c.lc) ∧ W'.cell? ⟨b9, o9 + j * 11 + 10, none⟩ = some (.int .i64 z.pipe) by
            have e2 := (rt_cells hX).2.2.1
            rw [hbo] at e2
            have e3 := (dh_cells hX hbo hlt).2.2.2.2.2.2.2.2.2.2
            rw [← hz] at e3
            exact ⟨e2, e3⟩))
          obtain ⟨zi, zk, zr, za, zn, zrd, zpt, zmo, zd, zm, zp⟩ := z
          dsimp only at HM m0 m1 m2 m3 m4 m5 m6 m7 m8 m9 m10
          obtain ⟨ot, hot⟩ : ∃ ot, ot = othN ((k : Int) + 1) out := ⟨_, rfl⟩
          have HOT := Lib.hid (othN_snoc ((k : Int) + 1) out ⟨zi, zk, zr, za, zn, zrd, zpt, zmo, zd, zm, zp⟩)
          rw [← hot] at HOT ⊢
          have HA := Lib.hid (Sr.old (dhO ⟨zi, zk, zr, za, zn, zrd, zpt, zmo, zd, zm, zp⟩))
          have HX := Lib.hid (heap_alloc_new wr (dhO ⟨zi, zk, zr, za, zn, zrd, zpt, zmo, zd, zm, zp⟩))
          have RA := Lib.hid (Ran.new Rr (dhO ⟨zi, zk, zr, za, zn, zrd, zpt, zmo, zd, zm, zp⟩))
          clear hout hbo hlm hz hot Sr Rr
          cases ot with
          | true =>
            go_upto_region 15 with (at_builtin; go_loud (refine appDH rfl _ _ rfl p out.length cap out ⟨zi, zk, zr, za, zn, zrd, zpt, zmo, zd, zm, zp⟩ rfl rfl _ rfl HX.out HA.out (by omega) ?_; intro p' cap' w6 T6 R6; clear HA HX c2 m0 m1 m2 m3 m4 m5 m6 m7 m8 m9 m10))
            obtain ⟨n2, n10⟩ := HM.out _ _ (T6.perm (show _ = rtHp c L1 B.length * (dhA p' cap' (out ++ [⟨zi, zk, zr, za, zn, zrd, zpt, zmo, zd, zm, zp⟩]) * (pts hb (dhO ⟨xi, 5, 0, xa, xn, xrd, xpt, xmo, xd, xm, (k : Int) + 1⟩) * (pqHp c B * (Spill.rpool c.rp 40 3 4 pcap pp0 B * (all Spill.rbuf B * R))))) by ac_rfl)).drew
            have nr := (dhO_cells T6.drew.right).2.2.2.2.2.2.2.2.2.2
            dsimp only at nr
            have T6 := Lib.hid T6.drew
            have R6 := Lib.hid (Ran.drewN (Below.trans RA.out R6) 1)
            refine region_plan (S := (fun w' => w'.cell? ⟨c.tb, 2, none⟩ = some (.slice (some ⟨b9, o9, none⟩) L1.length c.lc) ∧ w'.cell? ⟨b9, o9 + j * 11 + 10, none⟩ = some (.int .i64 zp) ∧ w'.cell? ⟨hb, 10, none⟩ = some (.int .i64 ((k : Int) + 1)))) [(0, true), (1, true), (2, true), (3, true), (4, true), (5, true), (6, true), (7, true), (8, true), (9, true), (10, true), (11, true), (12, true), (13, true), (14, true), (15, true), (16, true), (17, true), (18, true), (19, true)] (by kernel_rfl) (by kernel_rfl) (by kernel_rfl) ?_ ?_
            · ((try dsimp only); (first | done | (exact ⟨n2, n10, nr⟩)))
            simp only [planOps, List.map_cons, List.map_nil, List.getElem?_toArray, List.getElem?_cons_zero, List.getElem?_cons_succ]
            repeat (first
              | ((refine plan_yes (v := ?_) (by rfl) ?_ ?_); rotate_left; (focus (intro w hSw; (try dsimp only at hSw); go_simp; try (with_reducible rfl))); (try simp only [Act.put, List.setIfInBounds_toArray, List.set_cons_zero, List.set_cons_succ]))
              | ((refine plan_no (by rfl) ?_); (try simp only [Act.put, List.setIfInBounds_toArray, List.set_cons_zero, List.set_cons_succ]))
              | ((refine plan_step (fun K hK => ?_)); (first | (fail) | (go_simp; (fail); (try go_wp2_with fail)) | go_simp); (refine hK.out _ _ ?_ (fun hHeld => ?_)); (focus ((try dsimp only); (first | done | (exact ⟨n2, n10, nr⟩)))); clear hK K; (try simp only [Act.put, List.setIfInBounds_toArray, List.set_cons_zero, List.set_cons_succ])))
            refine plan_done ?_
            go_wp2_with fail
            go_roundg (gk - 1)
            case rel => exact ⟨j + 1, _, p', cap', by simp, by simp, by rw [HOT.out]; simp, HO.out, by omega, T6.out, R6.out⟩
            case measure => omega
          | false =>
            go_upto_region 15 with (at_builtin; go_loud (refine appDH rfl _ _ rfl p out.length cap out ⟨zi, zk, zr, za, zn, zrd, zpt, zmo, zd, zm, zp⟩ rfl rfl _ rfl HX.out HA.out (by omega) ?_; intro p' cap' w6 T6 R6; clear HA HX c2 m0 m1 m2 m3 m4 m5 m6 m7 m8 m9 m10))
            obtain ⟨n2, n10⟩ := HM.out _ _ (T6.perm (show _ = rtHp c L1 B.length * (dhA p' cap' (out ++ [⟨zi, zk, zr, za, zn, zrd, zpt, zmo, zd, zm, zp⟩]) * (pts hb (dhO ⟨xi, 5, 0, xa, xn, xrd, xpt, xmo, xd, xm, (k : Int) + 1⟩) * (pqHp c B * (Spill.rpool c.rp 40 3 4 pcap pp0 B * (all Spill.rbuf B * R))))) by ac_rfl)).drew
            have nr := (dhO_cells T6.drew.right).2.2.2.2.2.2.2.2.2.2
            dsimp only at nr
            have T6 := Lib.hid T6.drew
            have R6 := Lib.hid (Ran.drewN (Below.trans RA.out R6) 1)
            refine region_plan (S := (fun w' => w'.cell? ⟨c.tb, 2, none⟩ = some (.slice (some ⟨b9, o9, none⟩) L1.length c.lc) ∧ w'.cell? ⟨b9, o9 + j * 11 + 10, none⟩ = some (.int .i64 zp) ∧ w'.cell? ⟨hb, 10, none⟩ = some (.int .i64 ((k : Int) + 1)))) [(0, true), (1, true), (2, true), (3, true), (4, true), (5, true), (6, true), (7, true), (8, true), (9, true), (10, true), (11, true), (12, true), (13, true), (14, true), (15, true), (16, true), (17, true), (18, true), (19, true)] (by kernel_rfl) (by kernel_rfl) (by kernel_rfl) ?_ ?_
            · ((try dsimp only); (first | done | (exact ⟨n2, n10, nr⟩)))
            simp only [planOps, List.map_cons, List.map_nil, List.getElem?_toArray, List.getElem?_cons_zero, List.getElem?_cons_succ]
            repeat (first
              | ((refine plan_yes (v := ?_) (by rfl) ?_ ?_); rotate_left; (focus (intro w hSw; (try dsimp only at hSw); go_simp; try (with_reducible rfl))); (try simp only [Act.put, List.setIfInBounds_toArray, List.set_cons_zero, List.set_cons_succ]))
              | ((refine plan_no (by rfl) ?_); (try simp only [Act.put, List.setIfInBounds_toArray, List.set_cons_zero, List.set_cons_succ]))
              | ((refine plan_step (fun K hK => ?_)); (first | (fail) | (go_simp; (fail); (try go_wp2_with fail)) | go_simp); (refine hK.out _ _ ?_ (fun hHeld => ?_)); (focus ((try dsimp only); (first | done | (exact ⟨n2, n10, nr⟩)))); clear hK K; (try simp only [Act.put, List.setIfInBounds_toArray, List.set_cons_zero, List.set_cons_succ])))
            refine plan_done ?_
            go_wp2_with fail
            go_roundg (gk - 1)
            case rel => exact ⟨j + 1, _, p', cap', by simp, by simp, by rw [HOT.out]; simp, HO.out, by omega, T6.out, R6.out⟩
            case measure => omega
      · have hge : (L1.length : Int) ≤ (j : Int) := by omega
        have HO := Lib.hid (show out = L1.eraseIdx i by rw [hout, List.take_of_length_le (by omega)])
        have c2 := (rt_cells Sr.right.right).2.2.1
        have f0 : ∀ i, wr.frozen? ⟨c.tb, i, none⟩ = false := fun i => rt_free Sr.right.right i
        have S9 := rt_new (Sr.perm (show _ = dhA p cap out * (rtHp c L1 B.length * (pts hb (dhO ⟨xi, 5, 0, xa, xn, xrd, xpt, xmo, xd, xm, (k : Int) + 1⟩) * (pqHp c B * (Spill.rpool c.rp 40 3 4 pcap pp0 B * (all Spill.rbuf B * R))))) by ac_rfl))
        have R9 := Lib.hid (Ran.set Rr ⟨c.tb, 2, none⟩ (.slice p out.length cap))
        have S9 := S9.perm (show _ = pts hb (dhO ⟨xi, 5, 0, xa, xn, xrd, xpt, xmo, xd, xm, (k : Int) + 1⟩) * (rtHp { c with lp := p, lc := cap } out B.length * (pqHp c B * (Spill.rpool c.rp 40 3 4 pcap pp0 B * (all Spill.rbuf B * R)))) by ac_rfl)
        obtain ⟨r0, r1, r2, r3, r4, r5, r6, r7, r8, r9, r10⟩ := dhO_cells S9
        dsimp only at r0 r1 r2 r3 r4 r5 r6 r7 r8 r9 r10
        have S9 := Lib.hid S9
        clear hout Sr Rr hol
        have hot : othN ((k : Int) + 1) out = false := by rw [HO.out]; exact HOTH.out
        rw [hot]
        clear hot
        go_upto_region 20 with fail
        obtain ⟨k3, kq⟩ := HPQ.out _ { c with lp := p, lc := cap } _ _ rfl rfl S9.out.right
        dsimp only at k3
        have HCL2 := Lib.hid (HCL.out _ _ (S9.out.drew.perm (show _ = Spill.rpool c.rp 40 3 4 pcap pp0 B * (all Spill.rbuf B * (pts hb (dhO ⟨xi, 5, 0, xa, xn, xrd, xpt, xmo, xd, xm, (k : Int) + 1⟩) * (rtHp { c with lp := p, lc := cap } out B.length * (pqHp c B * R)))) by ac_rfl)))
        refine region_plan (S := (fun w' => w'.cell? ⟨c.tb, 3, none⟩ = some (.slice (some ⟨b2, o2, none⟩) B.length c.qc) ∧ w'.cell? ⟨b2, o2 + k, none⟩ = some (pp rb) ∧ w'.cell? ⟨hb, 10, none⟩ = some (.int .i64 ((k : Int) + 1)))) [(0, true), (1, true), (2, true), (3, true), (4, true), (5, true), (6, true), (7, true), (8, true), (9, false)] (by kernel_rfl) (by kernel_rfl) (by kernel_rfl) ?_ ?_
        · ((try dsimp only); (first | done | (first | exact Kset.out | exact ⟨k3, kq, r10⟩)))
        simp only [planOps, List.map_cons, List.map_nil, List.getElem?_toArray, List.getElem?_cons_zero, List.getElem?_cons_succ]
        repeat (first
          | ((refine plan_yes (v := ?_) (by rfl) ?_ ?_); rotate_left; (focus (intro w hSw; (try dsimp only at hSw); go_simp; try (with_reducible rfl))); (try simp only [Act.put, List.setIfInBounds_toArray, List.set_cons_zero, List.set_cons_succ]))
          | ((refine plan_no (by rfl) ?_); (try simp only [Act.put, List.setIfInBounds_toArray, List.set_cons_zero, List.set_cons_succ]))
          | ((refine plan_step (fun K hK => ?_)); (first | (go_simp; (go_at_call 82; refine HCL2.out.mono ?_; rintro e w3 ⟨rfl, S3, R3⟩; have S3 := S3.perm (show _ = pts hb (dhO ⟨xi, 5, 0, xa, xn, xrd, xpt, xmo, xd, xm, (k : Int) + 1⟩) * (rtHp { c with lp := p, lc := cap } out B.length * (pqHp c B * (Spill.rpool c.rp 40 3 4 pcap pp0 B2 * (all Spill.rbuf B2 * R)))) by ac_rfl); obtain ⟨s3, sq⟩ := HPQ.out _ { c with lp := p, lc := cap } _ _ rfl rfl S3.right; have s10 := (dhO_cells S3).2.2.2.2.2.2.2.2.2.2; dsimp only at s3 s10; have Kset := Lib.hid (And.intro s3 (And.intro sq s10)); have S3 := Lib.hid S3; have R3 := Lib.hid (Below.trans (Ran.drewN R9.out 1) R3)); (try go_wp2_with fail)) | go_simp); (refine hK.out _ _ ?_ (fun hHeld => ?_)); (focus ((try dsimp only); (first | done | (first | exact Kset.out | exact ⟨k3, kq, r10⟩)))); clear hK K; (try simp only [Act.put, List.setIfInBounds_toArray, List.set_cons_zero, List.set_cons_succ])))
        refine plan_done ?_
        clear r0 r1 r2 r3 r4 r5 r6 r7 r8 r9 r10 k3 kq c2 f0
        go_wp2_with fail
        go_ret
        exact ⟨⟨rfl, p, cap, by rw [← HO.out]; exact S3.out.right⟩, R3.out⟩
end
end Go.Proofs.YtljlpkeddbfpaaaGreatDoor.Hd

namespace Go.Proofs.YtljlpkeddbfpaaaGreatDoor.Hd
open Go.RowKit Go.Maps Go.Proofs.YtljlpkeddbfpaaaGreatDoor Go.Proofs.YtljlpkeddbfpaaaGreatDoor.Hp
set_option linter.unusedVariables false
attribute [local go_sem] Oper.semAt_some

set_option maxRecDepth 100000 in
set_option maxHeartbeats 1000000 in
theorem RNew_calls (rf rp : Nat) (w : World) (R : Hp) (h : Sat w R) :
    Calls Tryz.prog 47 #[pp rf, pp rp] w fun e w' => ∃ tb, e = .returned (pp tb) ∧ Sat w' (rtHp ⟨tb, rf, rp, none, 0, none, 0⟩ [] 0 * R) ∧ Ran w w' := by
  have S1 : Sat (w.alloc (rtO ⟨w.heap.size, rf, rp, none, 0, none, 0⟩ 0 0)) (rtHp ⟨w.heap.size, rf, rp, none, 0, none, 0⟩ [] 0 * R) := by
    refine ((h.alloc (rtO ⟨w.heap.size, rf, rp, none, 0, none, 0⟩ 0 0)).nil_arr 146 11).perm ?_
    unfold rtHp
    show arr _ _ none 0 0 [] * (pts w.heap.size _ * R) = pts w.heap.size _ * arr _ _ none 0 0 [] * R
    ac_rfl
  have S1 := Lib.hid S1
  have R1 := Lib.hid (Ran.new (Below.refl 0 w) (rtO ⟨w.heap.size, rf, rp, none, 0, none, 0⟩ 0 0))
  clear h
  go_enter Tryz.func47, Tryz.ntmps47
  go_wp2_with fail
  go_ret
  exact ⟨w.heap.size, rfl, S1.out, R1.out⟩
set_option maxRecDepth 100000 in
theorem rbegin_calls (c : UInt8) (hc : Simple c) (w : World) :
    Calls Tryz.prog 126 #[.int .i64 1, .string (nm c)] w fun e w' => e = .returned (.tuple #[.int .i64 1, .int .i64 0]) ∧ w = w' := by
  rcases hc with rfl | rfl | rfl | rfl
  all_goals
    go_enter Tryz.func126, Tryz.ntmps126
    go_wp2_with fail
    go_ret2
    exact ⟨rfl, rfl⟩
set_option maxRecDepth 100000 in
set_option maxHeartbeats 1000000 in
theorem rright_calls (c : UInt8) (hc : Simple c) (w : World) :
    Calls Tryz.prog 129 #[.string (nm c)] w fun e w' => e = .returned (.bool true) ∧ w = w' := by
  rcases hc with rfl | rfl | rfl | rfl
  all_goals
    go_enter Tryz.func129, Tryz.ntmps129
    go_wp2_with fail
    go_loopg [3] 1 (fun (g : Nat) (v3 : Value) (wr : World) => ∃ i : Nat, v3 = .int .i64 (i : Int) ∧ i + g = 1 ∧ w = wr)
    case atStart => exact ⟨0, rfl, rfl, rfl⟩
    case round =>
      obtain ⟨i, rfl, hg, rfl⟩ := hrel
      by_cases hi : i = 0
      · subst hi
        go_wp2_with fail
        go_roundg (gk - 1)
        case rel => exact ⟨1, rfl, by omega, rfl⟩
        case measure => omega
      · obtain rfl : i = 1 := by omega
        go_wp2_with fail
        go_ret
        exact ⟨rfl, rfl⟩
end Go.Proofs.YtljlpkeddbfpaaaGreatDoor.Hd

namespace Go.Proofs.YtljlpkeddbfpaaaGreatDoor.Hd
open Go.RowKit Go.Maps Go.Proofs.YtljlpkeddbfpaaaGreatDoor Go.Proofs.YtljlpkeddbfpaaaGreatDoor.Hp
set_option linter.unusedVariables false
attribute [local go_sem] Oper.semAt_some

theorem infoStr : (Tryz.prog.info? 9).map (fun i => (i.zero, i.size, i.bytes)) = some (some (.string ⟨#[]⟩), 1, 16) := by kernel_rfl
/-- A text is appended to texts. -/
theorem appStrs {w : World} {R : Hp} {ops : Array Oper} {rest : List Oper} {o : Oper} {a : Act} {Q : Exit → Act → World → Prop} (hgd : o.guard = none) (s x : Operand)
    (ho : o.op = .call { callee := .builtin .append, args := #[s, x], argTypes := #[22, 22] })
    (p : Option Addr) (n cap : Nat) (xs : List Value) (hp : a.eval s = .slice p n cap) (b : Nat) (v : ByteArray) (hvx : a.eval x = .slice (some ⟨b, 0, none⟩) 1 1) (h : Sat w (arr 9 1 p n cap xs * R)) (hb : w.cell? ⟨b, 0, none⟩ = some (.string v)) (hn : n ≤ 1000000)
    (hk : ∀ p' cap' w', Sat w' (arr 9 1 p' (n + 1) cap' (xs ++ [.string v]) * R) → Ran w w' → wpList Tryz.prog ops Q rest (a.put o.dst (.slice p' (n + 1) cap')) w') : wpList Tryz.prog ops Q (o :: rest) a w := by
  obtain ⟨i0, hi, hz0, hz1, hz2⟩ := info_parts infoStr
  refine wpList_append_arr hgd s x _ _ ho 9 i0 _ 1 16 Tryz.underlying22 hi hz0 hz1 hz2 rfl p n cap xs hp h _ hvx 1 [.string v] (Src.ofSlice _ Tryz.underlying22 ⟨b, 0, none⟩ 1 1 [.string v] (by simp [hz1]) ?_ (by simp; rfl)) (by omega) (by unfold maxLen; omega) fun p' cap' w' h1 h2 _ => hk p' cap' w' h1 h2
  intro j u hj
  cases j with
  | zero => rw [Addr.add_lit, Nat.zero_add]; simp at hj; rw [← hj]; exact hb
  | succ j => simp at hj
set_option maxRecDepth 100000 in
set_option maxHeartbeats 2000000 in
theorem rparts_calls (c : UInt8) (hc : Simple c) (w : World) (R : Hp) (h : Sat w R) :
    Calls Tryz.prog 127 #[.string (nm c)] w fun e w' => ∃ p cap, e = .returned (.slice p 1 cap) ∧ Sat w' (arr 9 1 p 1 cap [.string (nm c)] * R) ∧ Ran w w' := by
  have H := Lib.hid h
  clear h
  rcases hc with rfl | rfl | rfl | rfl
  all_goals
    go_enter Tryz.func127, Tryz.ntmps127
    go_wp2_with fail
    go_loopg [3, 4, 5] 2 (fun (g : Nat) (v3 v4 v5 : Value) (wr : World) => (∃ i : Nat, i ≤ 1 ∧ v5 = .int .i64 (i : Int) ∧ v4 = .int .i64 0 ∧ v3 = .slice none 0 0 ∧ i + g = 2 ∧ w = wr) ∨ (∃ p cap, g = 0 ∧ v5 = .int .i64 2 ∧ v4 = .int .i64 2 ∧ v3 = .slice p 1 cap ∧ Sat wr (arr 9 1 p 1 cap [.string (nm _)] * R) ∧ Ran w wr))
    case atStart => exact .inl ⟨0, by omega, rfl, rfl, rfl, rfl, rfl⟩
    case round =>
      rcases hrel with ⟨i, hi, rfl, rfl, rfl, hg, rfl⟩ | ⟨p, cap, hg, rfl, rfl, rfl, S1, R1⟩
      · by_cases h0 : i = 0
        · subst h0
          go_wp2_with fail
          go_roundg (gk - 1)
          case rel => exact .inl ⟨1, by omega, rfl, rfl, rfl, by omega, rfl⟩
          case measure => omega
        · obtain rfl : i = 1 := by omega
          go_wp2_with (at_builtin; go_loud (refine appStrs rfl _ _ rfl none 0 0 [] rfl w.heap.size (nm _) rfl ((H.out.old (.cells #[.string (nm _)] 9 (0, 0))).nil_arr _ _) (by rw [cell_at (heap_alloc_new w _)]; rfl) (by omega) ?_; intro p' cap' w6 T6 R6))
          have T6 := Lib.hid T6
          have R6 := Lib.hid (Below.trans (Ran.new (Below.refl 0 w) _) R6)
          go_roundg (gk - 1)
          case rel => exact .inr ⟨p', cap', by omega, rfl, rfl, rfl, T6.out, R6.out⟩
          case measure => omega
      · have S1 := Lib.hid S1
        have R1 := Lib.hid R1
        go_wp2_with fail
        go_ret
        exact ⟨p, cap, rfl, S1.out, R1.out⟩
end Go.Proofs.YtljlpkeddbfpaaaGreatDoor.Hd

namespace Go.Proofs.YtljlpkeddbfpaaaGreatDoor.Hd
open Go.RowKit Go.Maps Go.Proofs.YtljlpkeddbfpaaaGreatDoor Go.Proofs.YtljlpkeddbfpaaaGreatDoor.Hp
set_option linter.unusedVariables false
attribute [local go_sem] Oper.semAt_some

/-- A name in a directory. -/
structure EN where
  name : ByteArray
  node : Int
instance : Inhabited EN := ⟨⟨⟨#[]⟩, 0⟩⟩
def enC (x : EN) : List Value := [.string x.name, .int .i64 x.node]
theorem enC_len (x : EN) : (enC x).length = 2 := rfl
abbrev enA (p : Option Addr) (cap : Nat) (E : List EN) : Hp := arr 174 2 p E.length cap (E.flatMap enC)
theorem en_cells {w : World} {p : Option Addr} {cap : Nat} {E : List EN} {R : Hp} (h : Sat w (enA p cap E * R)) {i : Nat} (hi : i < E.length) :
    ∃ b o, p = some ⟨b, o, none⟩ ∧ w.cell? ⟨b, o + i * 2, none⟩ = some (.string E[i].name) ∧ w.cell? ⟨b, o + i * 2 + 1, none⟩ = some (.int .i64 E[i].node) ∧ E.length ≤ cap ∧ cap ≤ maxLen := by
  have hl := h.arr_len
  obtain ⟨b, o, hb⟩ := h.arr_addr (by omega)
  unfold enA at h
  rw [hb] at h
  have g := fun j hj => rec_cell enC_len h i j hi hj
  exact ⟨b, o, hb, g 0 (by omega), g 1 (by omega), hl.2.1, hl.2.2⟩
section
variable {w : World} {c : RF} {L : List DN} {E : List EN} {R : Hp}
set_option maxRecDepth 100000 in
set_option maxHeartbeats 4000000 in
theorem rkid_calls {i : Nat} (name : ByteArray) (hi : i < L.length) (hkn : L[i].kn = E.length) (hE : E.length ≤ 100000) (hno : ∀ k (hk : k < E.length), (E[k].name.toList == name.toList) = false) (h : Sat w (rfHp c L * (enA L[i].kp L[i].kc E * R))) :
    Calls Tryz.prog 130 #[pp c.fb, .int .i64 (i : Int), .string name] w fun e w' => e = .returned (.int .i64 0) ∧ w = w' := by
  obtain ⟨c0, c1, c2⟩ := rf_cells h
  have hlm := rf_len h
  have hlI : (L.length : Int) ≤ 9223372036854775807 := by unfold maxLen at hlm; omega
  obtain ⟨d0, d1, d2, d3, d4, d5⟩ := dn_cells h hi
  have HE := Lib.hid (h.perm (show _ = enA L[i].kp L[i].kc E * (rfHp c L * R) by ac_rfl))
  rw [hkn] at d2
  obtain ⟨kp, hkp⟩ : ∃ kp, kp = L[i].kp := ⟨_, rfl⟩
  obtain ⟨kc, hkc⟩ : ∃ kc, kc = L[i].kc := ⟨_, rfl⟩
  rw [← hkp, ← hkc] at d2 HE
  have h1 : (0 : Int) ≤ (i : Int) := by omega
  have h2 : (i : Int) < (L.length : Int) := by omega
  have hEI : (E.length : Int) ≤ 100000 := by omega
  have HNO := Lib.hid hno
  clear h hlm hkp hkc hkn d0 d1 d3 d4 d5 hno
  go_enter Tryz.func130, Tryz.ntmps130
  go_wp2_with fail
  go_loopg [8] (E.length) (fun (g : Nat) (v8 : Value) (wr : World) => ∃ k : Nat, v8 = .int .i64 (k : Int) ∧ k + g = E.length ∧ w = wr)
  case atStart => exact ⟨0, rfl, by omega, rfl⟩
  case round =>
    obtain ⟨k, rfl, hg, rfl⟩ := hrel
    by_cases hlt : k < E.length
    · have hltI : (k : Int) < (E.length : Int) := by omega
      have hk0 : (0 : Int) ≤ (k : Int) := by omega
      obtain ⟨b, o, hb, e0, e1, hc1, hc2⟩ := en_cells HE.out hlt
      have hn := HNO.out k hlt
      obtain ⟨z, hz⟩ : ∃ z, z = E[k].name := ⟨_, rfl⟩
      rw [← hz] at e0 hn
      have d2' := d2
      rw [hb] at d2'
      have hcm : (kc : Int) ≤ 9223372036854775807 := by unfold maxLen at hc2; omega
      have hc1I : (E.length : Int) ≤ (kc : Int) := by omega
      subst hb
      clear hz e1 hc2
      go_wp2_with fail
      go_roundg (gk - 1)
      case rel => exact ⟨k + 1, by simp, by omega, rfl⟩
      case measure => omega
    · have hge : (E.length : Int) ≤ (k : Int) := by omega
      go_wp2_with fail
      go_ret
      exact ⟨rfl, rfl⟩
set_option maxRecDepth 100000 in
set_option maxHeartbeats 4000000 in
theorem rstep_calls (ch : UInt8) (hc : Simple ch) (hi : 1 < L.length) (hk : L[1].kind = 1) (hkn : L[1].kn = E.length) (hE : E.length ≤ 100000) (hno : ∀ k (hk : k < E.length), (E[k].name.toList == (nm ch).toList) = false) (h : Sat w (rfHp c L * (enA L[1].kp L[1].kc E * R))) :
    Calls Tryz.prog 101 #[pp c.fb, .int .i64 1, .string (nm ch)] w fun e w' => e = .returned (.tuple #[.int .i64 0, .int .i64 10]) ∧ w = w' := by
  have HK := rkind_calls ((1 : Nat) : Int) h
  rw [kindD_at (by omega) hi, hk] at HK
  have HKD := rkid_calls (i := 1) (nm ch) hi hkn hE hno h
  have HR := rright_calls ch hc w
  clear h hno hkn hk
  rcases hc with rfl | rfl | rfl | rfl
  all_goals
    have HK := Lib.hid HK
    have HKD := Lib.hid HKD
    have HR := Lib.hid HR
    go_enter Tryz.func101, Tryz.ntmps101
    go_wp2_with fail
    refine HK.out.mono ?_
    rintro e w1 ⟨rfl, rfl⟩
    clear HK
    go_wp2_with fail
    refine HR.out.mono ?_
    rintro e w1 ⟨rfl, rfl⟩
    clear HR
    go_wp2_with fail
    refine HKD.out.mono ?_
    rintro e w1 ⟨rfl, rfl⟩
    clear HKD
    go_wp2_with fail
    go_ret2
    exact ⟨rfl, rfl⟩
end
end Go.Proofs.YtljlpkeddbfpaaaGreatDoor.Hd

