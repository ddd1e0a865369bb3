/- HandlesPlays, part 11 of 34: the texts HdPb HdPc, joined by a program. -/
import Derived.Test.YtljlpkeddbfpaaaGreatDoorHm10
namespace Go.Proofs.YtljlpkeddbfpaaaGreatDoor.Hd
open Go.RowKit Go.Maps Go.Proofs.YtljlpkeddbfpaaaGreatDoor Go.Proofs.YtljlpkeddbfpaaaGreatDoor.Hp
set_option linter.unusedVariables false
attribute [local go_sem] Oper.semAt_some

theorem infoDH : (Tryz.prog.info? 146).map (fun i => (i.zero, i.size, i.bytes)) = some (some (dhV ⟨0, 0, 0, 0, 0, false, false, false, ⟨#[]⟩, 0, 0⟩), 11, 80) := by kernel_rfl
theorem dhC_one (y : DH) : ∀ u ∈ dhC y, u.oneCell' = true := fun u hu => by
  simp only [dhC, List.mem_cons, List.not_mem_nil, or_false] at hu
  rcases hu with rfl | rfl | rfl | rfl | rfl | rfl | rfl | rfl | rfl | rfl | rfl <;> rfl
theorem dhs_snoc (l : List DH) (y : DH) : (l ++ [y]).flatMap dhC = l.flatMap dhC ++ dhC y := by rw [List.flatMap_append]; simp
/-- A handle is appended. -/
theorem appDH {w : World} {H : Hp} {ops : Array Oper} {rest : List Oper} {o : Oper} {a : Act} {Q : Exit → Act → World → Prop} (hgd : o.guard = none) (s x : Operand)
    (ho : o.op = .call { callee := .builtin .append, args := #[s, x], argTypes := #[140, 140] })
    (p : Option Addr) (n cap : Nat) (l : List DH) (y : DH) (hn : l.length = n) (hp : a.eval s = .slice p n cap) (xb : Nat) (hvx : a.eval x = .slice (some ⟨xb, 0, none⟩) 1 1) (hx : w.heap[xb]? = some (dhO y)) (h : Sat w (dhA p cap l * H)) (hl : n ≤ 1000000)
    (hk : ∀ p' cap' w', Sat w' (dhA p' cap' (l ++ [y]) * H) → Ran w w' → wpList Tryz.prog ops Q rest (a.put o.dst (.slice p' (n + 1) cap')) w') : wpList Tryz.prog ops Q (o :: rest) a w := by
  subst hn
  obtain ⟨i0, hi, hz0, hz1, hz2⟩ := info_parts infoDH
  refine wpList_append_arr hgd s x _ _ ho 146 i0 _ 11 80 Tryz.underlying140 hi hz0 hz1 hz2 rfl p l.length cap _ hp h _ hvx 1 (dhC y) (Src.ofSlice _ Tryz.underlying140 ⟨xb, 0, none⟩ 1 1 (dhC y) (by rw [hz1]; rfl) (fun j u hj => ?_) (dhC_one y)) (by omega) (by unfold maxLen; omega) fun p' cap' w' h1 h2 _ => ?_
  · rw [Addr.add_lit, Nat.zero_add, cell_at hx]
    have : (dhC y).toArray[j]? = (dhC y)[j]? := by simp
    rw [← hj, ← this]; rfl
  · refine hk p' cap' w' ?_ h2
    unfold dhA
    rw [dhs_snoc, List.length_append]
    exact h1
/-- Where a handle goes into a row by rising numbers. -/
def insN (h : DH) : List DH → Bool → List DH
  | [], false => [h]
  | [], true => []
  | x :: l, true => x :: insN h l true
  | x :: l, false => if h.id < x.id then h :: x :: insN h l true else x :: insN h l false
theorem insN_true (h : DH) : ∀ l : List DH, insN h l true = l
  | [] => rfl
  | x :: l => by show x :: insN h l true = _; rw [insN_true h l]
theorem dhO_cells {w : World} {b : Nat} {x : DH} {S : Hp} (h : Sat w (pts b (dhO x) * S)) :
    w.cell? ⟨b, 0, none⟩ = some (.int .i64 x.id) ∧ w.cell? ⟨b, 1, none⟩ = some (.int .i64 x.kind) ∧ w.cell? ⟨b, 2, none⟩ = some (.int .i64 x.refs) ∧ w.cell? ⟨b, 3, none⟩ = some (.int .i64 x.at_) ∧ w.cell? ⟨b, 4, none⟩ = some (.int .i64 x.node) ∧ w.cell? ⟨b, 5, none⟩ = some (.bool x.rd) ∧
    w.cell? ⟨b, 6, none⟩ = some (.bool x.pt) ∧ w.cell? ⟨b, 7, none⟩ = some (.bool x.mo) ∧ w.cell? ⟨b, 8, none⟩ = some (.string x.data) ∧ w.cell? ⟨b, 9, none⟩ = some (.int .i64 x.most) ∧ w.cell? ⟨b, 10, none⟩ = some (.int .i64 x.pipe) := by
  have hb := h.get
  refine ⟨?_, ?_, ?_, ?_, ?_, ?_, ?_, ?_, ?_, ?_, ?_⟩ <;> rw [cell_at hb] <;> rfl
/-- Another row takes the old one's place. -/
theorem rt_new {w : World} {c : RT} {L : List DH} {qn : Nat} {R : Hp} {p : Option Addr} {cap : Nat} {l : List DH} (h : Sat w (dhA p cap l * (rtHp c L qn * R))) :
    Sat (w.setCell ⟨c.tb, 2, none⟩ (.slice p l.length cap)) (rtHp { c with lp := p, lc := cap } l qn * R) := by
  have h1 := h.perm (show _ = pts c.tb (rtO c L.length qn) * (dhA c.lp c.lc L * (dhA p cap l * R)) by unfold rtHp; ac_rfl)
  have h2 := h1.set (i := 2) (.slice p l.length cap)
  refine (h2.perm (show _ = dhA c.lp c.lc L * (pts c.tb (rtO { c with lp := p, lc := cap } l.length qn) * (dhA p cap l * R)) by
    show pts c.tb (rtO { c with lp := p, lc := cap } l.length qn) * _ = _; ac_rfl)).right.perm ?_
  unfold rtHp; ac_rfl
theorem rt_free {w : World} {c : RT} {L : List DH} {qn : Nat} {R : Hp} (h : Sat w (rtHp c L qn * R)) (i : Nat) : w.frozen? ⟨c.tb, i, none⟩ = false := by
  unfold rtHp at h
  exact free_at (h.perm (sep_assoc _ _ _)).get i
set_option maxRecDepth 100000 in
set_option maxHeartbeats 16000000 in
theorem radd_calls (c : RT) (L : List DH) (qn g : Nat) (h0 : DH) (hL : L.length ≤ 100000) (hg : 1 ≤ g) (hg2 : g ≤ 100001) (hno : placeN L (g : Int) 0 = -1) (hle : ∀ j : Nat, 1 ≤ j → j < g → placeN L (j : Int) 0 ≠ -1) (w : World) (R : Hp) (h : Sat w (rtHp c L qn * R)) :
    Calls Tryz.prog 78 #[pp c.tb, dhV h0] w fun e w' => (e = .returned (.int .i64 (g : Int)) ∧ ∃ lp lc, Sat w' (rtHp { c with lp := lp, lc := lc } (insN { h0 with id := (g : Int), refs := 1 } L false) qn * R)) ∧ Ran w w' := by
  have S1 := h.alloc (dhO { h0 with id := 1, refs := 1 })
  have R1 := Lib.hid (Ran.new (Below.refl 0 w) (dhO { h0 with id := 1, refs := 1 }))
  obtain ⟨hb, hhb⟩ : ∃ hb, hb = w.heap.size := ⟨_, rfl⟩
  obtain ⟨w1, hw1⟩ : ∃ w1, w1 = w.alloc (dhO { h0 with id := 1, refs := 1 }) := ⟨_, rfl⟩
  rw [← hhb, ← hw1] at S1
  rw [← hw1] at R1
  have S1 := Lib.hid S1
  have HNO := Lib.hid (And.intro hno hle)
  have hLI : (L.length : Int) ≤ 100000 := by omega
  clear h hno hle
  obtain ⟨hid, hkind, hrefs, hat, hnode, hrd, hpt, hmo, hdata, hmost, hpipe⟩ := h0
  dsimp only at S1 R1 hw1 ⊢
  go_enter Tryz.func78, Tryz.ntmps78
  go_upto_region 3 with fail
  rw [← hhb, ← hw1]
  clear hhb hw1
  go_loopg [] (g - 1) (fun (gk : Nat) (wr : World) => ∃ j : Nat, 1 ≤ j ∧ j + gk = g ∧ Sat wr (pts hb (dhO ⟨(j : Int), hkind, 1, hat, hnode, hrd, hpt, hmo, hdata, hmost, hpipe⟩) * (rtHp c L qn * R)) ∧ Ran w wr)
  case atStart => exact ⟨1, Nat.le_refl _, by omega, S1.out, R1.out⟩
  case round =>
    clear S1 R1
    obtain ⟨j, hj1, hjg, Sj, Rj⟩ := hrel
    obtain ⟨d0, -⟩ := dhO_cells Sj
    have f0 : ∀ i, wr.frozen? ⟨hb, i, none⟩ = false := fun i => free_at Sj.get i
    have HP := Lib.hid (rplace_calls c L qn (j : Int) (by omega) wr _ (Sj.perm (show _ = rtHp c L qn * (pts hb (dhO ⟨(j : Int), hkind, 1, hat, hnode, hrd, hpt, hmo, hdata, hmost, hpipe⟩) * R) by ac_rfl)))
    have hjI : (j : Int) ≤ 100001 := by omega
    have hj0 : (0 : Int) ≤ (j : Int) := by omega
    by_cases hlt : j < g
    · have hpl : (0 : Int) ≤ placeN L (j : Int) 0 := by
        rcases placeN_cases L (j : Int) 0 with ⟨e, _⟩ | ⟨i, _, e, _⟩
        · exact absurd e (HNO.out.2 j hj1 hlt)
        · rw [e]; omega
      obtain ⟨q, hq⟩ : ∃ q, q = placeN L (j : Int) 0 := ⟨_, rfl⟩
      rw [← hq] at HP hpl
      have S2 := Lib.hid (Sj.set (i := 0) (.int .i64 ((j : Int) + 1)))
      have Rj := Lib.hid Rj
      clear hq Sj
      go_wp2_with fail
      refine HP.out.mono ?_
      rintro e w3 ⟨rfl, rfl⟩
      clear HP
      go_wp2_with fail
      go_roundg (gk - 1)
      case rel => exact ⟨j + 1, by omega, by omega, S2.out, Ran.set Rj.out _ _⟩
      case measure => omega
    · have hje : j = g := by omega
      subst hje
      rw [HNO.out.1] at HP
      have Rj := Lib.hid Rj
      obtain ⟨y, hy⟩ : ∃ y : DH, y = ⟨(j : Int), hkind, 1, hat, hnode, hrd, hpt, hmo, hdata, hmost, hpipe⟩ := ⟨_, rfl⟩
      have Sy : Sat wr (dhA none 0 [] * (pts hb (dhO y) * (rtHp c L qn * R))) := by
        rw [hy]
        exact (Sj.nil_arr _ _)
      have Sy := Lib.hid Sy
      have HY := Lib.hid hy
      clear Sj f0 hlt
      go_wp2_with fail
      refine HP.out.mono ?_
      rintro e w3 ⟨rfl, rfl⟩
      clear HP d0
      go_wp2_with fail
      go_loopg [5, 6, 7] (L.length) (fun (gk : Nat) (v5 v6 v7 : Value) (wr2 : World) => ∃ (i : Nat) (out : List DH) (done : Bool) (p : Option Addr) (cap : Nat), v7 = .int .i64 (i : Int) ∧ i + gk = L.length ∧ v6 = .bool done ∧ v5 = .slice p out.length cap ∧ out.length ≤ i + done.toNat ∧ out ++ insN y (L.drop i) done = insN y L false ∧
        Sat wr2 (dhA p cap out * (pts hb (dhO y) * (rtHp c L qn * R))) ∧ Ran w wr2)
      case atStart => exact ⟨0, [], false, none, 0, rfl, by omega, rfl, rfl, Nat.zero_le _, by rw [List.drop_zero]; rfl, Sy.out, Rj.out⟩
      case round =>
        clear Sy Rj
        obtain ⟨i, out, done, p, cap, rfl, hgi, rfl, rfl, hol, hins, Si, Ri⟩ := hrel
        by_cases hlt : i < L.length
        · have hltI : (i : Int) < (L.length : Int) := by omega
          have hi0 : (0 : Int) ≤ (i : Int) := by omega
          have hoI : (out.length : Int) ≤ 100001 := by cases done <;> simp at hol <;> omega
          have hol1 : out.length ≤ i + 1 := by cases done <;> simp at hol <;> omega
          have Sd := Si.drew
          have c2w := (rt_cells Si.right.right).2.2.1
          obtain ⟨c0, c1, c2, c3⟩ := rt_cells (Sd.right.right)
          obtain ⟨k0, k1, k2, k3, k4, k5, k6, k7, k8, k9, k10⟩ := dhO_cells Sd.right
          obtain ⟨⟨b, o, hbo⟩, hlc, hlm⟩ := rt_addr Sd.right.right hlt
          obtain ⟨m0, m1, m2, m3, m4, m5, m6, m7, m8, m9, m10⟩ := dh_cells Sd.right.right hbo hlt
          obtain ⟨z, hz⟩ : ∃ z, z = L[i] := ⟨_, rfl⟩
          rw [← hz] at m0 m1 m2 m3 m4 m5 m6 m7 m8 m9 m10
          rw [hbo] at c2 c2w
          have HBO := Lib.hid (And.intro hbo hz)
          have hdr : L.drop i = z :: L.drop (i + 1) := by rw [hz]; exact List.drop_eq_getElem_cons hlt
          rw [hdr] at hins
          have hcm : (c.lc : Int) ≤ 9223372036854775807 := by unfold maxLen at hlm; omega
          obtain ⟨zi, zk, zr, za, zn, zrd, zpt, zmo, zd, zm, zp⟩ := z
          obtain ⟨yi, yk, yr, ya, yn, yrd, ypt, ymo, yd, ym, yp⟩ := y
          dsimp only at k0 k1 k2 k3 k4 k5 k6 k7 k8 k9 k10 m0 m1 m2 m3 m4 m5 m6 m7 m8 m9 m10
          have Si := Lib.hid Si
          have Ri := Lib.hid Ri
          have HM := Lib.hid (fun (W' : World) (X : Hp) (hX : Sat W' (rtHp c L qn * X)) => (by have := dh_cells hX HBO.out.1 hlt; rw [← HBO.out.2] at this; exact And.intro (by have := (rt_cells hX).2.2.1; rw [HBO.out.1] at this; exact this) this : W'.cell? ⟨c.tb, 2, none⟩ = some (.slice (some ⟨b, o, none⟩) L.length c.lc) ∧ _))
          clear hz hbo hdr Sd
          cases done with
          | true =>
            have hins2 : (out ++ [⟨zi, zk, zr, za, zn, zrd, zpt, zmo, zd, zm, zp⟩]) ++ insN ⟨yi, yk, yr, ya, yn, yrd, ypt, ymo, yd, ym, yp⟩ (L.drop (i + 1)) true = insN ⟨yi, yk, yr, ya, yn, yrd, ypt, ymo, yd, ym, yp⟩ L false := by rw [← hins, List.append_assoc]; rfl
            have HI := Lib.hid hins2
            have HA := (Si.out.drew).old (dhO ⟨zi, zk, zr, za, zn, zrd, zpt, zmo, zd, zm, zp⟩)
            have HX : ((wr.drew).alloc (dhO ⟨zi, zk, zr, za, zn, zrd, zpt, zmo, zd, zm, zp⟩)).heap[wr.drew.heap.size]? = some (dhO ⟨zi, zk, zr, za, zn, zrd, zpt, zmo, zd, zm, zp⟩) := heap_alloc_new _ _
            have RA := Lib.hid (Ran.new (Ran.drewN Ri.out 1) (dhO ⟨zi, zk, zr, za, zn, zrd, zpt, zmo, zd, zm, zp⟩))
            have HX := Lib.hid HX
            have HA := Lib.hid HA
            clear hins hins2
            go_upto_region 10 with fail
            refine region_plan (S := (fun w' => w'.cell? ⟨c.tb, 2, none⟩ = some (.slice (some ⟨b, o, none⟩) L.length c.lc) ∧ w'.cell? ⟨b, o + i * 11, none⟩ = some (.int .i64 zi) ∧ w'.cell? ⟨hb, 0, none⟩ = some (.int .i64 yi))) [(0, true), (1, true), (2, true), (3, true), (4, true), (5, true), (6, true), (7, true), (8, true), (9, true), (10, true), (11, true), (12, true), (13, true), (14, true)] (by kernel_rfl) (by kernel_rfl) (by kernel_rfl) ?_ ?_
            · ((try dsimp only); (first | done | (exact ⟨c2, m0, k0⟩)))
            simp only [planOps, List.map_cons, List.map_nil, List.getElem?_toArray, List.getElem?_cons_zero, List.getElem?_cons_succ]
            repeat (first
              | ((refine plan_yes (v := ?_) (by rfl) ?_ ?_); rotate_left; (focus (intro w hSw; (try dsimp only at hSw); go_simp; try (with_reducible rfl))); (try simp only [Act.put, List.setIfInBounds_toArray, List.set_cons_zero, List.set_cons_succ]))
              | ((refine plan_no (by rfl) ?_); (try simp only [Act.put, List.setIfInBounds_toArray, List.set_cons_zero, List.set_cons_succ]))
              | ((refine plan_step (fun K hK => ?_)); (first | (fail) | (go_simp; (fail); (try go_wp2_with fail)) | go_simp); (refine hK.out _ _ ?_ (fun hHeld => ?_)); (focus ((try dsimp only); (first | done | (exact ⟨c2, m0, k0⟩)))); clear hK K; (try simp only [Act.put, List.setIfInBounds_toArray, List.set_cons_zero, List.set_cons_succ])))
            refine plan_done ?_
            go_wp2_with (at_builtin; go_loud (refine appDH rfl _ _ rfl p out.length cap out ⟨zi, zk, zr, za, zn, zrd, zpt, zmo, zd, zm, zp⟩ rfl rfl _ rfl HX.out HA.out (by omega) ?_; intro p' cap' w6 T6 R6))
            have T6 := Lib.hid T6
            have R6 := Lib.hid (Below.trans RA.out R6)
            clear HA HX RA Si Ri HM
            go_roundg (gk - 1)
            case rel => exact ⟨i + 1, _, true, p', cap', by simp, by omega, rfl, by simp, by simp at hol ⊢; omega, HI.out, T6.out, R6.out⟩
            case measure => omega
          | false =>
            have hstep : insN ⟨yi, yk, yr, ya, yn, yrd, ypt, ymo, yd, ym, yp⟩ (⟨zi, zk, zr, za, zn, zrd, zpt, zmo, zd, zm, zp⟩ :: L.drop (i + 1)) false = if yi < zi then ⟨yi, yk, yr, ya, yn, yrd, ypt, ymo, yd, ym, yp⟩ :: ⟨zi, zk, zr, za, zn, zrd, zpt, zmo, zd, zm, zp⟩ :: insN ⟨yi, yk, yr, ya, yn, yrd, ypt, ymo, yd, ym, yp⟩ (L.drop (i + 1)) true else ⟨zi, zk, zr, za, zn, zrd, zpt, zmo, zd, zm, zp⟩ :: insN ⟨yi, yk, yr, ya, yn, yrd, ypt, ymo, yd, ym, yp⟩ (L.drop (i + 1)) false := rfl
            rw [hstep] at hins
            by_cases hlt2 : yi < zi
            · rw [if_pos hlt2] at hins
              have hins2 : (out ++ [⟨yi, yk, yr, ya, yn, yrd, ypt, ymo, yd, ym, yp⟩] ++ [⟨zi, zk, zr, za, zn, zrd, zpt, zmo, zd, zm, zp⟩]) ++ insN ⟨yi, yk, yr, ya, yn, yrd, ypt, ymo, yd, ym, yp⟩ (L.drop (i + 1)) true = insN ⟨yi, yk, yr, ya, yn, yrd, ypt, ymo, yd, ym, yp⟩ L false := by rw [← hins, List.append_assoc, List.append_assoc]; rfl
              have HI := Lib.hid hins2
              have HA := Lib.hid ((Si.out.drew).old (dhO ⟨yi, yk, yr, ya, yn, yrd, ypt, ymo, yd, ym, yp⟩))
              have HX := Lib.hid (heap_alloc_new wr.drew (dhO ⟨yi, yk, yr, ya, yn, yrd, ypt, ymo, yd, ym, yp⟩))
              have RA := Lib.hid (Ran.new (Ran.drewN Ri.out 1) (dhO ⟨yi, yk, yr, ya, yn, yrd, ypt, ymo, yd, ym, yp⟩))
              have hdc : decide (yi < zi) = true := decide_eq_true hlt2
              clear hins hins2 hstep
              go_upto_region 10 with fail
              refine region_plan (S := (fun w' => w'.cell? ⟨c.tb, 2, none⟩ = some (.slice (some ⟨b, o, none⟩) L.length c.lc) ∧ w'.cell? ⟨b, o + i * 11, none⟩ = some (.int .i64 zi) ∧ w'.cell? ⟨hb, 0, none⟩ = some (.int .i64 yi))) [(0, true), (1, true), (2, true), (3, true), (4, true), (5, true), (6, true), (7, true), (8, true), (9, true), (10, true), (11, true), (12, true), (13, true), (14, true)] (by kernel_rfl) (by kernel_rfl) (by kernel_rfl) ?_ ?_
              · ((try dsimp only); (first | done | (exact ⟨c2, m0, k0⟩)))
              simp only [planOps, List.map_cons, List.map_nil, List.getElem?_toArray, List.getElem?_cons_zero, List.getElem?_cons_succ]
              repeat (first
                | ((refine plan_yes (v := ?_) (by rfl) ?_ ?_); rotate_left; (focus (intro w hSw; (try dsimp only at hSw); go_simp; try (with_reducible rfl))); (try simp only [Act.put, List.setIfInBounds_toArray, List.set_cons_zero, List.set_cons_succ]))
                | ((refine plan_no (by rfl) ?_); (try simp only [Act.put, List.setIfInBounds_toArray, List.set_cons_zero, List.set_cons_succ]))
                | ((refine plan_step (fun K hK => ?_)); (first | (fail) | (go_simp; (fail); (try go_wp2_with fail)) | go_simp); (refine hK.out _ _ ?_ (fun hHeld => ?_)); (focus ((try dsimp only); (first | done | (exact ⟨c2, m0, k0⟩)))); clear hK K; (try simp only [Act.put, List.setIfInBounds_toArray, List.set_cons_zero, List.set_cons_succ])))
              refine plan_done ?_
              go_wp2_with (first | (at_builtin; go_loud (refine appDH rfl _ _ rfl p out.length cap out ⟨yi, yk, yr, ya, yn, yrd, ypt, ymo, yd, ym, yp⟩ rfl rfl _ rfl HX.out HA.out (by omega) ?_; intro p1 cap1 w6 T6 R6; clear HA HX; obtain ⟨c2, m0, m1, m2, m3, m4, m5, m6, m7, m8, m9, m10⟩ := HM.out w6 _ (T6.perm (show _ = rtHp c L qn * (dhA p1 cap1 (out ++ [⟨yi, yk, yr, ya, yn, yrd, ypt, ymo, yd, ym, yp⟩]) * (pts hb (dhO ⟨yi, yk, yr, ya, yn, yrd, ypt, ymo, yd, ym, yp⟩) * R)) by ac_rfl)); have HB := Lib.hid (T6.old (dhO ⟨zi, zk, zr, za, zn, zrd, zpt, zmo, zd, zm, zp⟩)); have HW := Lib.hid (heap_alloc_new w6 (dhO ⟨zi, zk, zr, za, zn, zrd, zpt, zmo, zd, zm, zp⟩)); have RB := Lib.hid (Ran.new (Below.trans RA.out R6) (dhO ⟨zi, zk, zr, za, zn, zrd, zpt, zmo, zd, zm, zp⟩)); clear T6 R6)) | (at_builtin; go_loud (refine appDH rfl _ _ rfl p1 (out.length + 1) cap1 (out ++ [⟨yi, yk, yr, ya, yn, yrd, ypt, ymo, yd, ym, yp⟩]) ⟨zi, zk, zr, za, zn, zrd, zpt, zmo, zd, zm, zp⟩ (by simp) rfl _ rfl HW.out HB.out (by omega) ?_; intro p' cap' w7 T7 R7)))
              have T7 := Lib.hid T7
              have R7 := Lib.hid (Below.trans RB.out R7)
              clear HB HW RB RA Si Ri HM
              go_roundg (gk - 1)
              case rel => exact ⟨i + 1, _, true, p', cap', by simp, by omega, rfl, by simp, by simp at hol ⊢; omega, HI.out, T7.out, R7.out⟩
              case measure => omega
            · rw [if_neg hlt2] at hins
              have hins2 : (out ++ [⟨zi, zk, zr, za, zn, zrd, zpt, zmo, zd, zm, zp⟩]) ++ insN ⟨yi, yk, yr, ya, yn, yrd, ypt, ymo, yd, ym, yp⟩ (L.drop (i + 1)) false = insN ⟨yi, yk, yr, ya, yn, yrd, ypt, ymo, yd, ym, yp⟩ L false := by rw [← hins, List.append_assoc]; rfl
              have HI := Lib.hid hins2
              have HA := Lib.hid ((Si.out.drew).old (dhO ⟨zi, zk, zr, za, zn, zrd, zpt, zmo, zd, zm, zp⟩))
              have HX := Lib.hid (heap_alloc_new wr.drew (dhO ⟨zi, zk, zr, za, zn, zrd, zpt, zmo, zd, zm, zp⟩))
              have RA := Lib.hid (Ran.new (Ran.drewN Ri.out 1) (dhO ⟨zi, zk, zr, za, zn, zrd, zpt, zmo, zd, zm, zp⟩))
              have hdc : decide (yi < zi) = false := decide_eq_false hlt2
              clear hins hins2 hstep
              go_upto_region 10 with fail
              refine region_plan (S := (fun w' => w'.cell? ⟨c.tb, 2, none⟩ = some (.slice (some ⟨b, o, none⟩) L.length c.lc) ∧ w'.cell? ⟨b, o + i * 11, none⟩ = some (.int .i64 zi) ∧ w'.cell? ⟨hb, 0, none⟩ = some (.int .i64 yi))) [(0, true), (1, true), (2, true), (3, true), (4, true), (5, true), (6, true), (7, true), (8, true), (9, true), (10, true), (11, true), (12, true), (13, true), (14, true)] (by kernel_rfl) (by kernel_rfl) (by kernel_rfl) ?_ ?_
              · ((try dsimp only); (first | done | (exact ⟨c2, m0, k0⟩)))
              simp only [planOps, List.map_cons, List.map_nil, List.getElem?_toArray, List.getElem?_cons_zero, List.getElem?_cons_succ]
              repeat (first
                | ((refine plan_yes (v := ?_) (by rfl) ?_ ?_); rotate_left; (focus (intro w hSw; (try dsimp only at hSw); go_simp; try (with_reducible rfl))); (try simp only [Act.put, List.setIfInBounds_toArray, List.set_cons_zero, List.set_cons_succ]))
                | ((refine plan_no (by rfl) ?_); (try simp only [Act.put, List.setIfInBounds_toArray, List.set_cons_zero, List.set_cons_succ]))
                | ((refine plan_step (fun K hK => ?_)); (first | (fail) | (go_simp; (fail); (try go_wp2_with fail)) | go_simp); (refine hK.out _ _ ?_ (fun hHeld => ?_)); (focus ((try dsimp only); (first | done | (exact ⟨c2, m0, k0⟩)))); clear hK K; (try simp only [Act.put, List.setIfInBounds_toArray, List.set_cons_zero, List.set_cons_succ])))
              refine plan_done ?_
              go_wp2_with (at_builtin; go_loud (refine appDH rfl _ _ rfl p out.length cap out ⟨zi, zk, zr, za, zn, zrd, zpt, zmo, zd, zm, zp⟩ rfl rfl _ rfl HX.out HA.out (by omega) ?_; intro p' cap' w6 T6 R6))
              have T6 := Lib.hid T6
              have R6 := Lib.hid (Below.trans RA.out R6)
              clear HA HX RA Si Ri HM
              go_roundg (gk - 1)
              case rel => exact ⟨i + 1, _, false, p', cap', by simp, by omega, rfl, by simp, by simp at hol ⊢; omega, HI.out, T6.out, R6.out⟩
              case measure => omega
        · have hge : (L.length : Int) ≤ (i : Int) := by omega
          have hd0 : L.drop i = [] := List.drop_eq_nil_of_le (by omega)
          rw [hd0] at hins
          have hoI : (out.length : Int) ≤ 100001 := by cases done <;> simp at hol <;> omega
          have hol1 : out.length ≤ i + 1 := by cases done <;> simp at hol <;> omega
          have c2 := (rt_cells Si.right.right).2.2.1
          have HY2 : Hid (y.id = (j : Int)) := Lib.hid (by rw [HY.out])
          obtain ⟨yi, yk, yr, ya, yn, yrd, ypt, ymo, yd, ym, yp⟩ := y
          obtain ⟨k0, k1, k2, k3, k4, k5, k6, k7, k8, k9, k10⟩ := dhO_cells Si.right
          dsimp only at k0 k1 k2 k3 k4 k5 k6 k7 k8 k9 k10
          cases done with
          | true =>
            have hout : out = insN ⟨yi, yk, yr, ya, yn, yrd, ypt, ymo, yd, ym, yp⟩ L false := by rw [← hins]; show out = out ++ []; rw [List.append_nil]
            have f0 : ∀ i, wr.frozen? ⟨c.tb, i, none⟩ = false := fun i => rt_free Si.right.right i
            have S9 := rt_new (Si.perm (show _ = dhA p cap out * (rtHp c L qn * (pts hb (dhO ⟨yi, yk, yr, ya, yn, yrd, ypt, ymo, yd, ym, yp⟩) * R)) by ac_rfl))
            have S8 := (S9.perm (show _ = pts hb (dhO ⟨yi, yk, yr, ya, yn, yrd, ypt, ymo, yd, ym, yp⟩) * (rtHp { c with lp := p, lc := cap } out qn * R) by ac_rfl))
            have g0 := (dhO_cells S8).1
            dsimp only at g0
            have S9 := Lib.hid (And.intro hout S8.right)
            have R9 := Lib.hid (Ran.set Ri ⟨c.tb, 2, none⟩ (.slice p out.length cap))
            clear hout hins Si Ri
            go_wp2_with fail
            go_ret
            exact ⟨⟨by rw [← HY2.out]; rfl, p, cap, by rw [← HY.out, ← S9.out.1]; exact S9.out.2⟩, R9.out⟩
          | false =>
            have hout : out ++ [⟨yi, yk, yr, ya, yn, yrd, ypt, ymo, yd, ym, yp⟩] = insN ⟨yi, yk, yr, ya, yn, yrd, ypt, ymo, yd, ym, yp⟩ L false := hins
            have HO := Lib.hid hout
            have HA := Lib.hid (Si.old (dhO ⟨yi, yk, yr, ya, yn, yrd, ypt, ymo, yd, ym, yp⟩))
            have HX := Lib.hid (heap_alloc_new wr (dhO ⟨yi, yk, yr, ya, yn, yrd, ypt, ymo, yd, ym, yp⟩))
            have RA := Lib.hid (Ran.new Ri (dhO ⟨yi, yk, yr, ya, yn, yrd, ypt, ymo, yd, ym, yp⟩))
            clear hout hins Si Ri
            go_wp2_with (at_builtin; go_loud (refine appDH rfl _ _ rfl p out.length cap out ⟨yi, yk, yr, ya, yn, yrd, ypt, ymo, yd, ym, yp⟩ rfl rfl _ rfl HX.out HA.out (by omega) ?_; intro p' cap' w6 T6 R6; clear HA HX c2 k0; have c2 := (rt_cells T6.right.right).2.2.1; have k0 := (dhO_cells T6.right).1; have f0 : ∀ i, w6.frozen? ⟨c.tb, i, none⟩ = false := (fun i => rt_free T6.right.right i); have S9 := rt_new (T6.perm (show _ = dhA p' cap' (out ++ [⟨yi, yk, yr, ya, yn, yrd, ypt, ymo, yd, ym, yp⟩]) * (rtHp c L qn * (pts hb (dhO ⟨yi, yk, yr, ya, yn, yrd, ypt, ymo, yd, ym, yp⟩) * R)) by ac_rfl)); rw [List.length_append] at S9; have S8 := (S9.perm (show _ = pts hb (dhO ⟨yi, yk, yr, ya, yn, yrd, ypt, ymo, yd, ym, yp⟩) * (rtHp { c with lp := p', lc := cap' } (out ++ [⟨yi, yk, yr, ya, yn, yrd, ypt, ymo, yd, ym, yp⟩]) qn * R) by ac_rfl)); have g0 := (dhO_cells S8).1; have S9 := Lib.hid S8.right; have R9 := Lib.hid (Ran.set (Below.trans RA.out R6) ⟨c.tb, 2, none⟩ (.slice p' (out.length + 1) cap')); clear T6 R6 S8 RA))
            go_ret
            exact ⟨⟨by rw [← HY2.out]; rfl, p', cap', by rw [← HY.out, ← HO.out]; exact S9.out⟩, R9.out⟩
end Go.Proofs.YtljlpkeddbfpaaaGreatDoor.Hd

namespace Go.Proofs.YtljlpkeddbfpaaaGreatDoor.Hd
open Go.RowKit Go.Maps Go.Proofs.YtljlpkeddbfpaaaGreatDoor Go.Proofs.YtljlpkeddbfpaaaGreatDoor.Hp
set_option linter.unusedVariables false
attribute [local go_sem] Oper.semAt_some

/-- A node of the document's. -/
structure DN where
  kind : Int
  text : ByteArray
  kp : Option Addr
  kn : Nat
  kc : Nat
  par : Int
  names : Int
  holds : Int
instance : Inhabited DN := ⟨⟨0, ⟨#[]⟩, none, 0, 0, 0, 0, 0⟩⟩
def dnC (x : DN) : List Value := [.int .i64 x.kind, .string x.text, .slice x.kp x.kn x.kc, .int .i64 x.par, .int .i64 x.names, .int .i64 x.holds]
theorem dnC_len (x : DN) : (dnC x).length = 6 := rfl
structure RF where
  fb : Nat
  lb : Nat
  most : Int
  room : Int
abbrev rfO (c : RF) (n : Nat) : Obj := .cells #[.int .i64 c.most, .int .i64 c.room, .slice (some ⟨c.lb, 0, none⟩) n n] 166 (0, 0)
def rfHp (c : RF) (L : List DN) : Hp := pts c.fb (rfO c L.length) * arr 169 6 (some ⟨c.lb, 0, none⟩) L.length L.length (L.flatMap dnC)
def dget (L : List DN) (n : Int) : Option DN := if 1 ≤ n then L[n.toNat]? else none
def kindD (L : List DN) (n : Int) : Int := match dget L n with
  | none => 0
  | some x => x.kind
theorem dget_some {L : List DN} {n : Int} {x : DN} (h : dget L n = some x) : ∃ i : Nat, n = (i : Int) ∧ 1 ≤ i ∧ ∃ hi : i < L.length, L[i] = x := by
  unfold dget at h
  split at h
  · obtain ⟨hi, e⟩ := List.getElem?_eq_some_iff.1 h
    exact ⟨n.toNat, by omega, by omega, hi, e⟩
  · cases h
theorem dget_none {L : List DN} {n : Int} (h : dget L n = none) : n < 1 ∨ (L.length : Int) ≤ n := by
  unfold dget at h
  split at h
  · have := List.getElem?_eq_none_iff.1 h; omega
  · omega
section
variable {w : World} {c : RF} {L : List DN} {R : Hp}
theorem rf_cells (h : Sat w (rfHp c L * R)) : w.cell? ⟨c.fb, 0, none⟩ = some (.int .i64 c.most) ∧ w.cell? ⟨c.fb, 1, none⟩ = some (.int .i64 c.room) ∧ w.cell? ⟨c.fb, 2, none⟩ = some (.slice (some ⟨c.lb, 0, none⟩) L.length L.length) := by
  unfold rfHp at h
  have hb := (h.perm (sep_assoc _ _ _)).get
  refine ⟨?_, ?_, ?_⟩ <;> rw [cell_at hb] <;> rfl
theorem rf_arr (h : Sat w (rfHp c L * R)) : Sat w (arr 169 6 (some ⟨c.lb, 0, none⟩) L.length L.length (L.flatMap dnC) * (pts c.fb (rfO c L.length) * R)) := h.perm (by unfold rfHp; ac_rfl)
theorem rf_len (h : Sat w (rfHp c L * R)) : L.length ≤ maxLen := (rf_arr h).arr_len.2.2
theorem rf_free (h : Sat w (rfHp c L * R)) (i : Nat) : w.frozen? ⟨c.lb, i, none⟩ = false := (rf_arr h).arr_free i
theorem dn_cells (h : Sat w (rfHp c L * R)) {i : Nat} (hi : i < L.length) :
    w.cell? ⟨c.lb, i * 6, none⟩ = some (.int .i64 L[i].kind) ∧ w.cell? ⟨c.lb, i * 6 + 1, none⟩ = some (.string L[i].text) ∧ w.cell? ⟨c.lb, i * 6 + 2, none⟩ = some (.slice L[i].kp L[i].kn L[i].kc) ∧ w.cell? ⟨c.lb, i * 6 + 3, none⟩ = some (.int .i64 L[i].par) ∧
    w.cell? ⟨c.lb, i * 6 + 4, none⟩ = some (.int .i64 L[i].names) ∧ w.cell? ⟨c.lb, i * 6 + 5, none⟩ = some (.int .i64 L[i].holds) := by
  have g := fun j hj => rec_cell dnC_len (rf_arr h) i j hi hj
  simp only [Nat.zero_add] at g
  exact ⟨g 0 (by omega), g 1 (by omega), g 2 (by omega), g 3 (by omega), g 4 (by omega), g 5 (by omega)⟩
theorem dn_set (h : Sat w (rfHp c L * R)) {i : Nat} (hi : i < L.length) (j : Nat) (v : Value) (y : DN) (hj : j < 6) (hy : dnC y = (dnC L[i]).set j v) : Sat (w.setCell ⟨c.lb, i * 6 + j, none⟩ v) (rfHp c (L.set i y) * R) := by
  have := rec_set dnC_len (rf_arr h) i j v y hi hj hy
  rw [Nat.zero_add] at this
  refine this.perm ?_
  unfold rfHp
  rw [List.length_set]
  ac_rfl
set_option maxRecDepth 100000 in
set_option maxHeartbeats 4000000 in
theorem rkind_calls (n : Int) (h : Sat w (rfHp c L * R)) :
    Calls Tryz.prog 102 #[pp c.fb, .int .i64 n] w fun e w' => e = .returned (.int .i64 (kindD L n)) ∧ w = w' := by
  obtain ⟨c0, c1, c2⟩ := rf_cells h
  have hlm := rf_len h
  have hlI : (L.length : Int) ≤ 9223372036854775807 := by unfold maxLen at hlm; omega
  unfold kindD
  cases hg : dget L n with
  | none =>
    have hn := dget_none hg
    clear h hg
    by_cases h1 : n < 1
    · clear hn
      have hd : decide (n < 1) = true := decide_eq_true h1
      go_enter Tryz.func102, Tryz.ntmps102
      go_wp2_with fail
      go_ret
      exact ⟨rfl, rfl⟩
    · have h2 : (L.length : Int) ≤ n := by omega
      have hd : decide (n < 1) = false := decide_eq_false h1
      clear hn
      go_enter Tryz.func102, Tryz.ntmps102
      go_wp2_with fail
      go_ret
      exact ⟨rfl, rfl⟩
  | some x =>
    obtain ⟨i, rfl, hi1, hi, hx⟩ := dget_some hg
    obtain ⟨d0, -⟩ := dn_cells h hi
    rw [hx] at d0
    have h1 : (1 : Int) ≤ (i : Int) := by omega
    have h2 : (i : Int) < (L.length : Int) := by omega
    have hd : decide ((i : Int) < 1) = false := decide_eq_false (by omega)
    have hd2 : decide ((L.length : Int) ≤ (i : Int)) = false := decide_eq_false (by omega)
    clear h hg hx hi hi1
    go_enter Tryz.func102, Tryz.ntmps102
    go_wp2_with fail
    go_ret
    exact ⟨rfl, rfl⟩
def textD (L : List DN) (n : Int) : Int := if kindD L n = 0 then 10 else if kindD L n = 1 then 13 else 0
set_option maxRecDepth 100000 in
set_option maxHeartbeats 4000000 in
theorem rtext_calls (n : Int) (h : Sat w (rfHp c L * R)) :
    Calls Tryz.prog 104 #[pp c.fb, .int .i64 n] w fun e w' => e = .returned (.int .i64 (textD L n)) ∧ w = w' := by
  have HK := rkind_calls n h
  unfold textD
  obtain ⟨k, hk⟩ : ∃ k, k = kindD L n := ⟨_, rfl⟩
  rw [← hk] at HK ⊢
  have HK := Lib.hid HK
  clear h hk
  by_cases h0 : k = 0
  · rw [if_pos h0]
    have hb : (k == 0) = true := by simp [h0]
    go_enter Tryz.func104, Tryz.ntmps104
    go_wp2_with fail
    refine HK.out.mono ?_
    rintro e w1 ⟨rfl, rfl⟩
    go_wp2_with fail
    go_ret
    exact ⟨rfl, rfl⟩
  · rw [if_neg h0]
    have hb : (k == 0) = false := by simp [h0]
    by_cases h1 : k = 1
    · rw [if_pos h1]
      have hb1 : (k == 1) = true := by simp [h1]
      go_enter Tryz.func104, Tryz.ntmps104
      go_wp2_with fail
      refine HK.out.mono ?_
      rintro e w1 ⟨rfl, rfl⟩
      go_wp2_with fail
      refine HK.out.mono ?_
      rintro e w1 ⟨rfl, rfl⟩
      go_wp2_with fail
      go_ret
      exact ⟨rfl, rfl⟩
    · rw [if_neg h1]
      have hb1 : (k == 1) = false := by simp [h1]
      go_enter Tryz.func104, Tryz.ntmps104
      go_wp2_with fail
      refine HK.out.mono ?_
      rintro e w1 ⟨rfl, rfl⟩
      go_wp2_with fail
      refine HK.out.mono ?_
      rintro e w1 ⟨rfl, rfl⟩
      go_wp2_with fail
      go_ret
      exact ⟨rfl, rfl⟩
set_option maxRecDepth 100000 in
set_option maxHeartbeats 4000000 in
/-- Hold of a node that is there. -/
theorem rhold_calls {i : Nat} (hi1 : 1 ≤ i) (hi : i < L.length) (hk : L[i].kind ≠ 0) (hh : 0 ≤ L[i].holds ∧ L[i].holds ≤ 1000000) (h : Sat w (rfHp c L * R)) :
    Calls Tryz.prog 77 #[pp c.fb, .int .i64 (i : Int)] w fun e w' => (e = .returned (.int .i64 0) ∧ Sat w' (rfHp c (L.set i { L[i] with holds := L[i].holds + 1 }) * R)) ∧ Ran w w' := by
  have HK := rkind_calls (i : Int) h
  rw [show kindD L (i : Int) = L[i].kind by unfold kindD dget; rw [if_pos (by omega), show ((i : Int)).toNat = i by omega, List.getElem?_eq_getElem hi]] at HK
  obtain ⟨c0, c1, c2⟩ := rf_cells h
  have hlm := rf_len h
  have hlI : (L.length : Int) ≤ 9223372036854775807 := by unfold maxLen at hlm; omega
  obtain ⟨d0, d1, d2, d3, d4, d5⟩ := dn_cells h hi
  have f0 := rf_free h
  have S1 := Lib.hid (dn_set h.drew hi 5 (.int .i64 (L[i].holds + 1)) { L[i] with holds := L[i].holds + 1 } (by omega) rfl)
  obtain ⟨k, hkk⟩ : ∃ k, k = L[i].kind := ⟨_, rfl⟩
  obtain ⟨hd, hhd⟩ : ∃ hd, hd = L[i].holds := ⟨_, rfl⟩
  rw [← hkk] at HK hk
  rw [← hhd] at d5 hh
  have HH := Lib.hid hhd
  have HK := Lib.hid HK
  have hb : (k == 0) = false := by simp [hk]
  have h1 : (0 : Int) ≤ (i : Int) := by omega
  have h2 : (i : Int) < (L.length : Int) := by omega
  clear h hkk hhd d0 d1 d2 d3 d4 hlm
  go_enter Tryz.func77, Tryz.ntmps77
  go_wp2_with fail
  refine HK.out.mono ?_
  rintro e w1 ⟨rfl, rfl⟩
  clear HK
  go_upto_region 3 with fail
  go_still_tail 16, (by kernel_rfl)
  go_wp2_with fail
  go_ret
  refine ⟨⟨rfl, ?_⟩, Ran.set (Ran.drewN (Below.refl 0 w) 1) _ _⟩
  have := S1.out
  rw [← HH.out] at this
  rw [← HH.out]
  exact this
set_option maxRecDepth 100000 in
set_option maxHeartbeats 4000000 in
/-- sweep of a node that has a name. -/
theorem rsweep_calls {i : Nat} (hi1 : 1 ≤ i) (hi : i < L.length) (hn : 1 ≤ L[i].names) (h : Sat w (rfHp c L * R)) :
    Calls Tryz.prog 103 #[pp c.fb, .int .i64 (i : Int)] w fun e w' => e = .returned (.tuple #[]) ∧ w = w' := by
  obtain ⟨c0, c1, c2⟩ := rf_cells h
  have hlm := rf_len h
  have hlI : (L.length : Int) ≤ 9223372036854775807 := by unfold maxLen at hlm; omega
  obtain ⟨d0, d1, d2, d3, d4, d5⟩ := dn_cells h hi
  obtain ⟨nm, hnm⟩ : ∃ nm, nm = L[i].names := ⟨_, rfl⟩
  rw [← hnm] at d4 hn
  have h1 : (0 : Int) ≤ (i : Int) := by omega
  have h2 : (i : Int) < (L.length : Int) := by omega
  have hb : (nm == 0) = false := by simp; omega
  clear h hnm d0 d1 d2 d3 d5 hlm
  by_cases hi0 : i = 1
  · subst hi0
    go_enter Tryz.func103, Tryz.ntmps103
    go_wp2_with fail
    go_end0
    exact ⟨rfl, rfl⟩
  · have hb1 : ((i : Int) != 1) = true := by simp; omega
    go_enter Tryz.func103, Tryz.ntmps103
    go_wp2_with fail
    go_end0
    exact ⟨rfl, rfl⟩
set_option maxRecDepth 100000 in
set_option maxHeartbeats 4000000 in
/-- Drop of a node that is held and has a name. -/
theorem rdrop_calls {i : Nat} (hi1 : 1 ≤ i) (hi : i < L.length) (hk : L[i].kind ≠ 0) (hn : 1 ≤ L[i].names) (hh : 1 ≤ L[i].holds ∧ L[i].holds ≤ 1000000) (h : Sat w (rfHp c L * R)) :
    Calls Tryz.prog 81 #[pp c.fb, .int .i64 (i : Int)] w fun e w' => (e = .returned (.int .i64 0) ∧ Sat w' (rfHp c (L.set i { L[i] with holds := L[i].holds - 1 }) * R)) ∧ Ran w w' := by
  have HK := rkind_calls (i : Int) h
  rw [show kindD L (i : Int) = L[i].kind by unfold kindD dget; rw [if_pos (by omega), show ((i : Int)).toNat = i by omega, List.getElem?_eq_getElem hi]] at HK
  obtain ⟨c0, c1, c2⟩ := rf_cells h
  have hlm := rf_len h
  have hlI : (L.length : Int) ≤ 9223372036854775807 := by unfold maxLen at hlm; omega
  obtain ⟨d0, d1, d2, d3, d4, d5⟩ := dn_cells h hi
  have f0 := rf_free h
  have S1 := dn_set h.drew hi 5 (.int .i64 (L[i].holds - 1)) { L[i] with holds := L[i].holds - 1 } (by omega) rfl
  have HS := Lib.hid (rsweep_calls (i := i) hi1 (by rw [List.length_set]; exact hi) (by rw [List.getElem_set_self]; exact hn) S1)
  have S1 := Lib.hid S1
  obtain ⟨k, hkk⟩ : ∃ k, k = L[i].kind := ⟨_, rfl⟩
  obtain ⟨hd, hhd⟩ : ∃ hd, hd = L[i].holds := ⟨_, rfl⟩
  rw [← hkk] at HK hk
  rw [← hhd] at d5 hh HS
  have HH := Lib.hid hhd
  have HK := Lib.hid HK
  have hb : (k == 0) = false := by simp [hk]
  have hb2 : (hd == 0) = false := by simp; omega
  have h1 : (0 : Int) ≤ (i : Int) := by omega
  have h2 : (i : Int) < (L.length : Int) := by omega
  clear h hkk hhd d0 d1 d2 d3 d4 hlm
  go_enter Tryz.func81, Tryz.ntmps81
  go_wp2_with fail
  refine HK.out.mono ?_
  rintro e w1 ⟨rfl, rfl⟩
  clear HK
  go_upto_region 5 with fail
  go_still_tail 16, (by kernel_rfl)
  go_wp2_with fail
  refine HS.out.mono ?_
  rintro e w1 ⟨rfl, rfl⟩
  clear HS
  go_wp2_with fail
  go_ret
  refine ⟨⟨rfl, ?_⟩, Ran.set (Ran.drewN (Below.refl 0 w) 1) _ _⟩
  have := S1.out
  rw [← HH.out] at this
  rw [← HH.out]
  exact this
end
end Go.Proofs.YtljlpkeddbfpaaaGreatDoor.Hd

