/- HandlesPlays, part 30 of 34: the texts HdQd HdQe, joined by a program. -/
import Derived.Test.YtljlpkeddbfpaaaGreatDoorHm26
namespace Go.Proofs.YtljlpkeddbfpaaaGreatDoor.Hd
open Go.RowKit Go.Maps Go.Proofs.YtljlpkeddbfpaaaGreatDoor Go.Proofs.YtljlpkeddbfpaaaGreatDoor.Hp
set_option linter.unusedVariables false
attribute [local go_sem] Oper.semAt_some

/-- Where a name goes into a row of rising names. -/
def insE (h : EN) : List EN → Bool → List EN
  | [], false => [h]
  | [], true => []
  | x :: l, true => x :: insE h l true
  | x :: l, false => if Op.bytesLess x.name.toList h.name.toList = false then h :: x :: insE h l true else x :: insE h l false
theorem enO_cells {w : World} {b : Nat} {x : EN} {S : Hp} (h : Sat w (pts b (enO x) * S)) : w.cell? ⟨b, 0, none⟩ = some (.string x.name) ∧ w.cell? ⟨b, 1, none⟩ = some (.int .i64 x.node) := by
  have hb := h.get
  refine ⟨?_, ?_⟩ <;> rw [cell_at hb] <;> rfl
section
variable {w : World} {c : RF} {L : List DN} {E : List EN} {R : Hp}
set_option maxRecDepth 100000 in
set_option maxHeartbeats 16000000 in
theorem renter_calls {d : Nat} (y : EN) (hd : d < L.length) (hkn : L[d].kn = E.length) (hE : E.length ≤ 100000) (hne : ∀ z ∈ E, ¬ z.name.toList = y.name.toList) (h : Sat w (rfHp c L * (enA L[d].kp L[d].kc E * R))) :
    Calls Tryz.prog 75 #[pp c.fb, .int .i64 (d : Int), enV y] w fun e w' => (e = .returned (.tuple #[]) ∧ ∃ p cap, Sat w' (rfHp c (L.set d { L[d] with kp := p, kn := (insE y E false).length, kc := cap }) * (enA p cap (insE y E false) * R))) ∧ Ran w w' := by
  obtain ⟨hb, hhb⟩ : ∃ hb, hb = w.heap.size := ⟨_, rfl⟩
  have S1 := h.alloc (enO y)
  have R1 := Lib.hid (Ran.new (Below.refl 0 w) (enO y))
  obtain ⟨kp, hkp⟩ : ∃ kp, kp = L[d].kp := ⟨_, rfl⟩
  obtain ⟨kc, hkc⟩ : ∃ kc, kc = L[d].kc := ⟨_, rfl⟩
  rw [← hkp, ← hkc, ← hhb] at S1
  obtain ⟨w1, hw1⟩ : ∃ w1, w1 = w.alloc (enO y) := ⟨_, rfl⟩
  rw [← hw1] at S1 R1
  have S1 := S1.perm (show _ = rfHp c L * (enA kp kc E * (pts hb (enO y) * R)) by ac_rfl)
  obtain ⟨c0, c1, c2⟩ := rf_cells S1
  have hlm := rf_len h
  have hlI : (L.length : Int) ≤ 9223372036854775807 := by unfold maxLen at hlm; omega
  have HD := Lib.hid (fun (W : World) (X : Hp) (hX : Sat W (rfHp c L * X)) => And.intro (rf_cells hX).2.2 (And.intro (dn_cells hX hd).2.2.1 (rf_free hX)))
  rw [hkn, ← hkp, ← hkc] at HD
  obtain ⟨-, d2, -⟩ := HD.out _ _ S1
  have HS := Lib.hid (fun (W : World) (X : Hp) (p : Option Addr) (n cap : Nat) (hX : Sat W (rfHp c L * X)) => (show Sat (W.setCell ⟨c.lb, d * 6 + 2, none⟩ (.slice p n cap)) (rfHp c (L.set d { L[d] with kp := p, kn := n, kc := cap }) * X) from dn_set hX hd 2 (.slice p n cap) { L[d] with kp := p, kn := n, kc := cap } (by omega) rfl))
  have S1 := Lib.hid S1
  have h1 : (0 : Int) ≤ (d : Int) := by omega
  have h2 : (d : Int) < (L.length : Int) := by omega
  have HNE := Lib.hid hne
  have hEI : (E.length : Int) ≤ 100000 := by omega
  obtain ⟨T, hT⟩ : ∃ T, T = fun (p : Option Addr) (n cap : Nat) => L.set d { L[d] with kp := p, kn := n, kc := cap } := ⟨_, rfl⟩
  have HS : Hid (∀ (W : World) (X : Hp) (p : Option Addr) (n cap : Nat), Sat W (rfHp c L * X) → Sat (W.setCell ⟨c.lb, d * 6 + 2, none⟩ (.slice p n cap)) (rfHp c (T p n cap) * X)) := Lib.hid (by rw [hT]; exact HS.out)
  have HFIN : Hid (∀ (e : Ending) (w' : World), ((e = .returned (.tuple #[]) ∧ ∃ p cap, Sat w' (rfHp c (T p (insE y E false).length cap) * (enA p cap (insE y E false) * R))) ∧ Ran w w') → ((e = .returned (.tuple #[]) ∧ ∃ p cap, Sat w' (rfHp c (L.set d { L[d] with kp := p, kn := (insE y E false).length, kc := cap }) * (enA p cap (insE y E false) * R))) ∧ Ran w w')) := Lib.hid (by rw [hT]; exact fun _ _ h => h)
  refine Calls.mono ?_ HFIN.out
  clear h hlm hkp hkc hkn hne hT HFIN
  obtain ⟨yn, yd⟩ := y
  dsimp only at S1 R1 hw1 HNE ⊢
  go_enter Tryz.func75, Tryz.ntmps75
  go_upto_region 3 with fail
  rw [← hhb, ← hw1]
  clear hhb hw1
  go_wp2_with fail
  go_loopg [6, 7, 9] (E.length) (fun (gk : Nat) (v6 v7 v9 : Value) (wr : World) => ∃ (i : Nat) (out : List EN) (done : Bool) (p : Option Addr) (cap : Nat), v9 = .int .i64 (i : Int) ∧ i + gk = E.length ∧ v7 = .bool done ∧ v6 = .slice p out.length cap ∧ out.length ≤ i + done.toNat ∧ out ++ insE ⟨yn, yd⟩ (E.drop i) done = insE ⟨yn, yd⟩ E false ∧
    Sat wr (enA p cap out * (rfHp c L * (enA kp kc E * (pts hb (enO ⟨yn, yd⟩) * R)))) ∧ Ran w wr)
  case atStart => exact ⟨0, [], false, none, 0, rfl, by omega, rfl, rfl, Nat.zero_le _, by rw [List.drop_zero]; rfl, S1.out.nil_arr _ _, R1.out⟩
  case round =>
    clear S1 R1 c0 c1 c2 d2
    obtain ⟨i, out, done, p, cap, rfl, hgi, rfl, rfl, hol, hins, Si, Ri⟩ := hrel
    by_cases hlt : i < E.length
    · have hltI : (i : Int) < (E.length : Int) := by omega
      have hi0 : (0 : Int) ≤ (i : Int) := by omega
      have hoI : (out.length : Int) ≤ 100001 := by cases done <;> simp at hol <;> omega
      have hol1 : out.length ≤ i + 1 := by cases done <;> simp at hol <;> omega
      have Sd := Si.drew.perm (show _ = enA kp kc E * (enA p cap out * (rfHp c L * (pts hb (enO ⟨yn, yd⟩) * R))) by ac_rfl)
      obtain ⟨b, o, hbo, m0, m1, hc1, hc2⟩ := en_cells Sd hlt
      obtain ⟨k0, k1⟩ := enO_cells (Si.drew.perm (show _ = pts hb (enO ⟨yn, yd⟩) * (enA p cap out * (rfHp c L * (enA kp kc E * R))) by ac_rfl))
      have hcm : (kc : Int) ≤ 9223372036854775807 := by unfold maxLen at hc2; omega
      have hc1I : (E.length : Int) ≤ (kc : Int) := by omega
      have hze := HNE.out E[i] (List.getElem_mem hlt)
      obtain ⟨z, hz⟩ : ∃ z, z = E[i] := ⟨_, rfl⟩
      rw [← hz] at m0 m1 hze
      have hdr : E.drop i = z :: E.drop (i + 1) := by rw [hz]; exact List.drop_eq_getElem_cons hlt
      rw [hdr] at hins
      subst hbo
      obtain ⟨zn, zd⟩ := z
      dsimp only at k0 k1 m0 m1 hze
      have HM := Lib.hid (fun (W' : World) (X : Hp) (hX : Sat W' (enA (some ⟨b, o, none⟩) kc E * X)) => (by obtain ⟨b2, o2, e, q0, q1, -⟩ := en_cells hX hlt; injection e with e; injection e with e1 e2; subst e1; subst e2; rw [← hz] at q0 q1; exact And.intro q0 q1 : W'.cell? ⟨b, o + i * 2, none⟩ = some (.string zn) ∧ W'.cell? ⟨b, o + i * 2 + 1, none⟩ = some (.int .i64 zd)))
      have Si := Lib.hid Si
      have Ri := Lib.hid Ri
      have hzb : (zn.toList == yn.toList) = false := by simpa using hze
      clear hz hdr Sd hc2
      cases done with
      | true =>
        have hins2 : (out ++ [⟨zn, zd⟩]) ++ insE ⟨yn, yd⟩ (E.drop (i + 1)) true = insE ⟨yn, yd⟩ E false := by rw [← hins, List.append_assoc]; rfl
        have HI := Lib.hid hins2
        have HA := Lib.hid ((Si.out.drew).old (enO ⟨zn, zd⟩))
        have HX := Lib.hid (heap_alloc_new wr.drew (enO ⟨zn, zd⟩))
        have RA := Lib.hid (Ran.new (Ran.drewN Ri.out 1) (enO ⟨zn, zd⟩))
        clear hins hins2
        go_upto_region 7 with fail
        refine region_plan (S := (fun w' => w'.cell? ⟨b, o + i * 2, none⟩ = some (.string zn) ∧ w'.cell? ⟨hb, 0, none⟩ = some (.string yn))) [(0, true), (1, true), (2, true), (3, true), (4, true), (5, true), (6, true), (7, true), (8, true), (9, true), (10, true), (11, true)] (by kernel_rfl) (by kernel_rfl) (by kernel_rfl) ?_ ?_
        · ((try dsimp only); (first | done | (exact ⟨m0, k0⟩)))
        simp only [planOps, List.map_cons, List.map_nil, List.getElem?_toArray, List.getElem?_cons_zero, List.getElem?_cons_succ]
        repeat (first
          | ((refine plan_yes (v := ?_) (by rfl) ?_ ?_); rotate_left; (focus (intro w hSw; (try dsimp only at hSw); go_simp; try (with_reducible rfl))); (try simp only [Act.put, List.setIfInBounds_toArray, List.set_cons_zero, List.set_cons_succ]))
          | ((refine plan_no (by rfl) ?_); (try simp only [Act.put, List.setIfInBounds_toArray, List.set_cons_zero, List.set_cons_succ]))
          | ((refine plan_step (fun K hK => ?_)); (first | (fail) | (go_simp; (fail); (try go_wp2_with fail)) | go_simp); (refine hK.out _ _ ?_ (fun hHeld => ?_)); (focus ((try dsimp only); (first | done | (exact ⟨m0, k0⟩)))); clear hK K; (try simp only [Act.put, List.setIfInBounds_toArray, List.set_cons_zero, List.set_cons_succ])))
        refine plan_done ?_
        go_wp2_with (at_builtin; go_loud (refine appEN rfl _ _ rfl p out.length cap out ⟨zn, zd⟩ rfl rfl _ rfl HX.out HA.out (by omega) ?_; intro p' cap' w6 T6 R6))
        have T6 := Lib.hid T6
        have R6 := Lib.hid (Below.trans RA.out R6)
        clear HA HX RA Si Ri HM
        go_roundg (gk - 1)
        case rel => exact ⟨i + 1, _, true, p', cap', by simp, by omega, rfl, by simp, by simp at hol ⊢; omega, HI.out, T6.out, R6.out⟩
        case measure => omega
      | false =>
        have hstep : insE ⟨yn, yd⟩ (⟨zn, zd⟩ :: E.drop (i + 1)) false = if Op.bytesLess zn.toList yn.toList = false then ⟨yn, yd⟩ :: ⟨zn, zd⟩ :: insE ⟨yn, yd⟩ (E.drop (i + 1)) true else ⟨zn, zd⟩ :: insE ⟨yn, yd⟩ (E.drop (i + 1)) false := rfl
        rw [hstep] at hins
        clear hstep
        by_cases hlt2 : Op.bytesLess zn.toList yn.toList = false
        · rw [if_pos hlt2] at hins
          have hins2 : (out ++ [⟨yn, yd⟩] ++ [⟨zn, zd⟩]) ++ insE ⟨yn, yd⟩ (E.drop (i + 1)) true = insE ⟨yn, yd⟩ E false := by rw [← hins, List.append_assoc, List.append_assoc]; rfl
          have HI := Lib.hid hins2
          have HA := Lib.hid ((Si.out.drew).old (enO ⟨yn, yd⟩))
          have HX := Lib.hid (heap_alloc_new wr.drew (enO ⟨yn, yd⟩))
          have RA := Lib.hid (Ran.new (Ran.drewN Ri.out 1) (enO ⟨yn, yd⟩))
          clear hins hins2
          go_upto_region 7 with fail
          refine region_plan (S := (fun w' => w'.cell? ⟨b, o + i * 2, none⟩ = some (.string zn) ∧ w'.cell? ⟨hb, 0, none⟩ = some (.string yn))) [(0, true), (1, true), (2, true), (3, true), (4, true), (5, true), (6, true), (7, true), (8, true), (9, true), (10, true), (11, true)] (by kernel_rfl) (by kernel_rfl) (by kernel_rfl) ?_ ?_
          · ((try dsimp only); (first | done | (exact ⟨m0, k0⟩)))
          simp only [planOps, List.map_cons, List.map_nil, List.getElem?_toArray, List.getElem?_cons_zero, List.getElem?_cons_succ]
          repeat (first
            | ((refine plan_yes (v := ?_) (by rfl) ?_ ?_); rotate_left; (focus (intro w hSw; (try dsimp only at hSw); go_simp; try (with_reducible rfl))); (try simp only [Act.put, List.setIfInBounds_toArray, List.set_cons_zero, List.set_cons_succ]))
            | ((refine plan_no (by rfl) ?_); (try simp only [Act.put, List.setIfInBounds_toArray, List.set_cons_zero, List.set_cons_succ]))
            | ((refine plan_step (fun K hK => ?_)); (first | (fail) | (go_simp; (fail); (try go_wp2_with fail)) | go_simp); (refine hK.out _ _ ?_ (fun hHeld => ?_)); (focus ((try dsimp only); (first | done | (exact ⟨m0, k0⟩)))); clear hK K; (try simp only [Act.put, List.setIfInBounds_toArray, List.set_cons_zero, List.set_cons_succ])))
          refine plan_done ?_
          go_wp2_with (first | (at_builtin; go_loud (refine appEN rfl _ _ rfl p out.length cap out ⟨yn, yd⟩ rfl rfl _ rfl HX.out HA.out (by omega) ?_; intro p1 cap1 w6 T6 R6; clear HA HX; obtain ⟨m0, m1⟩ := HM.out w6 _ (T6.perm (show _ = enA (some ⟨b, o, none⟩) kc E * (enA p1 cap1 (out ++ [⟨yn, yd⟩]) * (rfHp c L * (pts hb (enO ⟨yn, yd⟩) * R))) by ac_rfl)); have HB := Lib.hid (T6.old (enO ⟨zn, zd⟩)); have HW := Lib.hid (heap_alloc_new w6 (enO ⟨zn, zd⟩)); have RB := Lib.hid (Ran.new (Below.trans RA.out R6) (enO ⟨zn, zd⟩)); clear T6 R6)) | (at_builtin; go_loud (refine appEN rfl _ _ rfl p1 (out.length + 1) cap1 (out ++ [⟨yn, yd⟩]) ⟨zn, zd⟩ (by simp) rfl _ rfl HW.out HB.out (by omega) ?_; intro p' cap' w7 T7 R7)))
          have T7 := Lib.hid T7
          have R7 := Lib.hid (Below.trans RB.out R7)
          clear HB HW RB RA Si Ri HM
          go_roundg (gk - 1)
          case rel => exact ⟨i + 1, _, true, p', cap', by simp, by omega, rfl, by simp, by simp at hol ⊢; omega, HI.out, T7.out, R7.out⟩
          case measure => omega
        · rw [if_neg hlt2] at hins
          have hins2 : (out ++ [⟨zn, zd⟩]) ++ insE ⟨yn, yd⟩ (E.drop (i + 1)) false = insE ⟨yn, yd⟩ E false := by rw [← hins, List.append_assoc]; rfl
          have hlt3 : Op.bytesLess zn.toList yn.toList = true := by simpa using hlt2
          have HI := Lib.hid hins2
          have HA := Lib.hid ((Si.out.drew).old (enO ⟨zn, zd⟩))
          have HX := Lib.hid (heap_alloc_new wr.drew (enO ⟨zn, zd⟩))
          have RA := Lib.hid (Ran.new (Ran.drewN Ri.out 1) (enO ⟨zn, zd⟩))
          clear hins hins2
          go_upto_region 7 with fail
          refine region_plan (S := (fun w' => w'.cell? ⟨b, o + i * 2, none⟩ = some (.string zn) ∧ w'.cell? ⟨hb, 0, none⟩ = some (.string yn))) [(0, true), (1, true), (2, true), (3, true), (4, true), (5, true), (6, true), (7, true), (8, true), (9, true), (10, true), (11, true)] (by kernel_rfl) (by kernel_rfl) (by kernel_rfl) ?_ ?_
          · ((try dsimp only); (first | done | (exact ⟨m0, k0⟩)))
          simp only [planOps, List.map_cons, List.map_nil, List.getElem?_toArray, List.getElem?_cons_zero, List.getElem?_cons_succ]
          repeat (first
            | ((refine plan_yes (v := ?_) (by rfl) ?_ ?_); rotate_left; (focus (intro w hSw; (try dsimp only at hSw); go_simp; try (with_reducible rfl))); (try simp only [Act.put, List.setIfInBounds_toArray, List.set_cons_zero, List.set_cons_succ]))
            | ((refine plan_no (by rfl) ?_); (try simp only [Act.put, List.setIfInBounds_toArray, List.set_cons_zero, List.set_cons_succ]))
            | ((refine plan_step (fun K hK => ?_)); (first | (fail) | (go_simp; (fail); (try go_wp2_with fail)) | go_simp); (refine hK.out _ _ ?_ (fun hHeld => ?_)); (focus ((try dsimp only); (first | done | (exact ⟨m0, k0⟩)))); clear hK K; (try simp only [Act.put, List.setIfInBounds_toArray, List.set_cons_zero, List.set_cons_succ])))
          refine plan_done ?_
          go_wp2_with (at_builtin; go_loud (refine appEN rfl _ _ rfl p out.length cap out ⟨zn, zd⟩ rfl rfl _ rfl HX.out HA.out (by omega) ?_; intro p' cap' w6 T6 R6))
          have T6 := Lib.hid T6
          have R6 := Lib.hid (Below.trans RA.out R6)
          clear HA HX RA Si Ri HM
          go_roundg (gk - 1)
          case rel => exact ⟨i + 1, _, false, p', cap', by simp, by omega, rfl, by simp, by simp at hol ⊢; omega, HI.out, T6.out, R6.out⟩
          case measure => omega
    · have hge : (E.length : Int) ≤ (i : Int) := by omega
      have hd0 : E.drop i = [] := List.drop_eq_nil_of_le (by omega)
      rw [hd0] at hins
      have hoI : (out.length : Int) ≤ 100001 := by cases done <;> simp at hol <;> omega
      have hol1 : out.length ≤ i + 1 := by cases done <;> simp at hol <;> omega
      obtain ⟨c2, d2, f0⟩ := HD.out wr _ (Si.perm (show _ = rfHp c L * (enA p cap out * (enA kp kc E * (pts hb (enO ⟨yn, yd⟩) * R))) by ac_rfl))
      obtain ⟨k0, k1⟩ := enO_cells (Si.perm (show _ = pts hb (enO ⟨yn, yd⟩) * (enA p cap out * (rfHp c L * (enA kp kc E * R))) by ac_rfl))
      cases done with
      | true =>
        have hout : out = insE ⟨yn, yd⟩ E false := by rw [← hins]; show out = out ++ []; rw [List.append_nil]
        have S9 := HS.out wr _ p out.length cap (Si.perm (show _ = rfHp c L * (enA p cap out * (enA kp kc E * (pts hb (enO ⟨yn, yd⟩) * R))) by ac_rfl))
        have S9 := (S9.perm (show _ = enA kp kc E * (pts hb (enO ⟨yn, yd⟩) * (rfHp c (T p out.length cap) * (enA p cap out * R))) by ac_rfl)).right.right
        have S9 := Lib.hid (And.intro hout S9)
        have R9 := Lib.hid (Ran.set Ri ⟨c.lb, d * 6 + 2, none⟩ (.slice p out.length cap))
        clear hout hins Si Ri
        go_wp2_with fail
        go_end0
        exact ⟨⟨rfl, p, cap, by rw [← S9.out.1]; exact S9.out.2⟩, R9.out⟩
      | false =>
        have hout : out ++ [⟨yn, yd⟩] = insE ⟨yn, yd⟩ E false := hins
        have HO := Lib.hid hout
        have HA := Lib.hid (Si.old (enO ⟨yn, yd⟩))
        have HX := Lib.hid (heap_alloc_new wr (enO ⟨yn, yd⟩))
        have RA := Lib.hid (Ran.new Ri (enO ⟨yn, yd⟩))
        clear hout hins Si Ri
        go_wp2_with (at_builtin; go_loud (refine appEN rfl _ _ rfl p out.length cap out ⟨yn, yd⟩ rfl rfl _ rfl HX.out HA.out (by omega) ?_; intro p' cap' w6 T6 R6; clear HA HX c2 d2 f0; have T7 := T6.perm (show _ = rfHp c L * (enA p' cap' (out ++ [⟨yn, yd⟩]) * (enA kp kc E * (pts hb (enO ⟨yn, yd⟩) * R))) by ac_rfl); obtain ⟨c2, d2, f0⟩ := HD.out w6 _ T7; have S9 := HS.out w6 _ p' (out.length + 1) cap' T7; have S9 := Lib.hid ((S9.perm (show _ = enA kp kc E * (pts hb (enO ⟨yn, yd⟩) * (rfHp c (T p' (out.length + 1) cap') * (enA p' cap' (out ++ [⟨yn, yd⟩]) * R))) by ac_rfl)).right.right); have R9 := Lib.hid (Ran.set (Below.trans RA.out R6) ⟨c.lb, d * 6 + 2, none⟩ (.slice p' (out.length + 1) cap')); clear T6 T7 R6 RA))
        go_end0
        exact ⟨⟨rfl, p', cap', by rw [← HO.out, List.length_append]; exact S9.out⟩, R9.out⟩
end
end Go.Proofs.YtljlpkeddbfpaaaGreatDoor.Hd

namespace Go.Proofs.YtljlpkeddbfpaaaGreatDoor.Hd
open Go.RowKit Go.Maps Go.Proofs.YtljlpkeddbfpaaaGreatDoor Go.Proofs.YtljlpkeddbfpaaaGreatDoor.Hp
set_option linter.unusedVariables false
attribute [local go_sem] Oper.semAt_some

section
variable {w : World} {c : RF} {L : List DN} {E : List EN} {R : Hp}
def putDN (w : World) (lb i : Nat) (y : DN) : World := ((((((w.setCell ⟨lb, i * 6, none⟩ (.int .i64 y.kind)).setCell ⟨lb, i * 6 + 1, none⟩ (.string y.text)).setCell ⟨lb, i * 6 + 2, none⟩ (.slice y.kp y.kn y.kc)).setCell ⟨lb, i * 6 + 3, none⟩ (.int .i64 y.par)).setCell ⟨lb, i * 6 + 4, none⟩ (.int .i64 y.names)).setCell ⟨lb, i * 6 + 5, none⟩ (.int .i64 y.holds))
theorem putDN_ran {w0 : World} {lb i : Nat} {y : DN} (h : Ran w0 w) : Ran w0 (putDN w lb i y) := Ran.set (Ran.set (Ran.set (Ran.set (Ran.set (Ran.set h _ _) _ _) _ _) _ _) _ _) _ _
theorem putDN_sat (h : Sat w (rfHp c L * R)) {i : Nat} (hi : i < L.length) (y : DN) : Sat (putDN w c.lb i y) (rfHp c (L.set i y) * R) := by
  obtain ⟨x, hx⟩ : ∃ x, x = L[i] := ⟨_, rfl⟩
  have e0 : L = L.set i x := by rw [hx, List.set_getElem_self]
  rw [e0] at h
  have hj : ∀ z : DN, i < (L.set i z).length := fun z => by rw [List.length_set]; exact hi
  have st : ∀ (W : World) (z z' : DN) (j : Nat) (v : Value), Sat W (rfHp c (L.set i z) * R) → j < 6 → dnC z' = (dnC z).set j v → Sat (W.setCell ⟨c.lb, i * 6 + j, none⟩ v) (rfHp c (L.set i z') * R) := fun W z z' j v hW hj6 hd => by
    have := dn_set hW (hj z) j v z' hj6 (by rw [List.getElem_set_self]; exact hd)
    rw [List.set_set] at this
    exact this
  have h0 := st _ x ⟨y.kind, x.text, x.kp, x.kn, x.kc, x.par, x.names, x.holds⟩ 0 _ h (by omega) rfl
  have h1 := st _ _ ⟨y.kind, y.text, x.kp, x.kn, x.kc, x.par, x.names, x.holds⟩ 1 _ h0 (by omega) rfl
  have h2 := st _ _ ⟨y.kind, y.text, y.kp, y.kn, y.kc, x.par, x.names, x.holds⟩ 2 _ h1 (by omega) rfl
  have h3 := st _ _ ⟨y.kind, y.text, y.kp, y.kn, y.kc, y.par, x.names, x.holds⟩ 3 _ h2 (by omega) rfl
  have h4 := st _ _ ⟨y.kind, y.text, y.kp, y.kn, y.kc, y.par, y.names, x.holds⟩ 4 _ h3 (by omega) rfl
  exact st _ _ y 5 _ h4 (by omega) rfl
/-- What Make asks for. -/
structure MkOk (c : RF) (L : List DN) (E : List EN) (ch : UInt8) (kd : Int) (t : ByteArray) (g : Nat) : Prop where
  simple : Simple ch
  root : ∃ h : 1 < L.length, L[1].kind = 1 ∧ L[1].kn = E.length
  few : E.length ≤ 100000 ∧ L.length ≤ 2000
  new : ∀ k (hk : k < E.length), (E[k].name.toList == (nm ch).toList) = false
  new2 : ∀ z ∈ E, ¬ z.name.toList = (nm ch).toList
  free : ∃ h : g < L.length, L[g].kind ≤ 0
  pos : 2 ≤ g
  least : ∀ j (h : j < L.length), 1 ≤ j → j < g → 0 < L[j].kind
  cnt : (cntD (L.drop 1) : Int) < c.most
  siz : sizD (L.drop 1) ≤ 1000000 ∧ t.size ≤ 1000 ∧ (sizD (L.drop 1) : Int) + (t.size : Int) ≤ c.room
  one : kd = 1 → t = ⟨#[]⟩
set_option maxRecDepth 100000 in
set_option maxHeartbeats 8000000 in
theorem rmake2_calls (ch : UInt8) (t : ByteArray) (g : Nat) (ok : MkOk c L E ch 2 t g) (h : Sat w (rfHp c L * (enA (L[1]!).kp (L[1]!).kc E * R))) :
    Calls Tryz.prog 46 #[pp c.fb, .int .i64 1, .string (nm ch), .int .i64 2, .string t] w fun e w' => (e = .returned (.tuple #[.int .i64 (g : Int), .int .i64 0]) ∧ ∃ p cap, Sat w' (rfHp c ((L.set g ⟨2, t, none, 0, 0, 0, 1, 0⟩).set 1 { L[1]! with kp := p, kn := (insE ⟨nm ch, (g : Int)⟩ E false).length, kc := cap }) * (enA p cap (insE ⟨nm ch, (g : Int)⟩ E false) * R))) ∧ Ran w w' := by
  obtain ⟨h1l, hk1, hkn⟩ := ok.root
  rw [getElem!_pos L 1 h1l] at h ⊢
  obtain ⟨hgl, hgk⟩ := ok.free
  have hpos := ok.pos
  have HP := Lib.hid (dplace_calls ch 2 ok.simple h1l hk1 hkn ok.few.1 ok.new h)
  have HU := Lib.hid (fun (W : World) (X : Hp) (hX : Sat W (rfHp c L * X)) => rused_calls (by omega) ok.few.2 (by have := ok.siz.1; omega) hX)
  have HC := Lib.hid (fun (W : World) (X : Hp) (hX : Sat W (rfHp c L * X)) => And.intro (rf_cells hX) (rf_free hX))
  have HN := Lib.hid (fun (W : World) (X : Hp) (hX : Sat W (rfHp c L * X)) (j : Nat) (hj : j < L.length) => dn_cells hX hj)
  have HPut := Lib.hid (fun (W : World) (X : Hp) (hX : Sat W (rfHp c L * X)) => putDN_sat hX hgl ⟨2, t, none, 0, 0, 0, 1, 0⟩)
  obtain ⟨L1, hL1⟩ : ∃ L1, L1 = L.set g ⟨2, t, none, 0, 0, 0, 1, 0⟩ := ⟨_, rfl⟩
  have h1l1 : 1 < L1.length := by rw [hL1, List.length_set]; exact h1l
  have e11 : L1[1] = L[1] := by
    have : ∀ (hh : 1 < (L.set g ⟨2, t, none, 0, 0, 0, 1, 0⟩).length), (L.set g ⟨2, t, none, 0, 0, 0, 1, 0⟩)[1] = L[1] := fun hh => List.getElem_set_ne (by omega) _
    subst hL1
    exact this _
  have HEn := Lib.hid (fun (W : World) (hX : Sat W (rfHp c L1 * (enA L[1].kp L[1].kc E * R))) => (by
    have := renter_calls (d := 1) ⟨nm ch, (g : Int)⟩ h1l1 (by rw [e11]; exact hkn) ok.few.1 ok.new2 (by rw [e11]; exact hX)
    rw [e11] at this
    exact this : Calls Tryz.prog 75 #[pp c.fb, .int .i64 ((1 : Nat) : Int), enV ⟨nm ch, (g : Int)⟩] W fun e w' => (e = .returned (.tuple #[]) ∧ ∃ p cap, Sat w' (rfHp c (L1.set 1 { L[1] with kp := p, kn := (insE ⟨nm ch, (g : Int)⟩ E false).length, kc := cap }) * (enA p cap (insE ⟨nm ch, (g : Int)⟩ E false) * R))) ∧ Ran W w'))
  rw [← hL1]
  have HL1 := Lib.hid hL1
  have hcn := ok.cnt
  obtain ⟨hz1, hz2, hz3⟩ := ok.siz
  obtain ⟨cn, hcne⟩ : ∃ cn, cn = cntD (L.drop 1) := ⟨_, rfl⟩
  obtain ⟨sz, hsze⟩ : ∃ sz, sz = sizD (L.drop 1) := ⟨_, rfl⟩
  rw [← hcne, ← hsze] at HU
  rw [← hcne] at hcn
  rw [← hsze] at hz1 hz3
  have HLe := Lib.hid ok.least
  have HG := Lib.hid hgk
  have hlI : (L.length : Int) ≤ 2000 := by have := ok.few.2; omega
  have hgI : (g : Int) < (L.length : Int) := by omega
  have hszI : (sz : Int) ≤ 1000000 := by omega
  have htI : ((t : ByteArray).size : Int) ≤ 1000 := by omega
  have ht0 : (0 : Int) ≤ ((t : ByteArray).size : Int) := by omega
  have hs0 : (0 : Int) ≤ (sz : Int) := by omega
  have hdc : decide ((cn : Int) ≥ c.most) = false := decide_eq_false (by omega)
  have hdc2 : decide (c.most ≤ (cn : Int)) = false := decide_eq_false (by omega)
  have hdr : decide ((sz : Int) + ((t : ByteArray).size : Int) > c.room) = false := decide_eq_false (by omega)
  have hdr2 : decide (c.room < (sz : Int) + ((t : ByteArray).size : Int)) = false := decide_eq_false (by omega)
  have hw : IntKind.i64.wrap ((sz : Int) + ((t : ByteArray).size : Int)) = (sz : Int) + ((t : ByteArray).size : Int) := IntWalk.i64_in _ (by omega)
  obtain ⟨kp1, hkp1⟩ : ∃ kp1, kp1 = L[1].kp := ⟨_, rfl⟩
  obtain ⟨kc1, hkc1⟩ : ∃ kc1, kc1 = L[1].kc := ⟨_, rfl⟩
  obtain ⟨mk1, hmk1⟩ : ∃ mk1, mk1 = fun (p : Option Addr) (n cap : Nat) => ({ L[1] with kp := p, kn := n, kc := cap } : DN) := ⟨_, rfl⟩
  have HEn : Hid (∀ (W : World), Sat W (rfHp c L1 * (enA kp1 kc1 E * R)) → Calls Tryz.prog 75 #[pp c.fb, .int .i64 1, enV ⟨nm ch, (g : Int)⟩] W fun e w' => (e = .returned (.tuple #[]) ∧ ∃ p cap, Sat w' (rfHp c (L1.set 1 (mk1 p (insE ⟨nm ch, (g : Int)⟩ E false).length cap)) * (enA p cap (insE ⟨nm ch, (g : Int)⟩ E false) * R))) ∧ Ran W w') := Lib.hid (by rw [hkp1, hkc1, hmk1]; exact HEn.out)
  have HFIN : Hid (∀ (e : Ending) (w' : World), ((e = .returned (.tuple #[.int .i64 (g : Int), .int .i64 0]) ∧ ∃ p cap, Sat w' (rfHp c (L1.set 1 (mk1 p (insE ⟨nm ch, (g : Int)⟩ E false).length cap)) * (enA p cap (insE ⟨nm ch, (g : Int)⟩ E false) * R))) ∧ Ran w w') → ((e = .returned (.tuple #[.int .i64 (g : Int), .int .i64 0]) ∧ ∃ p cap, Sat w' (rfHp c (L1.set 1 { L[1] with kp := p, kn := (insE ⟨nm ch, (g : Int)⟩ E false).length, kc := cap }) * (enA p cap (insE ⟨nm ch, (g : Int)⟩ E false) * R))) ∧ Ran w w')) := Lib.hid (by rw [hmk1]; exact fun _ _ hh => hh)
  refine Calls.mono ?_ HFIN.out
  rw [← hkp1, ← hkc1] at HP
  clear h ok hk1 hkn hgk hcne hsze e11 hkp1 hkc1 hmk1 hL1 HFIN
  go_enter Tryz.func46, Tryz.ntmps46
  go_wp2_with fail
  refine HP.out.mono ?_
  rintro e w1 ⟨⟨rfl, S1⟩, R1⟩
  obtain ⟨⟨c0, c1, c2⟩, f0⟩ := HC.out _ _ S1
  have HU := Lib.hid (HU.out _ _ S1)
  have S1 := Lib.hid S1
  have R1 := Lib.hid R1
  clear HP
  go_wp2_with fail
  refine HU.out.mono ?_
  rintro e w2 ⟨rfl, rfl⟩
  clear HU
  go_wp2_with fail
  go_loopg [17] g (fun (gk : Nat) (v17 : Value) (wr : World) => ∃ j : Nat, v17 = .int .i64 (j : Int) ∧ 1 ≤ j ∧ j ≤ g ∧ j + gk = g + 1 ∧ w1 = wr)
  case atStart => exact ⟨1, rfl, by omega, by omega, by omega, rfl⟩
  case round =>
    obtain ⟨j, rfl, hj1, hjg0, hjg, rfl⟩ := hrel
    have hjl : j < L.length := by omega
    have hjI : (j : Int) < (L.length : Int) := by omega
    have hj0 : (0 : Int) ≤ (j : Int) := by omega
    obtain ⟨dk, d1, d2, d3, d4, d5⟩ := HN.out _ _ S1.out j hjl
    obtain ⟨kd, hkd⟩ : ∃ kd, kd = L[j].kind := ⟨_, rfl⟩
    rw [← hkd] at dk
    obtain ⟨z, hz⟩ : ∃ z, z = L[j] := ⟨_, rfl⟩
    rw [← hz] at d1 d2 d3 d4 d5
    clear hz
    by_cases hlt : j < g
    · have hp := HLe.out j hjl hj1 hlt
      rw [← hkd] at hp
      have hdk : decide (kd > 0) = true := decide_eq_true hp
      have hdk2 : decide (0 < kd) = true := decide_eq_true hp
      clear hkd d1 d2 d3 d4 d5
      go_wp2_with fail
      go_roundg (gk - 1)
      case rel => exact ⟨j + 1, by simp, by omega, by omega, by omega, rfl⟩
      case measure => omega
    · obtain rfl : j = g := by omega
      have hp : kd ≤ 0 := by rw [hkd]; exact HG.out
      have hdk : decide (kd > 0) = false := decide_eq_false (by omega)
      have hdk2 : decide (0 < kd) = false := decide_eq_false (by omega)
      have S2 := HPut.out _ _ S1.out
      have R2 := Lib.hid (putDN_ran (lb := c.lb) (i := j) (y := ⟨2, t, none, 0, 0, 0, 1, 0⟩) R1.out)
      have HEn := Lib.hid (HEn.out (putDN w1 c.lb j ⟨2, t, none, 0, 0, 0, 1, 0⟩) (by rw [HL1.out]; exact S2))
      clear hkd S1 S2
      unfold putDN at HEn R2
      dsimp only at HEn R2
      go_wp2_with fail
      refine HEn.out.mono ?_
      rintro e w3 ⟨⟨rfl, p, cap, S3⟩, R3⟩
      have S3 := Lib.hid (And.intro S3 (Below.trans R2.out R3))
      clear HEn R2
      go_wp2_with fail
      go_ret2
      exact ⟨⟨rfl, p, cap, S3.out.1⟩, S3.out.2⟩
set_option maxRecDepth 100000 in
set_option maxHeartbeats 8000000 in
theorem rmake3_calls (ch : UInt8) (t : ByteArray) (g : Nat) (ok : MkOk c L E ch 3 t g) (h : Sat w (rfHp c L * (enA (L[1]!).kp (L[1]!).kc E * R))) :
    Calls Tryz.prog 46 #[pp c.fb, .int .i64 1, .string (nm ch), .int .i64 3, .string t] w fun e w' => (e = .returned (.tuple #[.int .i64 (g : Int), .int .i64 0]) ∧ ∃ p cap, Sat w' (rfHp c ((L.set g ⟨3, t, none, 0, 0, 0, 1, 0⟩).set 1 { L[1]! with kp := p, kn := (insE ⟨nm ch, (g : Int)⟩ E false).length, kc := cap }) * (enA p cap (insE ⟨nm ch, (g : Int)⟩ E false) * R))) ∧ Ran w w' := by
  obtain ⟨h1l, hk1, hkn⟩ := ok.root
  rw [getElem!_pos L 1 h1l] at h ⊢
  obtain ⟨hgl, hgk⟩ := ok.free
  have hpos := ok.pos
  have HP := Lib.hid (dplace_calls ch 3 ok.simple h1l hk1 hkn ok.few.1 ok.new h)
  have HU := Lib.hid (fun (W : World) (X : Hp) (hX : Sat W (rfHp c L * X)) => rused_calls (by omega) ok.few.2 (by have := ok.siz.1; omega) hX)
  have HC := Lib.hid (fun (W : World) (X : Hp) (hX : Sat W (rfHp c L * X)) => And.intro (rf_cells hX) (rf_free hX))
  have HN := Lib.hid (fun (W : World) (X : Hp) (hX : Sat W (rfHp c L * X)) (j : Nat) (hj : j < L.length) => dn_cells hX hj)
  have HPut := Lib.hid (fun (W : World) (X : Hp) (hX : Sat W (rfHp c L * X)) => putDN_sat hX hgl ⟨3, t, none, 0, 0, 0, 1, 0⟩)
  obtain ⟨L1, hL1⟩ : ∃ L1, L1 = L.set g ⟨3, t, none, 0, 0, 0, 1, 0⟩ := ⟨_, rfl⟩
  have h1l1 : 1 < L1.length := by rw [hL1, List.length_set]; exact h1l
  have e11 : L1[1] = L[1] := by
    have : ∀ (hh : 1 < (L.set g ⟨3, t, none, 0, 0, 0, 1, 0⟩).length), (L.set g ⟨3, t, none, 0, 0, 0, 1, 0⟩)[1] = L[1] := fun hh => List.getElem_set_ne (by omega) _
    subst hL1
    exact this _
  have HEn := Lib.hid (fun (W : World) (hX : Sat W (rfHp c L1 * (enA L[1].kp L[1].kc E * R))) => (by
    have := renter_calls (d := 1) ⟨nm ch, (g : Int)⟩ h1l1 (by rw [e11]; exact hkn) ok.few.1 ok.new2 (by rw [e11]; exact hX)
    rw [e11] at this
    exact this : Calls Tryz.prog 75 #[pp c.fb, .int .i64 ((1 : Nat) : Int), enV ⟨nm ch, (g : Int)⟩] W fun e w' => (e = .returned (.tuple #[]) ∧ ∃ p cap, Sat w' (rfHp c (L1.set 1 { L[1] with kp := p, kn := (insE ⟨nm ch, (g : Int)⟩ E false).length, kc := cap }) * (enA p cap (insE ⟨nm ch, (g : Int)⟩ E false) * R))) ∧ Ran W w'))
  rw [← hL1]
  have HL1 := Lib.hid hL1
  have hcn := ok.cnt
  obtain ⟨hz1, hz2, hz3⟩ := ok.siz
  obtain ⟨cn, hcne⟩ : ∃ cn, cn = cntD (L.drop 1) := ⟨_, rfl⟩
  obtain ⟨sz, hsze⟩ : ∃ sz, sz = sizD (L.drop 1) := ⟨_, rfl⟩
  rw [← hcne, ← hsze] at HU
  rw [← hcne] at hcn
  rw [← hsze] at hz1 hz3
  have HLe := Lib.hid ok.least
  have HG := Lib.hid hgk
  have hlI : (L.length : Int) ≤ 2000 := by have := ok.few.2; omega
  have hgI : (g : Int) < (L.length : Int) := by omega
  have hszI : (sz : Int) ≤ 1000000 := by omega
  have htI : ((t : ByteArray).size : Int) ≤ 1000 := by omega
  have ht0 : (0 : Int) ≤ ((t : ByteArray).size : Int) := by omega
  have hs0 : (0 : Int) ≤ (sz : Int) := by omega
  have hdc : decide ((cn : Int) ≥ c.most) = false := decide_eq_false (by omega)
  have hdc2 : decide (c.most ≤ (cn : Int)) = false := decide_eq_false (by omega)
  have hdr : decide ((sz : Int) + ((t : ByteArray).size : Int) > c.room) = false := decide_eq_false (by omega)
  have hdr2 : decide (c.room < (sz : Int) + ((t : ByteArray).size : Int)) = false := decide_eq_false (by omega)
  have hw : IntKind.i64.wrap ((sz : Int) + ((t : ByteArray).size : Int)) = (sz : Int) + ((t : ByteArray).size : Int) := IntWalk.i64_in _ (by omega)
  obtain ⟨kp1, hkp1⟩ : ∃ kp1, kp1 = L[1].kp := ⟨_, rfl⟩
  obtain ⟨kc1, hkc1⟩ : ∃ kc1, kc1 = L[1].kc := ⟨_, rfl⟩
  obtain ⟨mk1, hmk1⟩ : ∃ mk1, mk1 = fun (p : Option Addr) (n cap : Nat) => ({ L[1] with kp := p, kn := n, kc := cap } : DN) := ⟨_, rfl⟩
  have HEn : Hid (∀ (W : World), Sat W (rfHp c L1 * (enA kp1 kc1 E * R)) → Calls Tryz.prog 75 #[pp c.fb, .int .i64 1, enV ⟨nm ch, (g : Int)⟩] W fun e w' => (e = .returned (.tuple #[]) ∧ ∃ p cap, Sat w' (rfHp c (L1.set 1 (mk1 p (insE ⟨nm ch, (g : Int)⟩ E false).length cap)) * (enA p cap (insE ⟨nm ch, (g : Int)⟩ E false) * R))) ∧ Ran W w') := Lib.hid (by rw [hkp1, hkc1, hmk1]; exact HEn.out)
  have HFIN : Hid (∀ (e : Ending) (w' : World), ((e = .returned (.tuple #[.int .i64 (g : Int), .int .i64 0]) ∧ ∃ p cap, Sat w' (rfHp c (L1.set 1 (mk1 p (insE ⟨nm ch, (g : Int)⟩ E false).length cap)) * (enA p cap (insE ⟨nm ch, (g : Int)⟩ E false) * R))) ∧ Ran w w') → ((e = .returned (.tuple #[.int .i64 (g : Int), .int .i64 0]) ∧ ∃ p cap, Sat w' (rfHp c (L1.set 1 { L[1] with kp := p, kn := (insE ⟨nm ch, (g : Int)⟩ E false).length, kc := cap }) * (enA p cap (insE ⟨nm ch, (g : Int)⟩ E false) * R))) ∧ Ran w w')) := Lib.hid (by rw [hmk1]; exact fun _ _ hh => hh)
  refine Calls.mono ?_ HFIN.out
  rw [← hkp1, ← hkc1] at HP
  clear h ok hk1 hkn hgk hcne hsze e11 hkp1 hkc1 hmk1 hL1 HFIN
  go_enter Tryz.func46, Tryz.ntmps46
  go_wp2_with fail
  refine HP.out.mono ?_
  rintro e w1 ⟨⟨rfl, S1⟩, R1⟩
  obtain ⟨⟨c0, c1, c2⟩, f0⟩ := HC.out _ _ S1
  have HU := Lib.hid (HU.out _ _ S1)
  have S1 := Lib.hid S1
  have R1 := Lib.hid R1
  clear HP
  go_wp2_with fail
  refine HU.out.mono ?_
  rintro e w2 ⟨rfl, rfl⟩
  clear HU
  go_wp2_with fail
  go_loopg [17] g (fun (gk : Nat) (v17 : Value) (wr : World) => ∃ j : Nat, v17 = .int .i64 (j : Int) ∧ 1 ≤ j ∧ j ≤ g ∧ j + gk = g + 1 ∧ w1 = wr)
  case atStart => exact ⟨1, rfl, by omega, by omega, by omega, rfl⟩
  case round =>
    obtain ⟨j, rfl, hj1, hjg0, hjg, rfl⟩ := hrel
    have hjl : j < L.length := by omega
    have hjI : (j : Int) < (L.length : Int) := by omega
    have hj0 : (0 : Int) ≤ (j : Int) := by omega
    obtain ⟨dk, d1, d2, d3, d4, d5⟩ := HN.out _ _ S1.out j hjl
    obtain ⟨kd, hkd⟩ : ∃ kd, kd = L[j].kind := ⟨_, rfl⟩
    rw [← hkd] at dk
    obtain ⟨z, hz⟩ : ∃ z, z = L[j] := ⟨_, rfl⟩
    rw [← hz] at d1 d2 d3 d4 d5
    clear hz
    by_cases hlt : j < g
    · have hp := HLe.out j hjl hj1 hlt
      rw [← hkd] at hp
      have hdk : decide (kd > 0) = true := decide_eq_true hp
      have hdk2 : decide (0 < kd) = true := decide_eq_true hp
      clear hkd d1 d2 d3 d4 d5
      go_wp2_with fail
      go_roundg (gk - 1)
      case rel => exact ⟨j + 1, by simp, by omega, by omega, by omega, rfl⟩
      case measure => omega
    · obtain rfl : j = g := by omega
      have hp : kd ≤ 0 := by rw [hkd]; exact HG.out
      have hdk : decide (kd > 0) = false := decide_eq_false (by omega)
      have hdk2 : decide (0 < kd) = false := decide_eq_false (by omega)
      have S2 := HPut.out _ _ S1.out
      have R2 := Lib.hid (putDN_ran (lb := c.lb) (i := j) (y := ⟨3, t, none, 0, 0, 0, 1, 0⟩) R1.out)
      have HEn := Lib.hid (HEn.out (putDN w1 c.lb j ⟨3, t, none, 0, 0, 0, 1, 0⟩) (by rw [HL1.out]; exact S2))
      clear hkd S1 S2
      unfold putDN at HEn R2
      dsimp only at HEn R2
      go_wp2_with fail
      refine HEn.out.mono ?_
      rintro e w3 ⟨⟨rfl, p, cap, S3⟩, R3⟩
      have S3 := Lib.hid (And.intro S3 (Below.trans R2.out R3))
      clear HEn R2
      go_wp2_with fail
      go_ret2
      exact ⟨⟨rfl, p, cap, S3.out.1⟩, S3.out.2⟩
set_option maxRecDepth 100000 in
set_option maxHeartbeats 8000000 in
theorem rmake1_calls (ch : UInt8) (g : Nat) (ok : MkOk c L E ch 1 ⟨#[]⟩ g) (h : Sat w (rfHp c L * (enA (L[1]!).kp (L[1]!).kc E * R))) :
    Calls Tryz.prog 46 #[pp c.fb, .int .i64 1, .string (nm ch), .int .i64 1, .string ⟨#[]⟩] w fun e w' => (e = .returned (.tuple #[.int .i64 (g : Int), .int .i64 0]) ∧ ∃ p cap, Sat w' (rfHp c ((L.set g ⟨1, ⟨#[]⟩, none, 0, 0, 1, 1, 0⟩).set 1 { L[1]! with kp := p, kn := (insE ⟨nm ch, (g : Int)⟩ E false).length, kc := cap }) * (enA p cap (insE ⟨nm ch, (g : Int)⟩ E false) * R))) ∧ Ran w w' := by
  obtain ⟨h1l, hk1, hkn⟩ := ok.root
  rw [getElem!_pos L 1 h1l] at h ⊢
  obtain ⟨hgl, hgk⟩ := ok.free
  have hpos := ok.pos
  have HP := Lib.hid (dplace_calls ch 1 ok.simple h1l hk1 hkn ok.few.1 ok.new h)
  have HU := Lib.hid (fun (W : World) (X : Hp) (hX : Sat W (rfHp c L * X)) => rused_calls (by omega) ok.few.2 (by have := ok.siz.1; omega) hX)
  have HC := Lib.hid (fun (W : World) (X : Hp) (hX : Sat W (rfHp c L * X)) => And.intro (rf_cells hX) (rf_free hX))
  have HN := Lib.hid (fun (W : World) (X : Hp) (hX : Sat W (rfHp c L * X)) (j : Nat) (hj : j < L.length) => dn_cells hX hj)
  have HPut := Lib.hid (fun (W : World) (X : Hp) (hX : Sat W (rfHp c L * X)) => putDN_sat hX hgl ⟨1, ⟨#[]⟩, none, 0, 0, 0, 1, 0⟩)
  have HPar := Lib.hid (fun (W : World) (X : Hp) (hX : Sat W (rfHp c (L.set g ⟨1, ⟨#[]⟩, none, 0, 0, 0, 1, 0⟩) * X)) => (by
    have := dn_set hX (by rw [List.length_set]; exact hgl) 3 (.int .i64 1) ⟨1, ⟨#[]⟩, none, 0, 0, 1, 1, 0⟩ (by omega) (by rw [List.getElem_set_self]; rfl)
    rw [List.set_set] at this
    exact this : Sat (W.setCell ⟨c.lb, g * 6 + 3, none⟩ (.int .i64 1)) (rfHp c (L.set g ⟨1, ⟨#[]⟩, none, 0, 0, 1, 1, 0⟩) * X)))
  have HC2 := Lib.hid (fun (W : World) (X : Hp) (hX : Sat W (rfHp c (L.set g ⟨1, ⟨#[]⟩, none, 0, 0, 0, 1, 0⟩) * X)) => And.intro (rf_cells hX) (rf_free hX))
  obtain ⟨L1, hL1⟩ : ∃ L1, L1 = L.set g ⟨1, ⟨#[]⟩, none, 0, 0, 1, 1, 0⟩ := ⟨_, rfl⟩
  have h1l1 : 1 < L1.length := by rw [hL1, List.length_set]; exact h1l
  have e11 : L1[1] = L[1] := by
    have : ∀ (hh : 1 < (L.set g ⟨1, ⟨#[]⟩, none, 0, 0, 1, 1, 0⟩).length), (L.set g ⟨1, ⟨#[]⟩, none, 0, 0, 1, 1, 0⟩)[1] = L[1] := fun hh => List.getElem_set_ne (by omega) _
    subst hL1
    exact this _
  have HEn := Lib.hid (fun (W : World) (hX : Sat W (rfHp c L1 * (enA L[1].kp L[1].kc E * R))) => (by
    have := renter_calls (d := 1) ⟨nm ch, (g : Int)⟩ h1l1 (by rw [e11]; exact hkn) ok.few.1 ok.new2 (by rw [e11]; exact hX)
    rw [e11] at this
    exact this : Calls Tryz.prog 75 #[pp c.fb, .int .i64 ((1 : Nat) : Int), enV ⟨nm ch, (g : Int)⟩] W fun e w' => (e = .returned (.tuple #[]) ∧ ∃ p cap, Sat w' (rfHp c (L1.set 1 { L[1] with kp := p, kn := (insE ⟨nm ch, (g : Int)⟩ E false).length, kc := cap }) * (enA p cap (insE ⟨nm ch, (g : Int)⟩ E false) * R))) ∧ Ran W w'))
  rw [← hL1]
  have HL1 := Lib.hid hL1
  have hcn := ok.cnt
  obtain ⟨hz1, hz2, hz3⟩ := ok.siz
  obtain ⟨cn, hcne⟩ : ∃ cn, cn = cntD (L.drop 1) := ⟨_, rfl⟩
  obtain ⟨sz, hsze⟩ : ∃ sz, sz = sizD (L.drop 1) := ⟨_, rfl⟩
  rw [← hcne, ← hsze] at HU
  rw [← hcne] at hcn
  rw [← hsze] at hz1 hz3
  have HLe := Lib.hid ok.least
  have HG := Lib.hid hgk
  have hlI : (L.length : Int) ≤ 2000 := by have := ok.few.2; omega
  have hgI : (g : Int) < (L.length : Int) := by omega
  have hszI : (sz : Int) ≤ 1000000 := by omega
  have htI : ((⟨#[]⟩ : ByteArray).size : Int) ≤ 1000 := by omega
  have ht0 : (0 : Int) ≤ ((⟨#[]⟩ : ByteArray).size : Int) := by omega
  have hs0 : (0 : Int) ≤ (sz : Int) := by omega
  have hdc : decide ((cn : Int) ≥ c.most) = false := decide_eq_false (by omega)
  have hdc2 : decide (c.most ≤ (cn : Int)) = false := decide_eq_false (by omega)
  have hdr : decide ((sz : Int) + ((⟨#[]⟩ : ByteArray).size : Int) > c.room) = false := decide_eq_false (by omega)
  have hdr2 : decide (c.room < (sz : Int) + ((⟨#[]⟩ : ByteArray).size : Int)) = false := decide_eq_false (by omega)
  have hw : IntKind.i64.wrap ((sz : Int) + ((⟨#[]⟩ : ByteArray).size : Int)) = (sz : Int) + ((⟨#[]⟩ : ByteArray).size : Int) := IntWalk.i64_in _ (by omega)
  obtain ⟨kp1, hkp1⟩ : ∃ kp1, kp1 = L[1].kp := ⟨_, rfl⟩
  obtain ⟨kc1, hkc1⟩ : ∃ kc1, kc1 = L[1].kc := ⟨_, rfl⟩
  obtain ⟨mk1, hmk1⟩ : ∃ mk1, mk1 = fun (p : Option Addr) (n cap : Nat) => ({ L[1] with kp := p, kn := n, kc := cap } : DN) := ⟨_, rfl⟩
  have HEn : Hid (∀ (W : World), Sat W (rfHp c L1 * (enA kp1 kc1 E * R)) → Calls Tryz.prog 75 #[pp c.fb, .int .i64 1, enV ⟨nm ch, (g : Int)⟩] W fun e w' => (e = .returned (.tuple #[]) ∧ ∃ p cap, Sat w' (rfHp c (L1.set 1 (mk1 p (insE ⟨nm ch, (g : Int)⟩ E false).length cap)) * (enA p cap (insE ⟨nm ch, (g : Int)⟩ E false) * R))) ∧ Ran W w') := Lib.hid (by rw [hkp1, hkc1, hmk1]; exact HEn.out)
  have HFIN : Hid (∀ (e : Ending) (w' : World), ((e = .returned (.tuple #[.int .i64 (g : Int), .int .i64 0]) ∧ ∃ p cap, Sat w' (rfHp c (L1.set 1 (mk1 p (insE ⟨nm ch, (g : Int)⟩ E false).length cap)) * (enA p cap (insE ⟨nm ch, (g : Int)⟩ E false) * R))) ∧ Ran w w') → ((e = .returned (.tuple #[.int .i64 (g : Int), .int .i64 0]) ∧ ∃ p cap, Sat w' (rfHp c (L1.set 1 { L[1] with kp := p, kn := (insE ⟨nm ch, (g : Int)⟩ E false).length, kc := cap }) * (enA p cap (insE ⟨nm ch, (g : Int)⟩ E false) * R))) ∧ Ran w w')) := Lib.hid (by rw [hmk1]; exact fun _ _ hh => hh)
  refine Calls.mono ?_ HFIN.out
  rw [← hkp1, ← hkc1] at HP
  clear h ok hk1 hkn hgk hcne hsze e11 hkp1 hkc1 hmk1 hL1 HFIN
  go_enter Tryz.func46, Tryz.ntmps46
  go_wp2_with fail
  refine HP.out.mono ?_
  rintro e w1 ⟨⟨rfl, S1⟩, R1⟩
  obtain ⟨⟨c0, c1, c2⟩, f0⟩ := HC.out _ _ S1
  have HU := Lib.hid (HU.out _ _ S1)
  have S1 := Lib.hid S1
  have R1 := Lib.hid R1
  clear HP
  go_wp2_with fail
  refine HU.out.mono ?_
  rintro e w2 ⟨rfl, rfl⟩
  clear HU
  go_wp2_with fail
  go_loopg [17] g (fun (gk : Nat) (v17 : Value) (wr : World) => ∃ j : Nat, v17 = .int .i64 (j : Int) ∧ 1 ≤ j ∧ j ≤ g ∧ j + gk = g + 1 ∧ w1 = wr)
  case atStart => exact ⟨1, rfl, by omega, by omega, by omega, rfl⟩
  case round =>
    obtain ⟨j, rfl, hj1, hjg0, hjg, rfl⟩ := hrel
    have hjl : j < L.length := by omega
    have hjI : (j : Int) < (L.length : Int) := by omega
    have hj0 : (0 : Int) ≤ (j : Int) := by omega
    obtain ⟨dk, d1, d2, d3, d4, d5⟩ := HN.out _ _ S1.out j hjl
    obtain ⟨kd, hkd⟩ : ∃ kd, kd = L[j].kind := ⟨_, rfl⟩
    rw [← hkd] at dk
    obtain ⟨z, hz⟩ : ∃ z, z = L[j] := ⟨_, rfl⟩
    rw [← hz] at d1 d2 d3 d4 d5
    clear hz
    by_cases hlt : j < g
    · have hp := HLe.out j hjl hj1 hlt
      rw [← hkd] at hp
      have hdk : decide (kd > 0) = true := decide_eq_true hp
      have hdk2 : decide (0 < kd) = true := decide_eq_true hp
      clear hkd d1 d2 d3 d4 d5
      go_wp2_with fail
      go_roundg (gk - 1)
      case rel => exact ⟨j + 1, by simp, by omega, by omega, by omega, rfl⟩
      case measure => omega
    · obtain rfl : j = g := by omega
      have hp : kd ≤ 0 := by rw [hkd]; exact HG.out
      have hdk : decide (kd > 0) = false := decide_eq_false (by omega)
      have hdk2 : decide (0 < kd) = false := decide_eq_false (by omega)
      have S2 := HPut.out _ _ S1.out
      have R2 := Lib.hid (putDN_ran (lb := c.lb) (i := j) (y := ⟨1, ⟨#[]⟩, none, 0, 0, 0, 1, 0⟩) R1.out)
      obtain ⟨⟨-, -, c2'⟩, f0'⟩ := HC2.out _ _ S2
      have S3 := HPar.out _ _ S2
      have R3 := Lib.hid (Ran.set R2.out ⟨c.lb, j * 6 + 3, none⟩ (.int .i64 1))
      have HEn := Lib.hid (HEn.out _ (by rw [HL1.out]; exact S3))
      clear hkd S1 S2 S3 R2
      unfold putDN at HEn R3 c2' f0'
      dsimp only at HEn R3 c2' f0'
      go_wp2_with fail
      refine HEn.out.mono ?_
      rintro e w3 ⟨⟨rfl, p, cap, S3⟩, R4⟩
      have S3 := Lib.hid (And.intro S3 (Below.trans R3.out R4))
      clear HEn R3
      go_wp2_with fail
      go_ret2
      exact ⟨⟨rfl, p, cap, S3.out.1⟩, S3.out.2⟩
end
end Go.Proofs.YtljlpkeddbfpaaaGreatDoor.Hd

