/- HandlesPlays, part 13 of 29: the texts SvH SvS SvI, joined by a program. -/
import Derived.Test.YtlmjidandjemjaaGreatDoorSp12
import Derived.Test.YtlmjidandjemjaaGreatDoorSp9
namespace Go.Proofs.YtlmjidandjemjaaGreatDoor.State
open Go.RowKit Go.Proofs.YtlmjidandjemjaaGreatDoor Go.Proofs.YtlmjidandjemjaaGreatDoor.Hp Go.Proofs.YtlmjidandjemjaaGreatDoor.Undo
set_option linter.unusedVariables false
attribute [local go_sem] Oper.semAt_some

def nilR (v : VM.T) : Bool := !v.set && !v.exp && !v.fix
theorem putR_cons {α : Type} (k : ByteArray) (v : α) (x : Pa α) (l : List (Pa α)) : putR k v (x :: l) true = (if (x.1.toList == k.toList) = true then [] else [x]) ++ putR k v l true ∧ putR k v (x :: l) false = if geK x.1 k = true then (k, v) :: ((if (x.1.toList == k.toList) = true then [] else [x]) ++ putR k v l true) else (if (x.1.toList == k.toList) = true then [] else [x]) ++ putR k v l false := ⟨rfl, rfl⟩
set_option maxRecDepth 100000 in
set_option maxHeartbeats 16000000 in
theorem rput_calls (b : Nat) (s : Sr) (k : ByteArray) (v : VM.T) (w : World) (R : Hp) (hn : s.V.length ≤ 100000) (hr : RdR vrC 5 R s.vp s.vc s.V) (h : Sat w (pts b (srO s) * R)) :
    Calls Tryz.prog 116 #[pp b, .agg #[.string k, .string v.val, .bool v.set, .bool v.exp, .bool v.fix]] w fun e w' => (∃ q qc, e = .returned (.tuple #[]) ∧ Sat w' (pts b (srO { s with vp := q, vc := qc, V := putR k v s.V (nilR v) }) * (vrA q qc (putR k v s.V (nilR v)) * R))) ∧ Ran w w' := by
  obtain ⟨hb, hhb⟩ : ∃ hb, hb = w.heap.size := ⟨_, rfl⟩
  have S1 := h.alloc (vrO (k, v))
  have R1 := Ran.new (Below.refl 0 w) (vrO (k, v))
  obtain ⟨w1, hw1⟩ : ∃ w1, w1 = w.alloc (vrO (k, v)) := ⟨_, rfl⟩
  rw [← hhb, ← hw1] at S1
  rw [← hw1] at R1
  obtain ⟨k0, k1, k2, k3, k4⟩ := vrO_cells S1
  dsimp only at k0 k1 k2 k3 k4
  have hcl := hr.len
  have hct := hr.top
  have hcI : (s.vc : Int) ≤ 9223372036854775807 := by unfold maxLen at hct; omega
  have hclI : (s.V.length : Int) ≤ (s.vc : Int) := by omega
  obtain ⟨PQ, hPQ⟩ : ∃ PQ, PQ = putR k v s.V (nilR v) := ⟨_, rfl⟩
  rw [← hPQ]
  obtain ⟨sp, sc, E, hsp, hsc, hE⟩ : ∃ sp sc E, sp = s.vp ∧ sc = s.vc ∧ E = s.V := ⟨_, _, _, rfl, rfl, rfl⟩
  have HM := Lib.hid (fun (W : World) (X : Hp) (hX : Sat W (X * (pts hb (vrO (k, v)) * (pts b (srO s) * R)))) => (by
    obtain ⟨s0, -⟩ := sr_cells (hX.perm (show _ = pts b (srO s) * (X * (pts hb (vrO (k, v)) * R)) by ac_rfl))
    obtain ⟨q0, -⟩ := vrO_cells (hX.perm (show _ = pts hb (vrO (k, v)) * (X * (pts b (srO s) * R)) by ac_rfl))
    have hR : RdR vrC 5 R sp sc E := by rw [hsp, hsc, hE]; exact hr
    rw [← hsp, ← hsc, ← hE] at s0
    exact ⟨s0, q0, fun i hi => rd_vr hR (hX.perm (show _ = (X * (pts hb (vrO (k, v)) * pts b (srO s))) * R by ac_rfl)) i hi⟩ : W.cell? ⟨b, 0, none⟩ = some (.slice sp E.length sc) ∧ W.cell? ⟨hb, 0, none⟩ = some (.string k) ∧ ∀ i (hi : i < E.length), ∃ b o, sp = some ⟨b, o, none⟩ ∧ W.cell? ⟨b, o + i * 5, none⟩ = some (.string E[i].1) ∧ W.cell? ⟨b, o + i * 5 + 1, none⟩ = some (.string E[i].2.val) ∧ W.cell? ⟨b, o + i * 5 + 2, none⟩ = some (.bool E[i].2.set) ∧ W.cell? ⟨b, o + i * 5 + 3, none⟩ = some (.bool E[i].2.exp) ∧ W.cell? ⟨b, o + i * 5 + 4, none⟩ = some (.bool E[i].2.fix)))
  rw [← hsc] at hcI hclI
  rw [← hE] at hclI hn hPQ
  have HPQ := Lib.hid hPQ
  have R1 := Lib.hid R1
  have S1 := Lib.hid S1
  have hEI : (E.length : Int) ≤ 100000 := by omega
  have hdn : (!v.set && !v.exp && !v.fix) = nilR v := rfl
  obtain ⟨vv, v2, v3, v4⟩ := v
  dsimp only at k1 k2 k3 k4 hdn
  obtain ⟨d0, hd0⟩ : ∃ d0, d0 = nilR ⟨vv, v2, v3, v4⟩ := ⟨_, rfl⟩
  rw [← hd0] at HPQ hdn
  clear h hr hcl hct hsp hsc hE hPQ hd0
  go_enter Tryz.func116, Tryz.ntmps116
  go_upto_region 1 with fail
  rw [← hhb, ← hw1]
  clear hhb hw1
  obtain ⟨s0, -, -⟩ := HM.out w1 emp (by rw [emp_sep]; exact S1.out)
  go_upto_region 2 with fail
  go_cut [5] from 7 to 20 (fun c wx => c = .bool d0 ∧ w1 = wx)
  case first =>
    cases v2
    all_goals cases v3
    all_goals cases v4
    all_goals
      obtain rfl := hdn
      clear S1 R1 HM HPQ
      go_wp2_with fail
      go_meet
      exact ⟨rfl, rfl⟩
  case rest =>
  obtain ⟨rfl, rfl⟩ := hcut
  clear k0 k1 k2 k3 k4 hdn
  go_wp2_with fail
  go_loopg [4, 5, 6] (E.length) (fun (gk : Nat) (v5 v6 v7 : Value) (wr : World) => ∃ (i : Nat) (out : List (Pa VM.T)) (done : Bool) (p : Option Addr) (cap : Nat), v7 = .int .i64 (i : Int) ∧ i + gk = E.length ∧ v6 = .bool done ∧ v5 = .slice p out.length cap ∧ out.length ≤ i + done.toNat ∧ PQ = out ++ putR k ⟨vv, v2, v3, v4⟩ (E.drop i) done ∧
    Sat wr (vrA p cap out * (pts hb (vrO (k, ⟨vv, v2, v3, v4⟩)) * (pts b (srO s) * R))) ∧ Ran w wr)
  case atStart => exact ⟨0, [], d0, none, 0, rfl, by omega, rfl, rfl, Nat.zero_le _, by rw [List.drop_zero]; exact HPQ.out, S1.out.nil_arr _ _, R1.out⟩
  case round =>
    clear S1 R1 HPQ s0
    obtain ⟨i, out, done, p, cap, rfl, hgi, rfl, rfl, hol, hins, Si, Ri⟩ := hrel
    obtain ⟨s0, k0, hrec⟩ := HM.out wr _ Si
    by_cases hlt : i < E.length
    · have hltI : (i : Int) < (E.length : Int) := by omega
      have hi0 : (0 : Int) ≤ (i : Int) := by omega
      obtain ⟨b2, o, rfl, m0, m1, m2, m3, m4⟩ := hrec i hlt
      clear hrec
      obtain ⟨z, hz⟩ : ∃ z, z = E[i] := ⟨_, rfl⟩
      have HZ := Lib.hid (fun (W : World) (X : Hp) (hX : Sat W (X * (pts hb (vrO (k, ⟨vv, v2, v3, v4⟩)) * (pts b (srO s) * R)))) => (by
        obtain ⟨q0, q1, hq⟩ := HM.out W X hX
        obtain ⟨b3, o3, e, n0, n1, n2, n3, n4⟩ := hq i hlt
        injection e with e
        injection e with e1 e2
        subst e1
        subst e2
        rw [← hz] at n0 n1 n2 n3 n4
        exact ⟨q0, q1, n0, n1, n2, n3, n4⟩ : W.cell? ⟨b, 0, none⟩ = some (.slice (some ⟨b2, o, none⟩) E.length sc) ∧ W.cell? ⟨hb, 0, none⟩ = some (.string k) ∧ W.cell? ⟨b2, o + i * 5, none⟩ = some (.string z.1) ∧ W.cell? ⟨b2, o + i * 5 + 1, none⟩ = some (.string z.2.val) ∧ W.cell? ⟨b2, o + i * 5 + 2, none⟩ = some (.bool z.2.set) ∧ W.cell? ⟨b2, o + i * 5 + 3, none⟩ = some (.bool z.2.exp) ∧ W.cell? ⟨b2, o + i * 5 + 4, none⟩ = some (.bool z.2.fix)))
      rw [← hz] at m0 m1 m2 m3 m4
      have hdr : E.drop i = z :: E.drop (i + 1) := by rw [hz]; exact List.drop_eq_getElem_cons hlt
      rw [hdr] at hins
      obtain ⟨zn, zv, z2, z3, z4⟩ := z
      dsimp only at m0 m1 m2 m3 m4 HZ
      have Si := Lib.hid Si
      have Ri := Lib.hid Ri
      clear hz hdr
      obtain ⟨pc1, pc2⟩ := putR_cons k (⟨vv, v2, v3, v4⟩ : VM.T) (zn, (⟨zv, z2, z3, z4⟩ : VM.T)) (E.drop (i + 1))
      dsimp only at pc1 pc2
      have hol1 : out.length ≤ i + 1 := by cases done <;> simp at hol <;> omega
      cases done with
      | true =>
        rw [pc1] at hins
        clear pc1 pc2
        by_cases hzk : (zn.toList == k.toList) = true
        · rw [if_pos hzk, List.nil_append] at hins
          have HI := Lib.hid hins
          clear hins
          go_upto_region 6 with fail
          refine region_plan (S := (fun w' => w'.cell? ⟨b, 0, none⟩ = some (.slice (some ⟨b2, o, none⟩) E.length sc) ∧ w'.cell? ⟨hb, 0, none⟩ = some (.string k) ∧ w'.cell? ⟨b2, o + i * 5, none⟩ = some (.string zn))) [(0, true), (1, true), (2, true), (3, true), (4, true), (5, true), (6, true), (7, true), (8, true), (9, true), (10, true), (11, true), (12, true), (13, true), (14, true)] (by kernel_rfl) (by kernel_rfl) (by kernel_rfl) ?_ ?_
          · ((try dsimp only); (first | done | (exact ⟨s0, k0, m0⟩)))
          simp only [planOps, List.map_cons, List.map_nil, List.getElem?_toArray, List.getElem?_cons_zero, List.getElem?_cons_succ]
          repeat (first
            | ((refine plan_yes (v := ?_) (by rfl) ?_ ?_); rotate_left; (focus (intro w hSw; (try dsimp only at hSw); go_simp; try (with_reducible rfl))); (try simp only [Act.put, List.setIfInBounds_toArray, List.set_cons_zero, List.set_cons_succ]))
            | ((refine plan_no (by rfl) ?_); (try simp only [Act.put, List.setIfInBounds_toArray, List.set_cons_zero, List.set_cons_succ]))
            | ((refine plan_step (fun K hK => ?_)); (first | (fail) | (go_simp; (fail); (try go_wp2_with fail)) | go_simp); (refine hK.out _ _ ?_ (fun hHeld => ?_)); (focus ((try dsimp only); (first | done | (exact ⟨s0, k0, m0⟩)))); clear hK K; (try simp only [Act.put, List.setIfInBounds_toArray, List.set_cons_zero, List.set_cons_succ])))
          refine plan_done ?_
          obtain ⟨s0, k0, m0, m1, m2, m3, m4⟩ := HZ.out wr.drew _ Si.out.drew
          go_upto_region 9 with fail
          refine region_plan (S := (fun w' => w'.cell? ⟨b, 0, none⟩ = some (.slice (some ⟨b2, o, none⟩) E.length sc) ∧ w'.cell? ⟨hb, 0, none⟩ = some (.string k) ∧ w'.cell? ⟨b2, o + i * 5, none⟩ = some (.string zn))) [(0, true), (1, true), (2, true), (3, true), (4, true), (5, true), (6, true), (7, true), (8, true), (9, true), (10, true)] (by kernel_rfl) (by kernel_rfl) (by kernel_rfl) ?_ ?_
          · ((try dsimp only); (first | done | (exact ⟨s0, k0, m0⟩)))
          simp only [planOps, List.map_cons, List.map_nil, List.getElem?_toArray, List.getElem?_cons_zero, List.getElem?_cons_succ]
          repeat (first
            | ((refine plan_yes (v := ?_) (by rfl) ?_ ?_); rotate_left; (focus (intro w hSw; (try dsimp only at hSw); go_simp; try (with_reducible rfl))); (try simp only [Act.put, List.setIfInBounds_toArray, List.set_cons_zero, List.set_cons_succ]))
            | ((refine plan_no (by rfl) ?_); (try simp only [Act.put, List.setIfInBounds_toArray, List.set_cons_zero, List.set_cons_succ]))
            | ((refine plan_step (fun K hK => ?_)); (first | (fail) | (go_simp; (fail); (try go_wp2_with fail)) | go_simp); (refine hK.out _ _ ?_ (fun hHeld => ?_)); (focus ((try dsimp only); (first | done | (exact ⟨s0, k0, m0⟩)))); clear hK K; (try simp only [Act.put, List.setIfInBounds_toArray, List.set_cons_zero, List.set_cons_succ])))
          refine plan_done ?_
          go_wp2_with fail
          go_roundg (gk - 1)
          case rel => exact ⟨i + 1, out, true, p, cap, by simp, by omega, rfl, by simp, by omega, HI.out, Si.out.drew.drew, Ran.drewN (Ran.drewN Ri.out 1) 1⟩
          case measure => omega
        · have heq : (zn.toList == k.toList) = false := by simpa using hzk
          rw [if_neg hzk] at hins
          have hins2 : PQ = (out ++ [(zn, (⟨zv, z2, z3, z4⟩ : VM.T))]) ++ putR k (⟨vv, v2, v3, v4⟩ : VM.T) (E.drop (i + 1)) true := by rw [hins, List.append_assoc]
          have HI := Lib.hid hins2
          clear hins hins2 hzk
          go_upto_region 6 with fail
          refine region_plan (S := (fun w' => w'.cell? ⟨b, 0, none⟩ = some (.slice (some ⟨b2, o, none⟩) E.length sc) ∧ w'.cell? ⟨hb, 0, none⟩ = some (.string k) ∧ w'.cell? ⟨b2, o + i * 5, none⟩ = some (.string zn))) [(0, true), (1, true), (2, true), (3, true), (4, true), (5, true), (6, true), (7, true), (8, true), (9, true), (10, true), (11, true), (12, true), (13, true), (14, true)] (by kernel_rfl) (by kernel_rfl) (by kernel_rfl) ?_ ?_
          · ((try dsimp only); (first | done | (exact ⟨s0, k0, m0⟩)))
          simp only [planOps, List.map_cons, List.map_nil, List.getElem?_toArray, List.getElem?_cons_zero, List.getElem?_cons_succ]
          repeat (first
            | ((refine plan_yes (v := ?_) (by rfl) ?_ ?_); rotate_left; (focus (intro w hSw; (try dsimp only at hSw); go_simp; try (with_reducible rfl))); (try simp only [Act.put, List.setIfInBounds_toArray, List.set_cons_zero, List.set_cons_succ]))
            | ((refine plan_no (by rfl) ?_); (try simp only [Act.put, List.setIfInBounds_toArray, List.set_cons_zero, List.set_cons_succ]))
            | ((refine plan_step (fun K hK => ?_)); (first | (fail) | (go_simp; (fail); (try go_wp2_with fail)) | go_simp); (refine hK.out _ _ ?_ (fun hHeld => ?_)); (focus ((try dsimp only); (first | done | (exact ⟨s0, k0, m0⟩)))); clear hK K; (try simp only [Act.put, List.setIfInBounds_toArray, List.set_cons_zero, List.set_cons_succ])))
          refine plan_done ?_
          obtain ⟨s0, k0, m0, m1, m2, m3, m4⟩ := HZ.out wr.drew _ Si.out.drew
          have HA := Lib.hid ((Si.out.drew.drew).old (vrO (zn, (⟨zv, z2, z3, z4⟩ : VM.T))))
          have HX := Lib.hid (heap_alloc_new wr.drew.drew (vrO (zn, (⟨zv, z2, z3, z4⟩ : VM.T))))
          have RA := Lib.hid (Ran.new (Ran.drewN (Ran.drewN Ri.out 1) 1) (vrO (zn, (⟨zv, z2, z3, z4⟩ : VM.T))))
          obtain ⟨s0, k0, m0, m1, m2, m3, m4⟩ := HZ.out wr.drew.drew _ Si.out.drew.drew
          go_upto_region 9 with fail
          refine region_plan (S := (fun w' => w'.cell? ⟨b, 0, none⟩ = some (.slice (some ⟨b2, o, none⟩) E.length sc) ∧ w'.cell? ⟨hb, 0, none⟩ = some (.string k) ∧ w'.cell? ⟨b2, o + i * 5, none⟩ = some (.string zn))) [(0, true), (1, true), (2, true), (3, true), (4, true), (5, true), (6, true), (7, true), (8, true), (9, true), (10, true)] (by kernel_rfl) (by kernel_rfl) (by kernel_rfl) ?_ ?_
          · ((try dsimp only); (first | done | (exact ⟨s0, k0, m0⟩)))
          simp only [planOps, List.map_cons, List.map_nil, List.getElem?_toArray, List.getElem?_cons_zero, List.getElem?_cons_succ]
          repeat (first
            | ((refine plan_yes (v := ?_) (by rfl) ?_ ?_); rotate_left; (focus (intro w hSw; (try dsimp only at hSw); go_simp; try (with_reducible rfl))); (try simp only [Act.put, List.setIfInBounds_toArray, List.set_cons_zero, List.set_cons_succ]))
            | ((refine plan_no (by rfl) ?_); (try simp only [Act.put, List.setIfInBounds_toArray, List.set_cons_zero, List.set_cons_succ]))
            | ((refine plan_step (fun K hK => ?_)); (first | (fail) | (go_simp; (fail); (try go_wp2_with fail)) | go_simp); (refine hK.out _ _ ?_ (fun hHeld => ?_)); (focus ((try dsimp only); (first | done | (exact ⟨s0, k0, m0⟩)))); clear hK K; (try simp only [Act.put, List.setIfInBounds_toArray, List.set_cons_zero, List.set_cons_succ])))
          refine plan_done ?_
          go_wp2_with (at_builtin; go_loud (refine appVr rfl _ _ rfl p (out.length) cap (out) (zn, (⟨zv, z2, z3, z4⟩ : VM.T)) (by simp) rfl _ rfl HX.out HA.out (by omega) ?_; intro p9 cap9 w9 T9 R9))
          have T9 := Lib.hid T9
          have R9 := Lib.hid (Below.trans RA.out R9)
          clear HA HX RA Si Ri HM HZ
          go_roundg (gk - 1)
          case rel => exact ⟨i + 1, _, true, p9, cap9, by simp, by omega, rfl, by simp, by simp at hol ⊢; omega, HI.out, T9.out, R9.out⟩
          case measure => omega
      | false =>
        rw [pc2] at hins
        clear pc1 pc2
        by_cases hge : geK zn k = true
        · rw [if_pos hge] at hins
          have hcmp : Op.bytesLess zn.toList k.toList = false := by unfold geK at hge; simpa using hge
          clear hge
          by_cases hzk : (zn.toList == k.toList) = true
          · rw [if_pos hzk, List.nil_append] at hins
            have hins2 : PQ = (out ++ [(k, (⟨vv, v2, v3, v4⟩ : VM.T))]) ++ putR k (⟨vv, v2, v3, v4⟩ : VM.T) (E.drop (i + 1)) true := by rw [hins, List.append_assoc]; rfl
            have HI := Lib.hid hins2
            clear hins hins2
            go_upto_region 6 with fail
            refine region_plan (S := (fun w' => w'.cell? ⟨b, 0, none⟩ = some (.slice (some ⟨b2, o, none⟩) E.length sc) ∧ w'.cell? ⟨hb, 0, none⟩ = some (.string k) ∧ w'.cell? ⟨b2, o + i * 5, none⟩ = some (.string zn))) [(0, true), (1, true), (2, true), (3, true), (4, true), (5, true), (6, true), (7, true), (8, true), (9, true), (10, true), (11, true), (12, true), (13, true), (14, true)] (by kernel_rfl) (by kernel_rfl) (by kernel_rfl) ?_ ?_
            · ((try dsimp only); (first | done | (exact ⟨s0, k0, m0⟩)))
            simp only [planOps, List.map_cons, List.map_nil, List.getElem?_toArray, List.getElem?_cons_zero, List.getElem?_cons_succ]
            repeat (first
              | ((refine plan_yes (v := ?_) (by rfl) ?_ ?_); rotate_left; (focus (intro w hSw; (try dsimp only at hSw); go_simp; try (with_reducible rfl))); (try simp only [Act.put, List.setIfInBounds_toArray, List.set_cons_zero, List.set_cons_succ]))
              | ((refine plan_no (by rfl) ?_); (try simp only [Act.put, List.setIfInBounds_toArray, List.set_cons_zero, List.set_cons_succ]))
              | ((refine plan_step (fun K hK => ?_)); (first | (fail) | (go_simp; (fail); (try go_wp2_with fail)) | go_simp); (refine hK.out _ _ ?_ (fun hHeld => ?_)); (focus ((try dsimp only); (first | done | (exact ⟨s0, k0, m0⟩)))); clear hK K; (try simp only [Act.put, List.setIfInBounds_toArray, List.set_cons_zero, List.set_cons_succ])))
            refine plan_done ?_
            obtain ⟨k0, k1, k2, k3, k4⟩ := vrO_cells (Si.out.drew.perm (show _ = pts hb (vrO (k, (⟨vv, v2, v3, v4⟩ : VM.T))) * (vrA p cap out * (pts b (srO s) * R)) by ac_rfl))
            dsimp only at k0 k1 k2 k3 k4
            have HA := Lib.hid ((Si.out.drew).old (vrO (k, (⟨vv, v2, v3, v4⟩ : VM.T))))
            have HX := Lib.hid (heap_alloc_new wr.drew (vrO (k, (⟨vv, v2, v3, v4⟩ : VM.T))))
            have RA := Lib.hid (Ran.new (Ran.drewN Ri.out 1) (vrO (k, (⟨vv, v2, v3, v4⟩ : VM.T))))
            go_upto_region 9 with (at_builtin; go_loud (refine appVr rfl _ _ rfl p out.length cap out (k, (⟨vv, v2, v3, v4⟩ : VM.T)) rfl rfl _ rfl HX.out HA.out (by omega) ?_; intro p' cap' w7 T7 R7))
            have T7 := Lib.hid T7
            have R7 := Lib.hid (Below.trans RA.out R7)
            clear HA HX RA Si Ri k0 k1 k2 k3 k4 m0 m1 m2 m3 m4 s0
            obtain ⟨s0, k0, m0, m1, m2, m3, m4⟩ := HZ.out w7 _ T7.out
            refine region_plan (S := (fun w' => w'.cell? ⟨b, 0, none⟩ = some (.slice (some ⟨b2, o, none⟩) E.length sc) ∧ w'.cell? ⟨hb, 0, none⟩ = some (.string k) ∧ w'.cell? ⟨b2, o + i * 5, none⟩ = some (.string zn))) [(0, true), (1, true), (2, true), (3, true), (4, true), (5, true), (6, true), (7, true), (8, true), (9, true), (10, true)] (by kernel_rfl) (by kernel_rfl) (by kernel_rfl) ?_ ?_
            · ((try dsimp only); (first | done | (exact ⟨s0, k0, m0⟩)))
            simp only [planOps, List.map_cons, List.map_nil, List.getElem?_toArray, List.getElem?_cons_zero, List.getElem?_cons_succ]
            repeat (first
              | ((refine plan_yes (v := ?_) (by rfl) ?_ ?_); rotate_left; (focus (intro w hSw; (try dsimp only at hSw); go_simp; try (with_reducible rfl))); (try simp only [Act.put, List.setIfInBounds_toArray, List.set_cons_zero, List.set_cons_succ]))
              | ((refine plan_no (by rfl) ?_); (try simp only [Act.put, List.setIfInBounds_toArray, List.set_cons_zero, List.set_cons_succ]))
              | ((refine plan_step (fun K hK => ?_)); (first | (fail) | (go_simp; (fail); (try go_wp2_with fail)) | go_simp); (refine hK.out _ _ ?_ (fun hHeld => ?_)); (focus ((try dsimp only); (first | done | (exact ⟨s0, k0, m0⟩)))); clear hK K; (try simp only [Act.put, List.setIfInBounds_toArray, List.set_cons_zero, List.set_cons_succ])))
            refine plan_done ?_
            go_wp2_with fail
            go_roundg (gk - 1)
            case rel => exact ⟨i + 1, out ++ [(k, (⟨vv, v2, v3, v4⟩ : VM.T))], true, p', cap', by simp, by omega, rfl, by simp, by simp at hol ⊢; omega, HI.out, T7.out.drew, Ran.drewN R7.out 1⟩
            case measure => omega
          · have heq : (zn.toList == k.toList) = false := by simpa using hzk
            rw [if_neg hzk] at hins
            have hins2 : PQ = (out ++ [(k, (⟨vv, v2, v3, v4⟩ : VM.T))] ++ [(zn, (⟨zv, z2, z3, z4⟩ : VM.T))]) ++ putR k (⟨vv, v2, v3, v4⟩ : VM.T) (E.drop (i + 1)) true := by rw [hins, List.append_assoc, List.append_assoc]; rfl
            have HI := Lib.hid hins2
            clear hins hins2 hzk
            go_upto_region 6 with fail
            refine region_plan (S := (fun w' => w'.cell? ⟨b, 0, none⟩ = some (.slice (some ⟨b2, o, none⟩) E.length sc) ∧ w'.cell? ⟨hb, 0, none⟩ = some (.string k) ∧ w'.cell? ⟨b2, o + i * 5, none⟩ = some (.string zn))) [(0, true), (1, true), (2, true), (3, true), (4, true), (5, true), (6, true), (7, true), (8, true), (9, true), (10, true), (11, true), (12, true), (13, true), (14, true)] (by kernel_rfl) (by kernel_rfl) (by kernel_rfl) ?_ ?_
            · ((try dsimp only); (first | done | (exact ⟨s0, k0, m0⟩)))
            simp only [planOps, List.map_cons, List.map_nil, List.getElem?_toArray, List.getElem?_cons_zero, List.getElem?_cons_succ]
            repeat (first
              | ((refine plan_yes (v := ?_) (by rfl) ?_ ?_); rotate_left; (focus (intro w hSw; (try dsimp only at hSw); go_simp; try (with_reducible rfl))); (try simp only [Act.put, List.setIfInBounds_toArray, List.set_cons_zero, List.set_cons_succ]))
              | ((refine plan_no (by rfl) ?_); (try simp only [Act.put, List.setIfInBounds_toArray, List.set_cons_zero, List.set_cons_succ]))
              | ((refine plan_step (fun K hK => ?_)); (first | (fail) | (go_simp; (fail); (try go_wp2_with fail)) | go_simp); (refine hK.out _ _ ?_ (fun hHeld => ?_)); (focus ((try dsimp only); (first | done | (exact ⟨s0, k0, m0⟩)))); clear hK K; (try simp only [Act.put, List.setIfInBounds_toArray, List.set_cons_zero, List.set_cons_succ])))
            refine plan_done ?_
            obtain ⟨k0, k1, k2, k3, k4⟩ := vrO_cells (Si.out.drew.perm (show _ = pts hb (vrO (k, (⟨vv, v2, v3, v4⟩ : VM.T))) * (vrA p cap out * (pts b (srO s) * R)) by ac_rfl))
            dsimp only at k0 k1 k2 k3 k4
            have HA := Lib.hid ((Si.out.drew).old (vrO (k, (⟨vv, v2, v3, v4⟩ : VM.T))))
            have HX := Lib.hid (heap_alloc_new wr.drew (vrO (k, (⟨vv, v2, v3, v4⟩ : VM.T))))
            have RA := Lib.hid (Ran.new (Ran.drewN Ri.out 1) (vrO (k, (⟨vv, v2, v3, v4⟩ : VM.T))))
            go_upto_region 9 with (at_builtin; go_loud (refine appVr rfl _ _ rfl p out.length cap out (k, (⟨vv, v2, v3, v4⟩ : VM.T)) rfl rfl _ rfl HX.out HA.out (by omega) ?_; intro p' cap' w7 T7 R7))
            have T7 := Lib.hid T7
            have R7 := Lib.hid (Below.trans RA.out R7)
            clear HA HX RA Si Ri k0 k1 k2 k3 k4 m0 m1 m2 m3 m4 s0
            obtain ⟨s0, k0, m0, m1, m2, m3, m4⟩ := HZ.out w7 _ T7.out
            have HA := Lib.hid ((T7.out.drew).old (vrO (zn, (⟨zv, z2, z3, z4⟩ : VM.T))))
            have HX := Lib.hid (heap_alloc_new w7.drew (vrO (zn, (⟨zv, z2, z3, z4⟩ : VM.T))))
            have RA := Lib.hid (Ran.new (Ran.drewN R7.out 1) (vrO (zn, (⟨zv, z2, z3, z4⟩ : VM.T))))
            obtain ⟨s0, k0, m0, m1, m2, m3, m4⟩ := HZ.out w7.drew _ T7.out.drew
            refine region_plan (S := (fun w' => w'.cell? ⟨b, 0, none⟩ = some (.slice (some ⟨b2, o, none⟩) E.length sc) ∧ w'.cell? ⟨hb, 0, none⟩ = some (.string k) ∧ w'.cell? ⟨b2, o + i * 5, none⟩ = some (.string zn))) [(0, true), (1, true), (2, true), (3, true), (4, true), (5, true), (6, true), (7, true), (8, true), (9, true), (10, true)] (by kernel_rfl) (by kernel_rfl) (by kernel_rfl) ?_ ?_
            · ((try dsimp only); (first | done | (exact ⟨s0, k0, m0⟩)))
            simp only [planOps, List.map_cons, List.map_nil, List.getElem?_toArray, List.getElem?_cons_zero, List.getElem?_cons_succ]
            repeat (first
              | ((refine plan_yes (v := ?_) (by rfl) ?_ ?_); rotate_left; (focus (intro w hSw; (try dsimp only at hSw); go_simp; try (with_reducible rfl))); (try simp only [Act.put, List.setIfInBounds_toArray, List.set_cons_zero, List.set_cons_succ]))
              | ((refine plan_no (by rfl) ?_); (try simp only [Act.put, List.setIfInBounds_toArray, List.set_cons_zero, List.set_cons_succ]))
              | ((refine plan_step (fun K hK => ?_)); (first | (fail) | (go_simp; (fail); (try go_wp2_with fail)) | go_simp); (refine hK.out _ _ ?_ (fun hHeld => ?_)); (focus ((try dsimp only); (first | done | (exact ⟨s0, k0, m0⟩)))); clear hK K; (try simp only [Act.put, List.setIfInBounds_toArray, List.set_cons_zero, List.set_cons_succ])))
            refine plan_done ?_
            go_wp2_with (at_builtin; go_loud (refine appVr rfl _ _ rfl p' (out.length + 1) cap' (out ++ [(k, (⟨vv, v2, v3, v4⟩ : VM.T))]) (zn, (⟨zv, z2, z3, z4⟩ : VM.T)) (by simp) rfl _ rfl HX.out HA.out (by omega) ?_; intro p9 cap9 w9 T9 R9))
            have T9 := Lib.hid T9
            have R9 := Lib.hid (Below.trans RA.out R9)
            clear HA HX RA HM HZ
            go_roundg (gk - 1)
            case rel => exact ⟨i + 1, _, true, p9, cap9, by simp, by omega, rfl, by simp, by simp at hol ⊢; omega, HI.out, T9.out, R9.out⟩
            case measure => omega
        · rw [if_neg hge] at hins
          have hcmp : Op.bytesLess zn.toList k.toList = true := by unfold geK at hge; simpa using hge
          have hne : zn ≠ k := fun e => hge ((geK_iff zn k).2 (.inl e))
          have heq : (zn.toList == k.toList) = false := toList_ne hne
          rw [if_neg (by rw [heq]; simp)] at hins
          clear hge hne
          have hins2 : PQ = (out ++ [(zn, (⟨zv, z2, z3, z4⟩ : VM.T))]) ++ putR k (⟨vv, v2, v3, v4⟩ : VM.T) (E.drop (i + 1)) false := by rw [hins, List.append_assoc]
          have HI := Lib.hid hins2
          clear hins hins2
          go_upto_region 6 with fail
          refine region_plan (S := (fun w' => w'.cell? ⟨b, 0, none⟩ = some (.slice (some ⟨b2, o, none⟩) E.length sc) ∧ w'.cell? ⟨hb, 0, none⟩ = some (.string k) ∧ w'.cell? ⟨b2, o + i * 5, none⟩ = some (.string zn))) [(0, true), (1, true), (2, true), (3, true), (4, true), (5, true), (6, true), (7, true), (8, true), (9, true), (10, true), (11, true), (12, true), (13, true), (14, true)] (by kernel_rfl) (by kernel_rfl) (by kernel_rfl) ?_ ?_
          · ((try dsimp only); (first | done | (exact ⟨s0, k0, m0⟩)))
          simp only [planOps, List.map_cons, List.map_nil, List.getElem?_toArray, List.getElem?_cons_zero, List.getElem?_cons_succ]
          repeat (first
            | ((refine plan_yes (v := ?_) (by rfl) ?_ ?_); rotate_left; (focus (intro w hSw; (try dsimp only at hSw); go_simp; try (with_reducible rfl))); (try simp only [Act.put, List.setIfInBounds_toArray, List.set_cons_zero, List.set_cons_succ]))
            | ((refine plan_no (by rfl) ?_); (try simp only [Act.put, List.setIfInBounds_toArray, List.set_cons_zero, List.set_cons_succ]))
            | ((refine plan_step (fun K hK => ?_)); (first | (fail) | (go_simp; (fail); (try go_wp2_with fail)) | go_simp); (refine hK.out _ _ ?_ (fun hHeld => ?_)); (focus ((try dsimp only); (first | done | (exact ⟨s0, k0, m0⟩)))); clear hK K; (try simp only [Act.put, List.setIfInBounds_toArray, List.set_cons_zero, List.set_cons_succ])))
          refine plan_done ?_
          obtain ⟨s0, k0, m0, m1, m2, m3, m4⟩ := HZ.out wr.drew _ Si.out.drew
          have HA := Lib.hid ((Si.out.drew.drew).old (vrO (zn, (⟨zv, z2, z3, z4⟩ : VM.T))))
          have HX := Lib.hid (heap_alloc_new wr.drew.drew (vrO (zn, (⟨zv, z2, z3, z4⟩ : VM.T))))
          have RA := Lib.hid (Ran.new (Ran.drewN (Ran.drewN Ri.out 1) 1) (vrO (zn, (⟨zv, z2, z3, z4⟩ : VM.T))))
          obtain ⟨s0, k0, m0, m1, m2, m3, m4⟩ := HZ.out wr.drew.drew _ Si.out.drew.drew
          go_upto_region 9 with fail
          refine region_plan (S := (fun w' => w'.cell? ⟨b, 0, none⟩ = some (.slice (some ⟨b2, o, none⟩) E.length sc) ∧ w'.cell? ⟨hb, 0, none⟩ = some (.string k) ∧ w'.cell? ⟨b2, o + i * 5, none⟩ = some (.string zn))) [(0, true), (1, true), (2, true), (3, true), (4, true), (5, true), (6, true), (7, true), (8, true), (9, true), (10, true)] (by kernel_rfl) (by kernel_rfl) (by kernel_rfl) ?_ ?_
          · ((try dsimp only); (first | done | (exact ⟨s0, k0, m0⟩)))
          simp only [planOps, List.map_cons, List.map_nil, List.getElem?_toArray, List.getElem?_cons_zero, List.getElem?_cons_succ]
          repeat (first
            | ((refine plan_yes (v := ?_) (by rfl) ?_ ?_); rotate_left; (focus (intro w hSw; (try dsimp only at hSw); go_simp; try (with_reducible rfl))); (try simp only [Act.put, List.setIfInBounds_toArray, List.set_cons_zero, List.set_cons_succ]))
            | ((refine plan_no (by rfl) ?_); (try simp only [Act.put, List.setIfInBounds_toArray, List.set_cons_zero, List.set_cons_succ]))
            | ((refine plan_step (fun K hK => ?_)); (first | (fail) | (go_simp; (fail); (try go_wp2_with fail)) | go_simp); (refine hK.out _ _ ?_ (fun hHeld => ?_)); (focus ((try dsimp only); (first | done | (exact ⟨s0, k0, m0⟩)))); clear hK K; (try simp only [Act.put, List.setIfInBounds_toArray, List.set_cons_zero, List.set_cons_succ])))
          refine plan_done ?_
          go_wp2_with (at_builtin; go_loud (refine appVr rfl _ _ rfl p (out.length) cap (out) (zn, (⟨zv, z2, z3, z4⟩ : VM.T)) (by simp) rfl _ rfl HX.out HA.out (by omega) ?_; intro p9 cap9 w9 T9 R9))
          have T9 := Lib.hid T9
          have R9 := Lib.hid (Below.trans RA.out R9)
          clear HA HX RA Si Ri HM HZ
          go_roundg (gk - 1)
          case rel => exact ⟨i + 1, _, false, p9, cap9, by simp, by omega, rfl, by simp, by simp at hol ⊢; omega, HI.out, T9.out, R9.out⟩
          case measure => omega
    · have hge : (E.length : Int) ≤ (i : Int) := by omega
      have hd0 : E.drop i = [] := List.drop_eq_nil_of_le (by omega)
      rw [hd0] at hins
      have hol1 : out.length ≤ i + 1 := by cases done <;> simp at hol <;> omega
      clear hrec
      cases done with
      | true =>
        have hout : PQ = out := by rw [hins]; show out ++ [] = out; rw [List.append_nil]
        have S9 := (Si.perm (show _ = pts hb (vrO (k, ⟨vv, v2, v3, v4⟩)) * (pts b (srO s) * (vrA p cap out * R)) by ac_rfl)).right.set (i := 0) (.slice p out.length cap)
        have f0 : wr.frozen? ⟨b, 0, none⟩ = false := free_at (Si.perm (show _ = pts b (srO s) * (pts hb (vrO (k, ⟨vv, v2, v3, v4⟩)) * (vrA p cap out * R)) by ac_rfl)).get 0
        have S9 := Lib.hid (And.intro hout (And.intro S9 (Ran.set Ri ⟨b, 0, none⟩ (.slice p out.length cap))))
        clear hout hins Si Ri HM
        go_wp2_with fail
        go_end0
        exact ⟨⟨p, cap, rfl, by rw [S9.out.1]; exact S9.out.2.1⟩, S9.out.2.2⟩
      | false =>
        have hout : PQ = out ++ [(k, (⟨vv, v2, v3, v4⟩ : VM.T))] := hins
        have HO := Lib.hid hout
        have HA := Lib.hid (Si.old (vrO (k, (⟨vv, v2, v3, v4⟩ : VM.T))))
        have HX := Lib.hid (heap_alloc_new wr (vrO (k, (⟨vv, v2, v3, v4⟩ : VM.T))))
        have RA := Lib.hid (Ran.new Ri (vrO (k, (⟨vv, v2, v3, v4⟩ : VM.T))))
        obtain ⟨k0, k1, k2, k3, k4⟩ := vrO_cells (Si.perm (show _ = pts hb (vrO (k, ⟨vv, v2, v3, v4⟩)) * (vrA p cap out * (pts b (srO s) * R)) by ac_rfl))
        dsimp only at k0 k1 k2 k3 k4
        clear hout hins Si Ri
        go_upto_region 13 with (at_builtin; go_loud (refine appVr rfl _ _ rfl p out.length cap out (k, (⟨vv, v2, v3, v4⟩ : VM.T)) rfl rfl _ rfl HX.out HA.out (by omega) ?_; intro p' cap' w6 T6 R6; clear HA HX))
        obtain ⟨s0, -, -⟩ := HM.out w6 _ T6
        have f0 : w6.frozen? ⟨b, 0, none⟩ = false := free_at (T6.perm (show _ = pts b (srO s) * (pts hb (vrO (k, ⟨vv, v2, v3, v4⟩)) * (vrA p' cap' (out ++ [(k, (⟨vv, v2, v3, v4⟩ : VM.T))]) * R)) by ac_rfl)).get 0
        have S9 := (T6.perm (show _ = pts hb (vrO (k, ⟨vv, v2, v3, v4⟩)) * (pts b (srO s) * (vrA p' cap' (out ++ [(k, (⟨vv, v2, v3, v4⟩ : VM.T))]) * R)) by ac_rfl)).right.set (i := 0) (.slice p' (out.length + 1) cap')
        have S9 := Lib.hid (And.intro S9 (Ran.set (Below.trans RA.out R6) ⟨b, 0, none⟩ (.slice p' (out.length + 1) cap')))
        clear T6 R6 RA HM k0 k1 k2 k3 k4
        go_wp2_with fail
        go_end0
        exact ⟨⟨p', cap', rfl, by rw [HO.out]; unfold srO; rw [List.length_append]; exact S9.out.1⟩, S9.out.2⟩
end Go.Proofs.YtlmjidandjemjaaGreatDoor.State

namespace Go.Proofs.YtlmjidandjemjaaGreatDoor.State
open Go.RowKit Go.Proofs.YtlmjidandjemjaaGreatDoor Go.Proofs.YtlmjidandjemjaaGreatDoor.Hp Go.Proofs.YtlmjidandjemjaaGreatDoor.Undo
set_option linter.unusedVariables false

theorem markedS_mem : ∀ (l : List Nat) (n : Nat), Marked n l → ∀ x ∈ l, x ≤ n := by
  intro l
  induction l with
  | nil => intro n _ x hx; cases hx
  | cons m l ih =>
    intro n h x hx
    rcases List.mem_cons.1 hx with rfl | hx
    · exact h.1
    · exact Nat.le_trans (ih m h.2 x hx) h.1
/-- The document's state is what is known, those that wait are what was known at the marks. -/
structure Cps (n : Now) (r : Sr) (was : List Sr) : Prop where
  now : SrIs n.s n.q r
  len : was.length = n.ms.length
  was : ∀ i (h : i < n.ms.length) (h2 : i < was.length), ∃ q, SrIs ((n.hist ++ [n.s]).getD n.ms[i] n.s) q was[i]
theorem markedS_at {n : Now} (hm : Marked n.hist.length n.ms.reverse) (i : Nat) (h : i < n.ms.length) : n.ms[i] ≤ n.hist.length :=
  markedS_mem _ _ hm _ (List.mem_reverse.2 (List.getElem_mem h))
theorem SrIs.status {s : Pst} {q q2 : Int} {r : Sr} (h : SrIs s q r) : SrIs s q2 { r with q := q2 } := ⟨h.V, h.F, h.A, h.T, h.o, h.G, h.at_, h.in_, rfl, h.vo⟩
theorem Cps.mark {n : Now} {r : Sr} {was : List Sr} (h : Cps n r was) : Cps { n with ms := n.ms ++ [n.hist.length] } r (was ++ [r]) := by
  refine ⟨h.now, ?_, fun i hi h2 => ?_⟩
  · show _ = (n.ms ++ [n.hist.length]).length
    rw [List.length_append, List.length_append, h.len]; rfl
  · change i < (n.ms ++ [n.hist.length]).length at hi
    have hi' : i < n.ms.length + 1 := by simpa using hi
    show ∃ q, SrIs ((n.hist ++ [n.s]).getD (n.ms ++ [n.hist.length])[i] n.s) q _
    by_cases c : i < n.ms.length
    · rw [List.getElem_append_left c, List.getElem_append_left (by rw [h.len]; exact c)]
      exact h.was i c (by rw [h.len]; exact c)
    · have e : i = n.ms.length := by omega
      subst e
      rw [List.getElem_append_right (Nat.le_refl _), List.getElem_append_right (by rw [h.len]; exact Nat.le_refl _)]
      simp only [Nat.sub_self, List.getElem_cons_zero, h.len]
      rw [List.getD_eq_getElem?_getD, List.getElem?_append_right (Nat.le_refl _), Nat.sub_self]
      exact ⟨_, h.now⟩
theorem Cps.undo {n : Now} {r : Sr} {was : List Sr} (h : Cps n r was) (hm : Marked n.hist.length n.ms.reverse) (hne : n.ms ≠ []) (hw : n.ms.length - 1 < was.length) : Cps n.undoM.2 { was[n.ms.length - 1] with q := r.q } was.dropLast := by
  have hp : 0 < n.ms.length := List.length_pos_iff.2 hne
  have hle := markedS_at hm (n.ms.length - 1) (by omega)
  have hrev : n.ms.reverse = n.ms[n.ms.length - 1] :: n.ms.dropLast.reverse := by
    have e : n.ms = n.ms.dropLast ++ [n.ms[n.ms.length - 1]] := by
      rw [← List.getLast_eq_getElem hne]; exact (List.dropLast_concat_getLast hne).symm
    have e2 := congrArg List.reverse e
    rw [List.reverse_append] at e2
    exact e2
  have hsort : ∀ i (hi : i < n.ms.length - 1), n.ms[i] ≤ n.ms[n.ms.length - 1] := fun i hi => by
    rw [hrev] at hm
    refine markedS_mem _ _ hm.2 _ (List.mem_reverse.2 ?_)
    refine List.mem_iff_getElem.2 ⟨i, by rw [List.length_dropLast]; exact hi, ?_⟩
    rw [List.getElem_dropLast]
  obtain ⟨qn, hnow⟩ := h.was (n.ms.length - 1) (by omega) hw
  have hS : ∀ k, k ≤ n.ms[n.ms.length - 1] → ((n.hist.take n.ms[n.ms.length - 1] ++ [(n.hist ++ [n.s]).getD n.ms[n.ms.length - 1] n.s]).getD k ((n.hist ++ [n.s]).getD n.ms[n.ms.length - 1] n.s)) = (n.hist ++ [n.s]).getD k n.s := fun k hk => by
    by_cases c : k < n.ms[n.ms.length - 1]
    · generalize (n.hist ++ [n.s]).getD n.ms[n.ms.length - 1] n.s = S
      rw [List.getD_eq_getElem?_getD, List.getElem?_append_left (by rw [List.length_take]; omega), List.getElem?_take, if_pos c, List.getD_eq_getElem?_getD, List.getElem?_append_left (by omega), List.getElem?_eq_getElem (by omega)]; rfl
    · have e : k = n.ms[n.ms.length - 1] := by omega
      rw [List.getD_eq_getElem?_getD, List.getElem?_append_right (by rw [List.length_take]; omega), List.length_take, Nat.min_eq_left hle, ← e, Nat.sub_self]; rfl
  have hun : n.undoM.2 = ⟨n.hist.take n.ms[n.ms.length - 1], n.ms.dropLast, n.N, (n.hist ++ [n.s]).getD n.ms[n.ms.length - 1] n.s, n.q⟩ := by
    unfold Now.undoM
    rw [hrev]
    dsimp only
    rw [List.reverse_reverse]
  rw [hun]
  have hq : r.q = n.q := h.now.q
  refine ⟨by rw [hq]; exact hnow.status, ?_, fun i hi h2 => ?_⟩
  · show was.dropLast.length = n.ms.dropLast.length
    rw [List.length_dropLast, List.length_dropLast, h.len]
  · change i < n.ms.dropLast.length at hi
    have hi' : i < n.ms.length - 1 := by rw [List.length_dropLast] at hi; exact hi
    show ∃ q, SrIs ((n.hist.take n.ms[n.ms.length - 1] ++ [(n.hist ++ [n.s]).getD n.ms[n.ms.length - 1] n.s]).getD (n.ms.dropLast)[i] ((n.hist ++ [n.s]).getD n.ms[n.ms.length - 1] n.s)) q _
    rw [List.getElem_dropLast, List.getElem_dropLast, hS _ (hsort i hi')]
    exact h.was i (by omega) (by rw [h.len]; omega)
/-- A state changed, and perhaps noted; there is room for notes. -/
theorem Cps.put {most : Int} {n : Now} {r r2 : Sr} {was : List Sr} {s2 : Pst} (h : Cps n r was) (hm : Marked n.hist.length n.ms.reverse) (hroom : (n.hist.length : Int) < most) (hn : SrIs s2 n.q r2) : (n.put most s2).1 = 0 ∧ Cps (n.put most s2).2 r2 was := by
  have h0 : tE most n.hist n.ms = 0 := by
    unfold tE
    by_cases c : n.ms = []
    · rw [if_pos c]
    · rw [if_neg c, if_pos hroom]
  unfold Now.put
  rw [h0]
  refine ⟨rfl, ?_⟩
  rw [if_pos rfl]
  unfold tH
  by_cases c : n.ms = []
  · simp only [if_pos c]
    exact ⟨hn, h.len, fun i hi => absurd (show i < n.ms.length from hi) (by rw [c]; simp)⟩
  · simp only [if_neg c, if_pos hroom]
    refine ⟨hn, h.len, fun i hi h2 => ?_⟩
    have hi' : i < n.ms.length := hi
    have hle := markedS_at hm i hi'
    obtain ⟨q, this⟩ := h.was i hi' h2
    refine ⟨q, ?_⟩
    show SrIs (((n.hist ++ [n.s]) ++ [s2]).getD n.ms[i] s2) q _
    rw [List.getD_eq_getElem?_getD] at this ⊢
    rw [List.getElem?_append_left (by simp; omega)]
    rw [List.getElem?_eq_getElem (by simp; omega)] at this ⊢
    exact this
end Go.Proofs.YtlmjidandjemjaaGreatDoor.State

namespace Go.Proofs.YtlmjidandjemjaaGreatDoor.State
open Go.RowKit Go.Proofs.YtlmjidandjemjaaGreatDoor Go.Proofs.YtlmjidandjemjaaGreatDoor.Hp Go.Proofs.YtlmjidandjemjaaGreatDoor.Undo
set_option linter.unusedVariables false

/-- How many there are of each. -/
structure SrSm (c : Nat) (s : Sr) : Prop where
  V : s.V.length ≤ c
  F : s.F.length ≤ c
  A : s.A.length ≤ c
  T : s.T.length ≤ c
  top : c ≤ 90000
theorem SrSm.le {c d : Nat} {s : Sr} (h : SrSm c s) (hd : c ≤ d) (ht : d ≤ 90000) : SrSm d s := ⟨Nat.le_trans h.V hd, Nat.le_trans h.F hd, Nat.le_trans h.A hd, Nat.le_trans h.T hd, ht⟩
/-- A state of the document in memory, what it knows, and how many. -/
structure SrG (A : Hp) (p : Pst) (q : Int) (c : Nat) (s : Sr) : Prop where
  is : SrIs p q s
  ok : SrOk A s
  sm : SrSm c s
/-- What a call of the document makes: a code, and the state behind it. -/
def OutS (b : Nat) (A F : Hp) (w : World) (en : Int) (p : Pst) (q : Int) (c : Nat) (e : Ending) (w' : World) : Prop :=
  (e = .returned (.int .i64 en) ∧ ∃ (X : Hp) (s : Sr), SrG (X * A) p q c s ∧ Sat w' (pts b (srO s) * (X * (A * F)))) ∧ Ran w w'
theorem SrG.more {A S : Hp} {p : Pst} {q : Int} {c : Nat} {s : Sr} (h : SrG A p q c s) : SrG (S * A) p q c s := ⟨h.is, h.ok.more, h.sm⟩
theorem SrG.le {A : Hp} {p : Pst} {q : Int} {c d : Nat} {s : Sr} (h : SrG A p q c s) (hd : c ≤ d) (ht : d ≤ 90000) : SrG A p q d s := ⟨h.is, h.ok, h.sm.le hd ht⟩
theorem SrG.emp {A : Hp} {p : Pst} {q : Int} {c : Nat} {s : Sr} (h : SrG A p q c s) : SrG (Hp.emp * A) p q c s := h.more
/-- A variable laid: one that is nothing is not there. -/
def dPut (p : Pst) (k : ByteArray) (v : VM.T) : Pst := { p with V := if nilR v = true then delM p.V k else putM p.V k v }
def dSet (p : Pst) (k v : ByteArray) : Int × Pst :=
  if isName k = false then (16, p) else if 4096 < v.size then (21, p) else if (p.var k).fix = true then (26, p)
  else (0, dPut p k ⟨v, true, (p.var k).exp || p.option 97, false⟩)
def dUnset (p : Pst) (k : ByteArray) : Int × Pst :=
  if isName k = false then (16, p) else if (p.var k).fix = true then (26, p) else (0, dPut p k ⟨⟨#[]⟩, false, false, false⟩)
def dMark (p : Pst) (k : ByteArray) (ex fx : Bool) : Int × Pst :=
  if isName k = false then (16, p) else (0, dPut p k ⟨(p.var k).val, (p.var k).set, (p.var k).exp || ex, (p.var k).fix || fx⟩)
def dVar (v : VM.T) : VM.T := if v.set = true then v else ⟨⟨#[]⟩, v.set, v.exp, v.fix⟩
def dPutV (p : Pst) (k : ByteArray) (v : VM.T) : Int × Pst := if isName k = false then (16, p) else (0, dPut p k (dVar v))
def dSetF (p : Pst) (k : ByteArray) (f : NM.T) : Int × Pst := if isName k = false then (16, p) else (0, { p with F := putM p.F k f })
def dUnsetF (p : Pst) (k : ByteArray) : Int × Pst := if isName k = false then (16, p) else if (p.F k).isSome = false then (10, p) else (0, { p with F := delM p.F k })
def dSetA (p : Pst) (k v : ByteArray) : Int × Pst := if isAlias k = false then (16, p) else if 4096 < v.size then (21, p) else (0, { p with A := putM p.A k v })
def dUnA (p : Pst) (k : ByteArray) : Int × Pst := if (p.A k).isSome = false then (10, p) else (0, { p with A := delM p.A k })
def dSetT (p : Pst) (k v : ByteArray) : Int × Pst := if isSignal k = false then (16, p) else if 4096 < v.size then (21, p) else (0, { p with T := putM p.T k v })
def dUnT (p : Pst) (k : ByteArray) : Int × Pst := if isSignal k = false then (16, p) else (0, { p with T := delM p.T k })
/-- The traps of no action alone. -/
def idleM (M : ByteArray → Option ByteArray) : ByteArray → Option ByteArray := fun k => if ((M k).getD ⟨#[]⟩).size = 0 then M k else none
def dEnter (p : Pst) : Pst := { p with T := idleM p.T }
def dSetO (p : Pst) (b : UInt8) (on : Bool) : Int × Pst := if b ∈ Now.optL then (0, { p with o := ⟨(Now.optS p.o.data.toList b on).toArray⟩ }) else (1, p)
def dSetG (p : Pst) (l : List ByteArray) : Int × Pst :=
  if 1000 < l.length then (20, p) else if (l.any fun x => decide (4096 < x.size)) = true then (21, p) else (0, { p with l := l, here := 1, within := 0 })
def dShift (p : Pst) (k : Int) : Int × Pst := if k < 0 ∨ (p.l.length : Int) < k then (1, p) else (0, { p with l := p.l.drop k.toNat })
def dSetC (p : Pst) (a i : Int) : Int × Pst := if a < 0 ∨ i < 0 then (1, p) else (0, { p with here := a, within := i })
section
variable {α : Type}
theorem putR_len (k : ByteArray) (v : α) : ∀ (L : List (Pa α)) (d : Bool), (putR k v L d).length ≤ L.length + 1
  | [], true => Nat.zero_le _
  | [], false => Nat.le_refl _
  | x :: l, true => by
    show ((if (x.1.toList == k.toList) = true then [] else [x]) ++ putR k v l true).length ≤ _
    rw [putR_true, List.length_append]
    have := without_len k l
    rw [List.length_cons]
    split <;> simp <;> omega
  | x :: l, false => by
    show (if geK x.1 k = true then (k, v) :: ((if (x.1.toList == k.toList) = true then [] else [x]) ++ putR k v l true) else (if (x.1.toList == k.toList) = true then [] else [x]) ++ putR k v l false).length ≤ _
    have h2 := putR_len k v l false
    have h3 := without_len k l
    rw [putR_true, List.length_cons]
    split
    · rw [List.length_cons, List.length_append]
      split <;> simp <;> omega
    · rw [List.length_append]
      split <;> simp <;> omega
theorem putR_pairs {M : ByteArray → Option α} {L : List (Pa α)} (h : PairsA M L) (k : ByteArray) (v : α) (d : Bool) : PairsA (if d = true then delM M k else putM M k v) (putR k v L d) := by
  cases d with
  | true => rw [putR_true]; exact without_pairs h k
  | false => rw [putR_false k v L h.1.1]; exact ins_pairs h k v
end
/-- A variable that may be laid. -/
def VarOk (v : VM.T) : Prop := v.set = false → v.val = ⟨#[]⟩
theorem var_ok {p : Pst} {q : Int} {r : Sr} (h : SrIs p q r) (k : ByteArray) : VarOk (p.var k) := by
  intro hs
  unfold Pst.var at hs ⊢
  cases hv : p.V k with
  | none => rfl
  | some v => rw [hv] at hs; exact (h.vo k v hv).1 hs
theorem SrIs.putV {p : Pst} {q : Int} {r : Sr} (h : SrIs p q r) (k : ByteArray) (v : VM.T) (hv : VarOk v) (vp : Option Addr) (vc : Nat) : SrIs (dPut p k v) q { r with vp := vp, vc := vc, V := putR k v r.V (nilR v) } where
  V := putR_pairs h.V k v (nilR v)
  F := h.F
  A := h.A
  T := h.T
  o := h.o
  G := h.G
  at_ := h.at_
  in_ := h.in_
  q := h.q
  vo s x hx := by
    change (if nilR v = true then delM p.V k else putM p.V k v) s = some x at hx
    by_cases c : nilR v = true
    · rw [if_pos c] at hx
      unfold delM at hx
      by_cases e : s = k
      · rw [if_pos e] at hx; cases hx
      · rw [if_neg e] at hx; exact h.vo s x hx
    · rw [if_neg c] at hx
      unfold putM at hx
      by_cases e : s = k
      · rw [if_pos e] at hx
        injection hx with hx
        subst hx
        refine ⟨hv, ?_⟩
        unfold nilR at c
        cases h1 : v.set <;> cases h2 : v.exp <;> cases h3 : v.fix <;> simp [h1, h2, h3] at c ⊢
      · rw [if_neg e] at hx; exact h.vo s x hx
theorem RdR.perm {α : Type} {f : α → List Value} {K : Nat} {R S : Hp} {p : Option Addr} {cap : Nat} {L : List α} (h : RdR f K R p cap L) (e : R = S) : RdR f K S p cap L := e ▸ h
theorem vrG_var (p : Pst) (k : ByteArray) : (vrG p.V k).2 = p.var k := by
  unfold vrG Pst.var
  cases p.V k <;> rfl
/-- What the document's put makes. -/
def PutS (b : Nat) (A F : Hp) (w : World) (p : Pst) (q : Int) (c : Nat) (w' : World) : Prop :=
  (∃ (X : Hp) (s : Sr), SrG (X * A) p q c s ∧ Sat w' (pts b (srO s) * (X * (A * F)))) ∧ Ran w w'
theorem PutS.out {b : Nat} {A F : Hp} {w w' : World} {p : Pst} {q : Int} {c : Nat} {en : Int} (h : PutS b A F w p q c w') : OutS b A F w en p q c (.returned (.int .i64 en)) w' := ⟨⟨rfl, h.1⟩, h.2⟩
theorem PutS.drop {b : Nat} {A F Y : Hp} {w w' : World} {p : Pst} {q : Int} {c : Nat} (h : PutS b A (Y * F) w p q c w') : PutS b A F w p q c w' := by
  obtain ⟨⟨X, s, h1, h2⟩, h3⟩ := h
  exact ⟨⟨X, s, h1, (h2.perm (show _ = Y * (pts b (srO s) * (X * (A * F))) by ac_rfl)).right⟩, h3⟩
theorem PutS.trans {b : Nat} {A F : Hp} {w0 w w' : World} {p : Pst} {q : Int} {c : Nat} (h : PutS b A F w p q c w') (h0 : Ran w0 w) : PutS b A F w0 p q c w' := ⟨h.1, Below.trans h0 h.2⟩
theorem OutS.same {b : Nat} {A F : Hp} {w0 w : World} {p : Pst} {q : Int} {c : Nat} {en : Int} {s : Sr} (hG : SrG A p q c s) (hc : c ≤ 80000) (h : Sat w (pts b (srO s) * (A * F))) (h0 : Ran w0 w) : OutS b A F w0 en p q (c + 1) (.returned (.int .i64 en)) w :=
  ⟨⟨rfl, Hp.emp, s, (hG.le (by omega) (by omega)).emp, by rw [emp_sep]; exact h⟩, h0⟩
set_option maxRecDepth 100000 in
theorem rput2_calls (b : Nat) (s : Sr) (p : Pst) (q : Int) (c : Nat) (A F : Hp) (k : ByteArray) (v : VM.T) (w : World) (hv : VarOk v) (hc : c ≤ 80000) (hG : SrG A p q c s) (h : Sat w (pts b (srO s) * (A * F))) :
    Calls Tryz.prog 116 #[pp b, .agg #[.string k, .string v.val, .bool v.set, .bool v.exp, .bool v.fix]] w fun e w' => e = .returned (.tuple #[]) ∧ PutS b A F w (dPut p k v) q (c + 1) w' := by
  have hs := hG.sm
  refine (rput_calls b s k v w (A * F) (by have := hs.V; omega) ((hG.ok.V.more (S := F)).perm (by ac_rfl)) h).mono ?_
  rintro e w' ⟨⟨vp, vc, rfl, h2⟩, h3⟩
  refine ⟨rfl, ⟨vrA vp vc (putR k v s.V (nilR v)), { s with vp := vp, vc := vc, V := putR k v s.V (nilR v) }, ⟨hG.is.putV k v hv vp vc, ?_, ?_⟩, h2⟩, h3⟩
  · exact ⟨RdR.of_arr2 vrC_len (by omega) (h2.perm (show _ = vrA vp vc (putR k v s.V (nilR v)) * (pts b (srO { s with vp := vp, vc := vc, V := putR k v s.V (nilR v) }) * (A * F)) by ac_rfl)), hG.ok.F.more, hG.ok.A.more, hG.ok.T.more, hG.ok.G.more⟩
  · have := putR_len k v s.V (nilR v)
    have h4 := hs.V
    exact ⟨by show (putR k v s.V (nilR v)).length ≤ c + 1; omega, Nat.le_trans hs.F (Nat.le_succ c), Nat.le_trans hs.A (Nat.le_succ c), Nat.le_trans hs.T (Nat.le_succ c), by omega⟩
end Go.Proofs.YtlmjidandjemjaaGreatDoor.State

