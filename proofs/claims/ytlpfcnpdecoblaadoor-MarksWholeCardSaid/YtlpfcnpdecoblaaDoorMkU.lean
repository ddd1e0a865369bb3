/- Runs walked. -/
import Derived.Test.YtlpfcnpdecoblaaDoorMkT
namespace Go.Proofs.YtlpfcnpdecoblaaDoor.Marks
open Go.RowKit Go.Proofs.YtlpfcnpdecoblaaDoor Go.Proofs.YtlpfcnpdecoblaaDoor.Hp
set_option linter.unusedVariables false
attribute [local go_sem] Oper.semAt_some

/-- All from a place on, up to another, are of one kind. -/
def kindFrom (t : List Ch) (fr i : Nat) : Prop := ∀ j (h3 : j < t.length) (h4 : fr < t.length), fr ≤ j → j < i → t[j].q = t[fr].q
theorem cut_eq (t : List Ch) (fr te : Nat) (h1 : fr ≤ te) (h2 : te ≤ t.length) (hk : kindFrom t fr te) (he : ∀ (h3 : te < t.length) (h4 : fr < t.length), fr < te → t[te].q ≠ t[fr].q) : runL (t.drop fr) = cutR t fr te ++ runL (t.drop te) := by
  rcases Nat.lt_or_ge fr te with hlt | hge
  · have hf : fr < t.length := by omega
    rw [cutR_some t fr te hlt hf]
    have hsp : t.drop fr = (t.drop fr).take (te - fr) ++ t.drop te := by
      conv => lhs; rw [← List.take_append_drop (te - fr) (t.drop fr), List.drop_drop, show fr + (te - fr) = te by omega]
    have hlen : ((t.drop fr).take (te - fr)).length = te - fr := by rw [List.length_take, List.length_drop]; omega
    conv => lhs; rw [hsp]
    refine runL_cut (q := t[fr].q) _ _ (fun e => by rw [e] at hlen; simp at hlen; omega) (fun x hx => ?_) (fun y hy => ?_)
    · obtain ⟨j, hj, rfl⟩ := List.mem_iff_getElem.1 hx
      rw [hlen] at hj
      rw [List.getElem_take, List.getElem_drop]
      exact hk (fr + j) (by omega) hf (by omega) (by omega)
    · rw [List.head?_drop] at hy
      obtain ⟨hte, e⟩ := List.getElem?_eq_some_iff.1 hy
      rw [← e]
      exact he hte hf hlt
  · have e : fr = te := by omega
    subst e
    rw [cutR_none, List.nil_append]
def RunRel (W : World) (t : List Ch) (fb ob tb : Nat) (tv : Value) (w : World) (g : Nat) (kv : Value) (wr : World) : Prop :=
  ∃ (i fr : Nat) (p : Option Addr) (cap : Nat) (R : List (List UInt8 × Bool)), i + g = t.length ∧ kv = .int .i64 (i : Int) ∧ fr ≤ i ∧ kindFrom t fr i ∧ runL t = R ++ runL (t.drop fr) ∧ Sat wr (RSt W fb ob tb fr p cap R tv) ∧ Ran w wr
theorem rst_at {W w : World} {fb ob tb fr : Nat} {p : Option Addr} {cap : Nat} {R : List (List UInt8 × Bool)} {tv : Value} (h : Sat w (RSt W fb ob tb fr p cap R tv)) : w.cell? ⟨fb, 0, none⟩ = some (.int .i64 (fr : Int)) ∧ w.cell? ⟨ob, 0, none⟩ = some (.slice p R.length cap) ∧ w.cell? ⟨tb, 0, none⟩ = some tv ∧ Kept W w ∧ RunsAt w p cap R := by
  unfold RSt at h
  exact ⟨(one_at (h.perm (show _ = pts fb (.cells #[.int .i64 (fr : Int)] 3 (0, 0)) * (arr 60 2 p R.length cap (runCells R) * (pts ob (.cells #[.slice p R.length cap] 55 (0, 0)) * (pts tb (.cells #[tv] 22 (0, 0)) * keep W))) by ac_rfl))).1,
    (one_at (h.perm (show _ = pts ob (.cells #[.slice p R.length cap] 55 (0, 0)) * (arr 60 2 p R.length cap (runCells R) * (pts fb (.cells #[.int .i64 (fr : Int)] 3 (0, 0)) * (pts tb (.cells #[tv] 22 (0, 0)) * keep W))) by ac_rfl))).1,
    (one_at (h.perm (show _ = pts tb (.cells #[tv] 22 (0, 0)) * (arr 60 2 p R.length cap (runCells R) * (pts fb (.cells #[.int .i64 (fr : Int)] 3 (0, 0)) * (pts ob (.cells #[.slice p R.length cap] 55 (0, 0)) * keep W))) by ac_rfl))).1,
    kept_of (h.perm (show _ = arr 60 2 p R.length cap (runCells R) * (pts fb (.cells #[.int .i64 (fr : Int)] 3 (0, 0)) * (pts ob (.cells #[.slice p R.length cap] 55 (0, 0)) * pts tb (.cells #[tv] 22 (0, 0)))) * keep W by ac_rfl)),
    runs_at h⟩
set_option maxRecDepth 100000 in
set_option maxHeartbeats 8000000 in
theorem runs_calls (t : List Ch) (ao : Option Addr) (ca : Nat) (w : World) (h : CharsAt w ao ca t) (hm : t.length ≤ 100000) :
    Calls Tryd.prog 31 #[.slice ao t.length ca] w (RunsPost (runL t) w) := by
  have hmm : (t.length : Int) ≤ 100000 := by omega
  have Hm := Lib.hid hm
  have H := Lib.hid h
  obtain ⟨w1, hw1⟩ : ∃ w1, w1 = ((w.alloc (.cells #[.slice ao t.length ca] 22 (0, 0))).alloc (.cells #[.slice none 0 0] 55 (0, 0))).alloc (.cells #[.int .i64 0] 3 (0, 0)) := ⟨_, rfl⟩
  obtain ⟨tb, htb⟩ : ∃ b, b = w.heap.size := ⟨_, rfl⟩
  obtain ⟨ob, hob⟩ : ∃ b, b = tb + 1 := ⟨_, rfl⟩
  obtain ⟨fb, hfb⟩ : ∃ b, b = ob + 1 := ⟨_, rfl⟩
  have H1 : Sat w1 (RSt w fb ob tb 0 none 0 [] (.slice ao t.length ca)) := by
    have h1 := ((((Sat.start w).alloc (.cells #[.slice ao t.length ca] 22 (0, 0))).alloc (.cells #[.slice none 0 0] 55 (0, 0))).alloc (.cells #[.int .i64 0] 3 (0, 0))).nil_arr 60 2
    rw [← hw1, World.size_alloc, World.size_alloc, ← htb, ← hob, ← hfb] at h1
    exact h1.perm (by unfold RSt; rfl)
  have R1 : Ran w w1 := by rw [hw1]; exact Ran.new (Ran.new (Ran.new (Below.refl 0 w) _) _) _
  have H1 := Lib.hid H1
  clear h hm
  go_enter Tryd.func31, Tryd.ntmps31
  go_upto_region 4 with fail
  rw [← hw1, ← htb, ← hob, ← hfb]
  obtain ⟨f0, o0, c0, k0, r0⟩ := rst_at H1.out
  clear hw1 htb hob hfb f0 o0 k0 r0
  go_wp2_with fail
  go_loopg [6, 7, 11] (t.length) (fun (g : Nat) (_ _ kv : Value) (wr : World) => RunRel w t fb ob tb (.slice ao t.length ca) w g kv wr)
  case atStart => exact ⟨0, 0, none, 0, [], by omega, rfl, Nat.le_refl _, fun j _ _ _ h => absurd h (Nat.not_lt_zero _), by rw [List.drop_zero]; rfl, H1.out, R1⟩
  case round =>
    clear H1 c0 R1
    obtain ⟨i, fr, p, cap, R, hig, rfl, hfi, hki, hrun, HS, HR⟩ := hrel
    have hm := Hm.out
    have hi0 : (0 : Int) ≤ (i : Int) := by omega
    have hf0 : (0 : Int) ≤ (fr : Int) := by omega
    have hRl : R.length ≤ 100000 := by
      have h1 := run_len t
      rw [hrun, List.length_append] at h1
      omega
    obtain ⟨f0, o0, c0, k0, r0⟩ := rst_at HS
    by_cases hi : i < t.length
    · have hil : (i : Int) < (t.length : Int) := by omega
      have hfl : fr < t.length := by omega
      have hfl2 : (fr : Int) < (t.length : Int) := by omega
      have hCr := H.out.keep k0
      obtain ⟨cb, co, rfl, hcb, x0, x1⟩ := hCr.2.2 i hi
      obtain ⟨cb2, co2, e2, hcb2, y0, y1⟩ := hCr.2.2 fr hfl
      obtain ⟨e3, e4⟩ : cb2 = cb ∧ co2 = co := by simpa using e2.symm
      rw [e3, e4] at y1
      clear e2 hcb2 e3 e4 y0
      have Hms := Lib.hid (show gk - 1 < gk by omega)
      have HSA := HS.old (.cells #[.int .u8 t[i].b.toNat, .bool t[i].q] 37 (0, 0))
      have RA := Ran.new HR (.cells #[.int .u8 t[i].b.toNat, .bool t[i].q] 37 (0, 0))
      have kA := kept_alloc wr (.cells #[.int .u8 t[i].b.toNat, .bool t[i].q] 37 (0, 0))
      have z1 : (wr.alloc (.cells #[.int .u8 t[i].b.toNat, .bool t[i].q] 37 (0, 0))).cell? ⟨wr.heap.size, 1, none⟩ = some (.bool t[i].q) := by rw [cell_at (heap_alloc_new _ _)]; rfl
      have yA := (kA.cell hcb (co + fr * 2 + 1)).trans y1
      obtain ⟨fA, oA, cA, _, _⟩ := rst_at HSA
      rcases Bool.eq_false_or_eq_true t[i].q with hqx | hqx
      · rcases Bool.eq_false_or_eq_true t[fr].q with hqf | hqf
        · have hsame : t[i].q = t[fr].q := hqx.trans hqf.symm
          have hnx := Lib.hid (fun (w9 : World) (p9 : Option Addr) (c9 : Nat) (S9 : Sat w9 (RSt w fb ob tb fr p9 c9 R (.slice (some ⟨cb, co, none⟩) t.length ca))) (R9 : Ran w w9) => (show RunRel w t fb ob tb (.slice (some ⟨cb, co, none⟩) t.length ca) w (gk - 1) (.int .i64 ((i : Int) + 1)) w9 from ⟨i + 1, fr, p9, c9, R, by omega, rfl, by omega, fun j h3 h4 h5 h6 => by
              rcases Nat.lt_or_ge j i with h7 | h7
              · exact hki j h3 h4 h5 h7
              · obtain rfl : j = i := by omega
                exact hsame, hrun, S9, R9⟩))
          rw [hqx] at x1 HSA RA z1 fA oA cA yA kA
          rw [hqf] at y1 yA
          obtain ⟨xb, hxb⟩ : ∃ x, x = t[i].b := ⟨_, rfl⟩
          rw [← hxb] at x0 HSA RA z1 fA oA cA yA kA
          have Hrel := Lib.hid (hnx.out _ _ _ HSA.drew (Below.drew RA))
          clear hnx HS HR hsame hqx hqf hxb hki hrun hfi hig hCr hcb HSA RA kA k0 r0
          go_wp2_with fail
          refine Go.Proofs.YtlpfcnpdecoblaaDoor.region_plan (S := (fun w' => (w'.cell? ⟨wr.heap.size, 1, none⟩ = some (.bool true) ∧ w'.cell? ⟨tb, 0, none⟩ = some (.slice (some ⟨cb, co, none⟩) t.length ca)) ∧ w'.cell? ⟨fb, 0, none⟩ = some (.int .i64 (fr : Int)) ∧ w'.cell? ⟨cb, co + fr * 2 + 1, none⟩ = some (.bool true))) [(0, true), (1, true), (2, true), (3, true), (4, true), (5, true), (6, true), (7, true)] (by kernel_rfl) (by kernel_rfl) (by kernel_rfl) ?_ ?_
          · ((try dsimp only); (first | done | (exact ⟨⟨z1, cA⟩, fA, yA⟩)))
          simp only [Go.Proofs.YtlpfcnpdecoblaaDoor.planOps, List.map_cons, List.map_nil, List.getElem?_toArray, List.getElem?_cons_zero, List.getElem?_cons_succ]
          repeat (first
            | ((refine Go.Proofs.YtlpfcnpdecoblaaDoor.plan_yes (v := ?_) (by rfl) ?_ ?_); rotate_left; (focus (intro w hSw; (try dsimp only at hSw); go_simp; try (with_reducible rfl))); (try simp only [Act.put, List.setIfInBounds_toArray, List.set_cons_zero, List.set_cons_succ]))
            | ((refine Go.Proofs.YtlpfcnpdecoblaaDoor.plan_no (by rfl) ?_); (try simp only [Act.put, List.setIfInBounds_toArray, List.set_cons_zero, List.set_cons_succ]))
            | ((refine Go.Proofs.YtlpfcnpdecoblaaDoor.plan_step (fun K hK => ?_)); (first | (fail) | (go_simp; (fail); (try go_wp2_with fail)) | go_simp); (refine hK.out _ _ ?_ (fun hHeld => ?_)); (focus ((try dsimp only); (first | done | (exact ⟨⟨z1, cA⟩, fA, yA⟩)))); clear hK K; (try simp only [Act.put, List.setIfInBounds_toArray, List.set_cons_zero, List.set_cons_succ])))
          refine Go.Proofs.YtlpfcnpdecoblaaDoor.plan_done ?_
          go_wp2_with fail
          go_roundg (gk - 1)
          case measure => exact Hms.out
          case rel => exact Hrel.out
        · have hcut := cut_eq t fr i hfi (Nat.le_of_lt hi) hki (fun _ _ _ e => by rw [hqx, hqf] at e; cases e)
          rw [hcut, ← List.append_assoc] at hrun
          have hends := Lib.hid (fun (w9 : World) (S9 : Sat w9 (RSt w fb ob tb fr p cap R (.slice (some ⟨cb, co, none⟩) t.length ca))) => ends_calls w t _ ca H.out hm fb ob tb fr i p cap R w9 hfi (Nat.le_of_lt hi) hRl S9)
          have hnx := Lib.hid (fun (w9 : World) (E9 : ∃ p' cap', Sat w9 (RSt w fb ob tb i p' cap' (R ++ cutR t fr i) (.slice (some ⟨cb, co, none⟩) t.length ca))) (R9 : Ran w w9) => (show RunRel w t fb ob tb (.slice (some ⟨cb, co, none⟩) t.length ca) w (gk - 1) (.int .i64 ((i : Int) + 1)) w9 from by
              obtain ⟨p9, c9, S9⟩ := E9
              exact ⟨i + 1, i, p9, c9, _, by omega, rfl, by omega, fun j h3 h4 h5 h6 => by
                obtain rfl : j = i := by omega
                rfl, hrun, S9, R9⟩))
          rw [hqx] at x1 HSA RA z1 fA oA cA yA kA
          rw [hqf] at y1 yA
          obtain ⟨xb, hxb⟩ : ∃ x, x = t[i].b := ⟨_, rfl⟩
          rw [← hxb] at x0 HSA RA z1 fA oA cA yA kA
          have HSd := Lib.hid HSA.drew
          have Rd := Lib.hid (Below.drew RA)
          clear HS HR hqx hqf hxb hki hrun hfi hig hCr hcb HSA RA kA k0 r0 hcut
          go_wp2_with fail
          refine Go.Proofs.YtlpfcnpdecoblaaDoor.region_plan (S := (fun w' => (w'.cell? ⟨wr.heap.size, 1, none⟩ = some (.bool true) ∧ w'.cell? ⟨tb, 0, none⟩ = some (.slice (some ⟨cb, co, none⟩) t.length ca)) ∧ w'.cell? ⟨fb, 0, none⟩ = some (.int .i64 (fr : Int)) ∧ w'.cell? ⟨cb, co + fr * 2 + 1, none⟩ = some (.bool false))) [(0, true), (1, true), (2, true), (3, true), (4, true), (5, true), (6, true), (7, true)] (by kernel_rfl) (by kernel_rfl) (by kernel_rfl) ?_ ?_
          · ((try dsimp only); (first | done | (exact ⟨⟨z1, cA⟩, fA, yA⟩)))
          simp only [Go.Proofs.YtlpfcnpdecoblaaDoor.planOps, List.map_cons, List.map_nil, List.getElem?_toArray, List.getElem?_cons_zero, List.getElem?_cons_succ]
          repeat (first
            | ((refine Go.Proofs.YtlpfcnpdecoblaaDoor.plan_yes (v := ?_) (by rfl) ?_ ?_); rotate_left; (focus (intro w hSw; (try dsimp only at hSw); go_simp; try (with_reducible rfl))); (try simp only [Act.put, List.setIfInBounds_toArray, List.set_cons_zero, List.set_cons_succ]))
            | ((refine Go.Proofs.YtlpfcnpdecoblaaDoor.plan_no (by rfl) ?_); (try simp only [Act.put, List.setIfInBounds_toArray, List.set_cons_zero, List.set_cons_succ]))
            | ((refine Go.Proofs.YtlpfcnpdecoblaaDoor.plan_step (fun K hK => ?_)); (first | (fail) | (go_simp; (fail); (try go_wp2_with fail)) | go_simp); (refine hK.out _ _ ?_ (fun hHeld => ?_)); (focus ((try dsimp only); (first | done | (exact ⟨⟨z1, cA⟩, fA, yA⟩)))); clear hK K; (try simp only [Act.put, List.setIfInBounds_toArray, List.set_cons_zero, List.set_cons_succ])))
          refine Go.Proofs.YtlpfcnpdecoblaaDoor.plan_done ?_
          go_wp2_with fail
          refine (hends.out _ HSd.out).mono ?_
          rintro e w9 ⟨⟨v, rfl⟩, E9, R9⟩
          have Hrel := Lib.hid (hnx.out w9 E9 (Below.trans Rd.out R9))
          clear E9 R9 hnx hends HSd Rd
          go_wp2_with fail
          go_roundg (gk - 1)
          case measure => exact Hms.out
          case rel => exact Hrel.out
      · rcases Bool.eq_false_or_eq_true t[fr].q with hqf | hqf
        · have hcut := cut_eq t fr i hfi (Nat.le_of_lt hi) hki (fun _ _ _ e => by rw [hqx, hqf] at e; cases e)
          rw [hcut, ← List.append_assoc] at hrun
          have hends := Lib.hid (fun (w9 : World) (S9 : Sat w9 (RSt w fb ob tb fr p cap R (.slice (some ⟨cb, co, none⟩) t.length ca))) => ends_calls w t _ ca H.out hm fb ob tb fr i p cap R w9 hfi (Nat.le_of_lt hi) hRl S9)
          have hnx := Lib.hid (fun (w9 : World) (E9 : ∃ p' cap', Sat w9 (RSt w fb ob tb i p' cap' (R ++ cutR t fr i) (.slice (some ⟨cb, co, none⟩) t.length ca))) (R9 : Ran w w9) => (show RunRel w t fb ob tb (.slice (some ⟨cb, co, none⟩) t.length ca) w (gk - 1) (.int .i64 ((i : Int) + 1)) w9 from by
              obtain ⟨p9, c9, S9⟩ := E9
              exact ⟨i + 1, i, p9, c9, _, by omega, rfl, by omega, fun j h3 h4 h5 h6 => by
                obtain rfl : j = i := by omega
                rfl, hrun, S9, R9⟩))
          rw [hqx] at x1 HSA RA z1 fA oA cA yA kA
          rw [hqf] at y1 yA
          obtain ⟨xb, hxb⟩ : ∃ x, x = t[i].b := ⟨_, rfl⟩
          rw [← hxb] at x0 HSA RA z1 fA oA cA yA kA
          have HSd := Lib.hid HSA.drew
          have Rd := Lib.hid (Below.drew RA)
          clear HS HR hqx hqf hxb hki hrun hfi hig hCr hcb HSA RA kA k0 r0 hcut
          go_wp2_with fail
          refine Go.Proofs.YtlpfcnpdecoblaaDoor.region_plan (S := (fun w' => (w'.cell? ⟨wr.heap.size, 1, none⟩ = some (.bool false) ∧ w'.cell? ⟨tb, 0, none⟩ = some (.slice (some ⟨cb, co, none⟩) t.length ca)) ∧ w'.cell? ⟨fb, 0, none⟩ = some (.int .i64 (fr : Int)) ∧ w'.cell? ⟨cb, co + fr * 2 + 1, none⟩ = some (.bool true))) [(0, true), (1, true), (2, true), (3, true), (4, true), (5, true), (6, true), (7, true)] (by kernel_rfl) (by kernel_rfl) (by kernel_rfl) ?_ ?_
          · ((try dsimp only); (first | done | (exact ⟨⟨z1, cA⟩, fA, yA⟩)))
          simp only [Go.Proofs.YtlpfcnpdecoblaaDoor.planOps, List.map_cons, List.map_nil, List.getElem?_toArray, List.getElem?_cons_zero, List.getElem?_cons_succ]
          repeat (first
            | ((refine Go.Proofs.YtlpfcnpdecoblaaDoor.plan_yes (v := ?_) (by rfl) ?_ ?_); rotate_left; (focus (intro w hSw; (try dsimp only at hSw); go_simp; try (with_reducible rfl))); (try simp only [Act.put, List.setIfInBounds_toArray, List.set_cons_zero, List.set_cons_succ]))
            | ((refine Go.Proofs.YtlpfcnpdecoblaaDoor.plan_no (by rfl) ?_); (try simp only [Act.put, List.setIfInBounds_toArray, List.set_cons_zero, List.set_cons_succ]))
            | ((refine Go.Proofs.YtlpfcnpdecoblaaDoor.plan_step (fun K hK => ?_)); (first | (fail) | (go_simp; (fail); (try go_wp2_with fail)) | go_simp); (refine hK.out _ _ ?_ (fun hHeld => ?_)); (focus ((try dsimp only); (first | done | (exact ⟨⟨z1, cA⟩, fA, yA⟩)))); clear hK K; (try simp only [Act.put, List.setIfInBounds_toArray, List.set_cons_zero, List.set_cons_succ])))
          refine Go.Proofs.YtlpfcnpdecoblaaDoor.plan_done ?_
          go_wp2_with fail
          refine (hends.out _ HSd.out).mono ?_
          rintro e w9 ⟨⟨v, rfl⟩, E9, R9⟩
          have Hrel := Lib.hid (hnx.out w9 E9 (Below.trans Rd.out R9))
          clear E9 R9 hnx hends HSd Rd
          go_wp2_with fail
          go_roundg (gk - 1)
          case measure => exact Hms.out
          case rel => exact Hrel.out
        · have hsame : t[i].q = t[fr].q := hqx.trans hqf.symm
          have hnx := Lib.hid (fun (w9 : World) (p9 : Option Addr) (c9 : Nat) (S9 : Sat w9 (RSt w fb ob tb fr p9 c9 R (.slice (some ⟨cb, co, none⟩) t.length ca))) (R9 : Ran w w9) => (show RunRel w t fb ob tb (.slice (some ⟨cb, co, none⟩) t.length ca) w (gk - 1) (.int .i64 ((i : Int) + 1)) w9 from ⟨i + 1, fr, p9, c9, R, by omega, rfl, by omega, fun j h3 h4 h5 h6 => by
              rcases Nat.lt_or_ge j i with h7 | h7
              · exact hki j h3 h4 h5 h7
              · obtain rfl : j = i := by omega
                exact hsame, hrun, S9, R9⟩))
          rw [hqx] at x1 HSA RA z1 fA oA cA yA kA
          rw [hqf] at y1 yA
          obtain ⟨xb, hxb⟩ : ∃ x, x = t[i].b := ⟨_, rfl⟩
          rw [← hxb] at x0 HSA RA z1 fA oA cA yA kA
          have Hrel := Lib.hid (hnx.out _ _ _ HSA.drew (Below.drew RA))
          clear hnx HS HR hsame hqx hqf hxb hki hrun hfi hig hCr hcb HSA RA kA k0 r0
          go_wp2_with fail
          refine Go.Proofs.YtlpfcnpdecoblaaDoor.region_plan (S := (fun w' => (w'.cell? ⟨wr.heap.size, 1, none⟩ = some (.bool false) ∧ w'.cell? ⟨tb, 0, none⟩ = some (.slice (some ⟨cb, co, none⟩) t.length ca)) ∧ w'.cell? ⟨fb, 0, none⟩ = some (.int .i64 (fr : Int)) ∧ w'.cell? ⟨cb, co + fr * 2 + 1, none⟩ = some (.bool false))) [(0, true), (1, true), (2, true), (3, true), (4, true), (5, true), (6, true), (7, true)] (by kernel_rfl) (by kernel_rfl) (by kernel_rfl) ?_ ?_
          · ((try dsimp only); (first | done | (exact ⟨⟨z1, cA⟩, fA, yA⟩)))
          simp only [Go.Proofs.YtlpfcnpdecoblaaDoor.planOps, List.map_cons, List.map_nil, List.getElem?_toArray, List.getElem?_cons_zero, List.getElem?_cons_succ]
          repeat (first
            | ((refine Go.Proofs.YtlpfcnpdecoblaaDoor.plan_yes (v := ?_) (by rfl) ?_ ?_); rotate_left; (focus (intro w hSw; (try dsimp only at hSw); go_simp; try (with_reducible rfl))); (try simp only [Act.put, List.setIfInBounds_toArray, List.set_cons_zero, List.set_cons_succ]))
            | ((refine Go.Proofs.YtlpfcnpdecoblaaDoor.plan_no (by rfl) ?_); (try simp only [Act.put, List.setIfInBounds_toArray, List.set_cons_zero, List.set_cons_succ]))
            | ((refine Go.Proofs.YtlpfcnpdecoblaaDoor.plan_step (fun K hK => ?_)); (first | (fail) | (go_simp; (fail); (try go_wp2_with fail)) | go_simp); (refine hK.out _ _ ?_ (fun hHeld => ?_)); (focus ((try dsimp only); (first | done | (exact ⟨⟨z1, cA⟩, fA, yA⟩)))); clear hK K; (try simp only [Act.put, List.setIfInBounds_toArray, List.set_cons_zero, List.set_cons_succ])))
          refine Go.Proofs.YtlpfcnpdecoblaaDoor.plan_done ?_
          go_wp2_with fail
          go_roundg (gk - 1)
          case measure => exact Hms.out
          case rel => exact Hrel.out
    · have hie : i = t.length := by omega
      subst hie
      have hge : ¬ ((t.length : Int) < (t.length : Int)) := by omega
      have hcut := cut_eq t fr t.length hfi (Nat.le_refl _) hki (fun h3 => absurd h3 (Nat.lt_irrefl _))
      rw [hcut, List.drop_length] at hrun
      have hfin : runL t = R ++ cutR t fr t.length := by rw [hrun]; show R ++ (cutR t fr t.length ++ []) = _; rw [List.append_nil]
      have hends := Lib.hid (ends_calls w t ao ca H.out hm fb ob tb fr t.length p cap R wr hfi (Nat.le_refl _) hRl HS)
      rw [← hfin] at hends
      have HR := Lib.hid HR
      obtain ⟨L, hL⟩ : ∃ L, L = runL t := ⟨_, rfl⟩
      rw [← hL] at hends
      have HL := Lib.hid hL
      clear HS hcut hrun hfin hki hfi hig k0 r0 hRl hi hL f0 o0
      go_wp2_with fail
      refine hends.out.mono ?_
      rintro e w9 ⟨⟨v, rfl⟩, ⟨p9, c9, S9⟩, R9⟩
      have Rw9 := Lib.hid (Ran.whole' (Below.trans HR.out R9) (by unfold RSt at S9; exact S9.right.right.right.right))
      obtain ⟨f9, o9, c9', k9, r9⟩ := rst_at S9
      have R9' := Lib.hid r9
      clear S9 R9 k9 r9 hends c0 c9' f9
      go_wp2_with fail
      go_ret
      exact ⟨p9, c9, by rw [← HL.out]; rfl, by rw [← HL.out]; exact R9'.out, Rw9.out⟩
end Go.Proofs.YtlpfcnpdecoblaaDoor.Marks
