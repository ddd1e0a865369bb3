/- The document's Runs walked. -/
import Derived.Test.YtlpfcnpdecoblaaDoorMkU
import Derived.Test.YtlpfcnpdecoblaaDoorMkV
namespace Go.Proofs.YtlpfcnpdecoblaaDoor.Marks
open Go.RowKit Go.Proofs.YtlpfcnpdecoblaaDoor Go.Proofs.YtlpfcnpdecoblaaDoor.Hp
set_option linter.unusedVariables false
attribute [local go_sem] Oper.semAt_some

abbrev rrnA (p : Option Addr) (cap : Nat) (R : List (List UInt8 × Bool)) : Hp := arr 61 2 p R.length cap (runCells R)
def RsRel (t : List Ch) (w : World) (g : Nat) (ov iv : Value) (wr : World) : Prop :=
  ∃ (i : Nat) (p : Option Addr) (cap : Nat) (R : List (List UInt8 × Bool)), i + g = t.length ∧ iv = .int .i64 (i : Int) ∧ ov = .slice p R.length cap ∧ runL t = R ++ runL (t.drop i) ∧ Sat wr (rrnA p cap R * keep w) ∧ Ran w wr
def KsRel (t : List Ch) (i : Nat) (w : World) (P : Hp) (g : Nat) (kv : Value) (wr : World) : Prop :=
  ∃ k : Nat, k + g = t.length ∧ kv = .int .i64 (k : Int) ∧ i ≤ k ∧ kindFrom t i k ∧ Sat wr P ∧ Ran w wr
set_option maxRecDepth 100000 in
set_option maxHeartbeats 8000000 in
theorem rruns_calls (t : List Ch) (ao : Option Addr) (ca : Nat) (w : World) (h : CharsAt w ao ca t) (hm : t.length ≤ 100000) :
    Calls Tryd.prog 32 #[.slice ao t.length ca] w (RunsPost (runL t) w) := by
  have hmm : (t.length : Int) ≤ 100000 := by omega
  have Hm := Lib.hid hm
  have hcap := h.1
  have H := Lib.hid h
  clear h hm
  go_enter Tryd.func32, Tryd.ntmps32
  go_wp2_with fail
  go_loopg [3, 4, 5] (t.length) (fun (g : Nat) (ov iv _ : Value) (wr : World) => RsRel t w g ov iv wr)
  case atStart => exact ⟨0, none, 0, [], by omega, rfl, rfl, by rw [List.drop_zero]; rfl, by show Sat w (arr 61 2 none 0 0 [] * keep w); exact (Sat.start w).nil_arr _ _, Below.refl 0 w⟩
  case round =>
    obtain ⟨i, p, cap, R, hig, rfl, rfl, hrun, HS, HR⟩ := hrel
    have hm := Hm.out
    have hi0 : (0 : Int) ≤ i := by omega
    have hRl : R.length ≤ 1000000000 := by
      have h1 := run_len t
      rw [hrun, List.length_append] at h1
      omega
    by_cases hi : i < t.length
    · have hil : (i : Int) < (t.length : Int) := by omega
      have h2 := Lib.hid (show KsRel t i w (rrnA p cap R * keep w) (t.length - i) (.int .i64 (i : Int)) wr from ⟨i, by omega, rfl, Nat.le_refl _, fun j _ _ h5 h6 => absurd h5 (by omega), HS, HR⟩)
      obtain ⟨cb, co, rfl, hcb, _, y1⟩ := H.out.2.2 i hi
      have Hy1 := Lib.hid y1
      have Hmo := Lib.hid (fun (x : Nat) (h1 : i < x) (h2 : x ≤ t.length) => (show t.length - x < gk by omega))
      obtain ⟨n, hn⟩ : ∃ n, n = R.length := ⟨_, rfl⟩
      have Hn := Lib.hid hn
      rw [← hn] at hRl
      rw [← hn]
      have Hrun := Lib.hid hrun
      have Hig := Lib.hid hig
      clear HS HR hrun y1 hig hn
      go_wp2_with fail
      go_loopg [5] (t.length - i) (fun (g : Nat) (kv : Value) (w9 : World) => KsRel t i w (rrnA p cap R * keep w) g kv w9)
      case atStart => exact h2.out
      case round =>
        clear h2
        obtain ⟨k, hkg, rfl, hik, hki, HS, HR⟩ := hrel
        have hk0 : (0 : Int) ≤ (k : Int) := by omega
        have hK := kept_of HS
        have y1 := (hK.cell hcb _).trans Hy1.out
        by_cases hk : k < t.length
        · have hkl : (k : Int) < (t.length : Int) := by omega
          obtain ⟨cb2, co2, e2, hcb2, x0, x1⟩ := (H.out.keep hK).2.2 k hk
          obtain ⟨e3, e4⟩ : cb2 = cb ∧ co2 = co := by simpa using e2.symm
          rw [e3, e4] at x1
          clear e2 hcb2 e3 e4 x0
          have Hms := Lib.hid (show gk - 1 < gk by omega)
          rcases Bool.eq_false_or_eq_true t[k].q with hqx | hqx
          · rcases Bool.eq_false_or_eq_true t[i].q with hqf | hqf
            · have Hrel := Lib.hid (show KsRel t i w (rrnA p cap R * keep w) (gk - 1) (.int .i64 ((k : Int) + 1)) wr.drew from ⟨k + 1, by omega, rfl, by omega, fun j h3 h4 h5 h6 => by
                  rcases Nat.lt_or_ge j k with h7 | h7
                  · exact hki j h3 h4 h5 h7
                  · obtain rfl : j = k := by omega
                    exact hqx.trans hqf.symm, HS.drew, Below.drew HR⟩)
              rw [hqx] at x1
              rw [hqf] at y1
              clear hqx hqf HS HR hki hkg hik hK
              go_wp2_with fail
              refine Go.Proofs.YtlpfcnpdecoblaaDoor.region_plan (S := (fun w' => w'.cell? ⟨cb, co + k * 2 + 1, none⟩ = some (.bool true) ∧ w'.cell? ⟨cb, co + i * 2 + 1, none⟩ = some (.bool true))) [(0, true), (1, true), (2, true), (3, true), (4, true), (5, true), (6, true), (7, true), (8, true), (9, true), (10, true), (11, true), (12, true), (13, true), (14, true), (15, true), (16, true)] (by kernel_rfl) (by kernel_rfl) (by kernel_rfl) ?_ ?_
              · ((try dsimp only); (first | done | (exact ⟨x1, y1⟩)))
              simp only [Go.Proofs.YtlpfcnpdecoblaaDoor.planOps, List.map_cons, List.map_nil, List.getElem?_toArray, List.getElem?_cons_zero, List.getElem?_cons_succ]
              repeat (first
                | ((refine Go.Proofs.YtlpfcnpdecoblaaDoor.plan_yes (v := ?_) (by rfl) ?_ ?_); rotate_left; (focus (intro w hSw; (try dsimp only at hSw); go_simp; try (with_reducible rfl))); (try simp only [Act.put, List.setIfInBounds_toArray, List.set_cons_zero, List.set_cons_succ]))
                | ((refine Go.Proofs.YtlpfcnpdecoblaaDoor.plan_no (by rfl) ?_); (try simp only [Act.put, List.setIfInBounds_toArray, List.set_cons_zero, List.set_cons_succ]))
                | ((refine Go.Proofs.YtlpfcnpdecoblaaDoor.plan_step (fun K hK => ?_)); (first | (fail) | (go_simp; (fail); (try go_wp2_with fail)) | go_simp); (refine hK.out _ _ ?_ (fun hHeld => ?_)); (focus ((try dsimp only); (first | done | (exact ⟨x1, y1⟩)))); clear hK K; (try simp only [Act.put, List.setIfInBounds_toArray, List.set_cons_zero, List.set_cons_succ])))
              refine Go.Proofs.YtlpfcnpdecoblaaDoor.plan_done ?_
              go_wp2_with fail
              go_roundg (gk - 1)
              case measure => exact Hms.out
              case rel => exact Hrel.out
            · have hnext := cut_eq t i k hik (Nat.le_of_lt hk) hki (fun _ _ _ e => by rw [hqx, hqf] at e; cases e)
              have hkgt : i < k := by
                rcases Nat.lt_or_ge i k with h | h
                · exact h
                · exfalso
                  obtain rfl : i = k := by omega
                  rw [hqx] at hqf; cases hqf
              have hcutS := cutR_some t i k hkgt hi
              rw [hcutS] at hnext
              have hlen : ((t.drop i).take (k - i)).length = k - i := by rw [List.length_take, List.length_drop]; omega
              have hrunk : runL t = (R ++ [(((t.drop i).take (k - i)).map (·.b), t[i].q)]) ++ runL (t.drop k) := by rw [Hrun.out, hnext, List.append_assoc]
              have hpl := fun (w' : World) (kk : Kept w w') => rplain_calls ((t.drop i).take (k - i)) _ _ w' (((H.out.keep kk).tail i (by omega)).take (k - i)) (by rw [hlen]; omega)
              rw [hlen] at hpl
              unfold PlainPost at hpl
              have hsl := fun W => rslice_mid (some ⟨cb, co, none⟩) t.length ca i k (by omega) (Nat.le_trans (Nat.le_of_lt hk) hcap) W
              obtain ⟨u, hu⟩ : ∃ u, u = ((t.drop i).take (k - i)).map (·.b) := ⟨_, rfl⟩
              rw [← hu] at hpl hrunk
              obtain ⟨sx, hsx⟩ : ∃ s, s = (⟨u.toArray⟩ : ByteArray) := ⟨_, rfl⟩
              rw [← hsx] at hpl
              have hpl := Lib.hid hpl
              have hnx := Lib.hid (fun (w9 : World) (p' : Option Addr) (cap' : Nat) (T9 : Sat w9 (arr 61 2 p' (n + 1) cap' (runCells R ++ [.string sx, .bool t[i].q]) * keep w)) (R9 : Ran w w9) => (show RsRel t w (t.length - k) (.slice p' (n + 1) cap') (.int .i64 (k : Int)) w9 from by
                  have e1 : (R ++ [(u, t[i].q)]).length = n + 1 := by rw [List.length_append, Hn.out]; rfl
                  refine ⟨k, p', cap', _, by omega, rfl, by rw [e1], hrunk, ?_, R9⟩
                  unfold rrnA
                  rw [e1, runCells_snoc]
                  dsimp only
                  rw [← hsx]
                  exact T9))
              have Hms2 := Lib.hid (Hmo.out k hkgt (Nat.le_of_lt hk))
              have HSd := Lib.hid (show Sat wr.drew (arr 61 2 p n cap (runCells R) * keep w) by rw [Hn.out]; exact HS.drew)
              have Rd := Lib.hid (Below.drew HR)
              have HY := Lib.hid (fun (w' : World) (kk : Kept w w') => (kk.cell hcb _).trans Hy1.out)
              rw [hqx] at x1
              rw [hqf] at y1 hnx HY
              clear hqx hqf
              obtain ⟨xs, hxs⟩ : ∃ xs, xs = runCells R := ⟨_, rfl⟩
              rw [← hxs] at hnx HSd
              clear hnext hcutS hlen hrunk hu hsx hxs HS HR hki hkg hik hK hkgt
              go_wp2_with fail
              refine Go.Proofs.YtlpfcnpdecoblaaDoor.region_plan (S := (fun w' => w'.cell? ⟨cb, co + k * 2 + 1, none⟩ = some (.bool true) ∧ w'.cell? ⟨cb, co + i * 2 + 1, none⟩ = some (.bool false))) [(0, true), (1, true), (2, true), (3, true), (4, true), (5, true), (6, true), (7, true), (8, true), (9, true), (10, true), (11, true), (12, true), (13, true), (14, true), (15, true), (16, true)] (by kernel_rfl) (by kernel_rfl) (by kernel_rfl) ?_ ?_
              · ((try dsimp only); (first | done | (exact ⟨x1, y1⟩)))
              simp only [Go.Proofs.YtlpfcnpdecoblaaDoor.planOps, List.map_cons, List.map_nil, List.getElem?_toArray, List.getElem?_cons_zero, List.getElem?_cons_succ]
              repeat (first
                | ((refine Go.Proofs.YtlpfcnpdecoblaaDoor.plan_yes (v := ?_) (by rfl) ?_ ?_); rotate_left; (focus (intro w hSw; (try dsimp only at hSw); go_simp; try (with_reducible rfl))); (try simp only [Act.put, List.setIfInBounds_toArray, List.set_cons_zero, List.set_cons_succ]))
                | ((refine Go.Proofs.YtlpfcnpdecoblaaDoor.plan_no (by rfl) ?_); (try simp only [Act.put, List.setIfInBounds_toArray, List.set_cons_zero, List.set_cons_succ]))
                | ((refine Go.Proofs.YtlpfcnpdecoblaaDoor.plan_step (fun K hK => ?_)); (first | (fail) | (go_simp; (fail); (try go_wp2_with fail)) | go_simp); (refine hK.out _ _ ?_ (fun hHeld => ?_)); (focus ((try dsimp only); (first | done | (exact ⟨x1, y1⟩)))); clear hK K; (try simp only [Act.put, List.setIfInBounds_toArray, List.set_cons_zero, List.set_cons_succ])))
              refine Go.Proofs.YtlpfcnpdecoblaaDoor.plan_done ?_
              go_wp2_with fail
              refine Go.Proofs.YtlpfcnpdecoblaaDoor.region_plan (S := (fun w' => w'.cell? ⟨cb, co + i * 2 + 1, none⟩ = some (.bool false))) [(0, true), (1, true), (2, true), (3, true), (4, true), (6, true), (7, true), (8, true), (9, true), (10, true), (5, false), (11, true), (12, false), (13, false), (14, true)] (by kernel_rfl) (by kernel_rfl) (by kernel_rfl) ?_ ?_
              · ((try dsimp only); (first | done | (first | exact HY.out _ (kept_of T6) | exact HY.out _ (kept_of (H3.out.old _)) | exact HY.out _ (kept_of H3.out) | exact HY.out _ (kept_of HSd.out.drew))))
              simp only [Go.Proofs.YtlpfcnpdecoblaaDoor.planOps, List.map_cons, List.map_nil, List.getElem?_toArray, List.getElem?_cons_zero, List.getElem?_cons_succ]
              repeat (first
                | ((refine Go.Proofs.YtlpfcnpdecoblaaDoor.plan_yes (v := ?_) (by rfl) ?_ ?_); rotate_left; (focus (intro w hSw; (try dsimp only at hSw); go_simp; try (with_reducible rfl))); (try simp only [Act.put, List.setIfInBounds_toArray, List.set_cons_zero, List.set_cons_succ]))
                | ((refine Go.Proofs.YtlpfcnpdecoblaaDoor.plan_no (by rfl) ?_); (try simp only [Act.put, List.setIfInBounds_toArray, List.set_cons_zero, List.set_cons_succ]))
                | ((refine Go.Proofs.YtlpfcnpdecoblaaDoor.plan_step (fun K hK => ?_)); (first | (first | (go_at_call 33; refine (hpl.out _ (by exact kept_of HSd.out.drew)).mono ?_; rintro e w3 ⟨rfl, b3⟩; have H3 := Lib.hid (HSd.out.drew.below b3); have R3 := Lib.hid (Ran.below (Below.drew Rd.out) b3); clear b3) | (refine stepRrn rfl _ _ rfl p n cap _ rfl _ rfl (H3.out.old _) _ _ (block_new rfl) rfl rfl hRl ?_; intro p' cap' w6 T6 R6)) | (go_simp; (first | (go_at_call 33; refine (hpl.out _ (by exact kept_of HSd.out.drew)).mono ?_; rintro e w3 ⟨rfl, b3⟩; have H3 := Lib.hid (HSd.out.drew.below b3); have R3 := Lib.hid (Ran.below (Below.drew Rd.out) b3); clear b3) | (refine stepRrn rfl _ _ rfl p n cap _ rfl _ rfl (H3.out.old _) _ _ (block_new rfl) rfl rfl hRl ?_; intro p' cap' w6 T6 R6)); (try go_wp2_with fail)) | go_simp); (refine hK.out _ _ ?_ (fun hHeld => ?_)); (focus ((try dsimp only); (first | done | (first | exact HY.out _ (kept_of T6) | exact HY.out _ (kept_of (H3.out.old _)) | exact HY.out _ (kept_of H3.out) | exact HY.out _ (kept_of HSd.out.drew))))); clear hK K; (try simp only [Act.put, List.setIfInBounds_toArray, List.set_cons_zero, List.set_cons_succ])))
              refine Go.Proofs.YtlpfcnpdecoblaaDoor.plan_done ?_
              have Hrel := Lib.hid (hnx.out w6 p' cap' T6 (Below.trans (Ran.new R3.out _) R6))
              clear T6 R6 H3 R3 hnx HSd Rd hpl
              go_wp2_with fail
              go_roundg (t.length - k)
              case measure => exact Hms2.out
              case rel => exact Hrel.out
          · rcases Bool.eq_false_or_eq_true t[i].q with hqf | hqf
            · have hnext := cut_eq t i k hik (Nat.le_of_lt hk) hki (fun _ _ _ e => by rw [hqx, hqf] at e; cases e)
              have hkgt : i < k := by
                rcases Nat.lt_or_ge i k with h | h
                · exact h
                · exfalso
                  obtain rfl : i = k := by omega
                  rw [hqx] at hqf; cases hqf
              have hcutS := cutR_some t i k hkgt hi
              rw [hcutS] at hnext
              have hlen : ((t.drop i).take (k - i)).length = k - i := by rw [List.length_take, List.length_drop]; omega
              have hrunk : runL t = (R ++ [(((t.drop i).take (k - i)).map (·.b), t[i].q)]) ++ runL (t.drop k) := by rw [Hrun.out, hnext, List.append_assoc]
              have hpl := fun (w' : World) (kk : Kept w w') => rplain_calls ((t.drop i).take (k - i)) _ _ w' (((H.out.keep kk).tail i (by omega)).take (k - i)) (by rw [hlen]; omega)
              rw [hlen] at hpl
              unfold PlainPost at hpl
              have hsl := fun W => rslice_mid (some ⟨cb, co, none⟩) t.length ca i k (by omega) (Nat.le_trans (Nat.le_of_lt hk) hcap) W
              obtain ⟨u, hu⟩ : ∃ u, u = ((t.drop i).take (k - i)).map (·.b) := ⟨_, rfl⟩
              rw [← hu] at hpl hrunk
              obtain ⟨sx, hsx⟩ : ∃ s, s = (⟨u.toArray⟩ : ByteArray) := ⟨_, rfl⟩
              rw [← hsx] at hpl
              have hpl := Lib.hid hpl
              have hnx := Lib.hid (fun (w9 : World) (p' : Option Addr) (cap' : Nat) (T9 : Sat w9 (arr 61 2 p' (n + 1) cap' (runCells R ++ [.string sx, .bool t[i].q]) * keep w)) (R9 : Ran w w9) => (show RsRel t w (t.length - k) (.slice p' (n + 1) cap') (.int .i64 (k : Int)) w9 from by
                  have e1 : (R ++ [(u, t[i].q)]).length = n + 1 := by rw [List.length_append, Hn.out]; rfl
                  refine ⟨k, p', cap', _, by omega, rfl, by rw [e1], hrunk, ?_, R9⟩
                  unfold rrnA
                  rw [e1, runCells_snoc]
                  dsimp only
                  rw [← hsx]
                  exact T9))
              have Hms2 := Lib.hid (Hmo.out k hkgt (Nat.le_of_lt hk))
              have HSd := Lib.hid (show Sat wr.drew (arr 61 2 p n cap (runCells R) * keep w) by rw [Hn.out]; exact HS.drew)
              have Rd := Lib.hid (Below.drew HR)
              have HY := Lib.hid (fun (w' : World) (kk : Kept w w') => (kk.cell hcb _).trans Hy1.out)
              rw [hqx] at x1
              rw [hqf] at y1 hnx HY
              clear hqx hqf
              obtain ⟨xs, hxs⟩ : ∃ xs, xs = runCells R := ⟨_, rfl⟩
              rw [← hxs] at hnx HSd
              clear hnext hcutS hlen hrunk hu hsx hxs HS HR hki hkg hik hK hkgt
              go_wp2_with fail
              refine Go.Proofs.YtlpfcnpdecoblaaDoor.region_plan (S := (fun w' => w'.cell? ⟨cb, co + k * 2 + 1, none⟩ = some (.bool false) ∧ w'.cell? ⟨cb, co + i * 2 + 1, none⟩ = some (.bool true))) [(0, true), (1, true), (2, true), (3, true), (4, true), (5, true), (6, true), (7, true), (8, true), (9, true), (10, true), (11, true), (12, true), (13, true), (14, true), (15, true), (16, true)] (by kernel_rfl) (by kernel_rfl) (by kernel_rfl) ?_ ?_
              · ((try dsimp only); (first | done | (exact ⟨x1, y1⟩)))
              simp only [Go.Proofs.YtlpfcnpdecoblaaDoor.planOps, List.map_cons, List.map_nil, List.getElem?_toArray, List.getElem?_cons_zero, List.getElem?_cons_succ]
              repeat (first
                | ((refine Go.Proofs.YtlpfcnpdecoblaaDoor.plan_yes (v := ?_) (by rfl) ?_ ?_); rotate_left; (focus (intro w hSw; (try dsimp only at hSw); go_simp; try (with_reducible rfl))); (try simp only [Act.put, List.setIfInBounds_toArray, List.set_cons_zero, List.set_cons_succ]))
                | ((refine Go.Proofs.YtlpfcnpdecoblaaDoor.plan_no (by rfl) ?_); (try simp only [Act.put, List.setIfInBounds_toArray, List.set_cons_zero, List.set_cons_succ]))
                | ((refine Go.Proofs.YtlpfcnpdecoblaaDoor.plan_step (fun K hK => ?_)); (first | (fail) | (go_simp; (fail); (try go_wp2_with fail)) | go_simp); (refine hK.out _ _ ?_ (fun hHeld => ?_)); (focus ((try dsimp only); (first | done | (exact ⟨x1, y1⟩)))); clear hK K; (try simp only [Act.put, List.setIfInBounds_toArray, List.set_cons_zero, List.set_cons_succ])))
              refine Go.Proofs.YtlpfcnpdecoblaaDoor.plan_done ?_
              go_wp2_with fail
              refine Go.Proofs.YtlpfcnpdecoblaaDoor.region_plan (S := (fun w' => w'.cell? ⟨cb, co + i * 2 + 1, none⟩ = some (.bool true))) [(0, true), (1, true), (2, true), (3, true), (4, true), (6, true), (7, true), (8, true), (9, true), (10, true), (5, false), (11, true), (12, false), (13, false), (14, true)] (by kernel_rfl) (by kernel_rfl) (by kernel_rfl) ?_ ?_
              · ((try dsimp only); (first | done | (first | exact HY.out _ (kept_of T6) | exact HY.out _ (kept_of (H3.out.old _)) | exact HY.out _ (kept_of H3.out) | exact HY.out _ (kept_of HSd.out.drew))))
              simp only [Go.Proofs.YtlpfcnpdecoblaaDoor.planOps, List.map_cons, List.map_nil, List.getElem?_toArray, List.getElem?_cons_zero, List.getElem?_cons_succ]
              repeat (first
                | ((refine Go.Proofs.YtlpfcnpdecoblaaDoor.plan_yes (v := ?_) (by rfl) ?_ ?_); rotate_left; (focus (intro w hSw; (try dsimp only at hSw); go_simp; try (with_reducible rfl))); (try simp only [Act.put, List.setIfInBounds_toArray, List.set_cons_zero, List.set_cons_succ]))
                | ((refine Go.Proofs.YtlpfcnpdecoblaaDoor.plan_no (by rfl) ?_); (try simp only [Act.put, List.setIfInBounds_toArray, List.set_cons_zero, List.set_cons_succ]))
                | ((refine Go.Proofs.YtlpfcnpdecoblaaDoor.plan_step (fun K hK => ?_)); (first | (first | (go_at_call 33; refine (hpl.out _ (by exact kept_of HSd.out.drew)).mono ?_; rintro e w3 ⟨rfl, b3⟩; have H3 := Lib.hid (HSd.out.drew.below b3); have R3 := Lib.hid (Ran.below (Below.drew Rd.out) b3); clear b3) | (refine stepRrn rfl _ _ rfl p n cap _ rfl _ rfl (H3.out.old _) _ _ (block_new rfl) rfl rfl hRl ?_; intro p' cap' w6 T6 R6)) | (go_simp; (first | (go_at_call 33; refine (hpl.out _ (by exact kept_of HSd.out.drew)).mono ?_; rintro e w3 ⟨rfl, b3⟩; have H3 := Lib.hid (HSd.out.drew.below b3); have R3 := Lib.hid (Ran.below (Below.drew Rd.out) b3); clear b3) | (refine stepRrn rfl _ _ rfl p n cap _ rfl _ rfl (H3.out.old _) _ _ (block_new rfl) rfl rfl hRl ?_; intro p' cap' w6 T6 R6)); (try go_wp2_with fail)) | go_simp); (refine hK.out _ _ ?_ (fun hHeld => ?_)); (focus ((try dsimp only); (first | done | (first | exact HY.out _ (kept_of T6) | exact HY.out _ (kept_of (H3.out.old _)) | exact HY.out _ (kept_of H3.out) | exact HY.out _ (kept_of HSd.out.drew))))); clear hK K; (try simp only [Act.put, List.setIfInBounds_toArray, List.set_cons_zero, List.set_cons_succ])))
              refine Go.Proofs.YtlpfcnpdecoblaaDoor.plan_done ?_
              have Hrel := Lib.hid (hnx.out w6 p' cap' T6 (Below.trans (Ran.new R3.out _) R6))
              clear T6 R6 H3 R3 hnx HSd Rd hpl
              go_wp2_with fail
              go_roundg (t.length - k)
              case measure => exact Hms2.out
              case rel => exact Hrel.out
            · have Hrel := Lib.hid (show KsRel t i w (rrnA p cap R * keep w) (gk - 1) (.int .i64 ((k : Int) + 1)) wr.drew from ⟨k + 1, by omega, rfl, by omega, fun j h3 h4 h5 h6 => by
                  rcases Nat.lt_or_ge j k with h7 | h7
                  · exact hki j h3 h4 h5 h7
                  · obtain rfl : j = k := by omega
                    exact hqx.trans hqf.symm, HS.drew, Below.drew HR⟩)
              rw [hqx] at x1
              rw [hqf] at y1
              clear hqx hqf HS HR hki hkg hik hK
              go_wp2_with fail
              refine Go.Proofs.YtlpfcnpdecoblaaDoor.region_plan (S := (fun w' => w'.cell? ⟨cb, co + k * 2 + 1, none⟩ = some (.bool false) ∧ w'.cell? ⟨cb, co + i * 2 + 1, none⟩ = some (.bool false))) [(0, true), (1, true), (2, true), (3, true), (4, true), (5, true), (6, true), (7, true), (8, true), (9, true), (10, true), (11, true), (12, true), (13, true), (14, true), (15, true), (16, true)] (by kernel_rfl) (by kernel_rfl) (by kernel_rfl) ?_ ?_
              · ((try dsimp only); (first | done | (exact ⟨x1, y1⟩)))
              simp only [Go.Proofs.YtlpfcnpdecoblaaDoor.planOps, List.map_cons, List.map_nil, List.getElem?_toArray, List.getElem?_cons_zero, List.getElem?_cons_succ]
              repeat (first
                | ((refine Go.Proofs.YtlpfcnpdecoblaaDoor.plan_yes (v := ?_) (by rfl) ?_ ?_); rotate_left; (focus (intro w hSw; (try dsimp only at hSw); go_simp; try (with_reducible rfl))); (try simp only [Act.put, List.setIfInBounds_toArray, List.set_cons_zero, List.set_cons_succ]))
                | ((refine Go.Proofs.YtlpfcnpdecoblaaDoor.plan_no (by rfl) ?_); (try simp only [Act.put, List.setIfInBounds_toArray, List.set_cons_zero, List.set_cons_succ]))
                | ((refine Go.Proofs.YtlpfcnpdecoblaaDoor.plan_step (fun K hK => ?_)); (first | (fail) | (go_simp; (fail); (try go_wp2_with fail)) | go_simp); (refine hK.out _ _ ?_ (fun hHeld => ?_)); (focus ((try dsimp only); (first | done | (exact ⟨x1, y1⟩)))); clear hK K; (try simp only [Act.put, List.setIfInBounds_toArray, List.set_cons_zero, List.set_cons_succ])))
              refine Go.Proofs.YtlpfcnpdecoblaaDoor.plan_done ?_
              go_wp2_with fail
              go_roundg (gk - 1)
              case measure => exact Hms.out
              case rel => exact Hrel.out
        · have hge : ¬ ((k : Int) < (t.length : Int)) := by omega
          have hke : k = t.length := by omega
          subst hke
          have hnext := cut_eq t i t.length hik (Nat.le_refl _) hki (fun h3 => absurd h3 (Nat.lt_irrefl _))
          have hkgt : i < t.length := hi
          have hcutS := cutR_some t i t.length hkgt hi
          rw [hcutS] at hnext
          have hlen : ((t.drop i).take (t.length - i)).length = t.length - i := by rw [List.length_take, List.length_drop]; omega
          have hrunk : runL t = (R ++ [(((t.drop i).take (t.length - i)).map (·.b), t[i].q)]) ++ runL (t.drop t.length) := by rw [Hrun.out, hnext, List.append_assoc]
          have hpl := fun (w' : World) (kk : Kept w w') => rplain_calls ((t.drop i).take (t.length - i)) _ _ w' (((H.out.keep kk).tail i (by omega)).take (t.length - i)) (by rw [hlen]; omega)
          rw [hlen] at hpl
          unfold PlainPost at hpl
          have hsl := fun W => rslice_mid (some ⟨cb, co, none⟩) t.length ca i t.length (by omega) (Nat.le_trans (Nat.le_refl _) hcap) W
          obtain ⟨u, hu⟩ : ∃ u, u = ((t.drop i).take (t.length - i)).map (·.b) := ⟨_, rfl⟩
          rw [← hu] at hpl hrunk
          obtain ⟨sx, hsx⟩ : ∃ s, s = (⟨u.toArray⟩ : ByteArray) := ⟨_, rfl⟩
          rw [← hsx] at hpl
          have hpl := Lib.hid hpl
          have hnx := Lib.hid (fun (w9 : World) (p' : Option Addr) (cap' : Nat) (T9 : Sat w9 (arr 61 2 p' (n + 1) cap' (runCells R ++ [.string sx, .bool t[i].q]) * keep w)) (R9 : Ran w w9) => (show RsRel t w (t.length - t.length) (.slice p' (n + 1) cap') (.int .i64 (t.length : Int)) w9 from by
              have e1 : (R ++ [(u, t[i].q)]).length = n + 1 := by rw [List.length_append, Hn.out]; rfl
              refine ⟨t.length, p', cap', _, by omega, rfl, by rw [e1], hrunk, ?_, R9⟩
              unfold rrnA
              rw [e1, runCells_snoc]
              dsimp only
              rw [← hsx]
              exact T9))
          have Hms2 := Lib.hid (Hmo.out t.length hkgt (Nat.le_refl _))
          have HSd := Lib.hid (show Sat wr.drew (arr 61 2 p n cap (runCells R) * keep w) by rw [Hn.out]; exact HS.drew)
          have Rd := Lib.hid (Below.drew HR)
          have HY := Lib.hid (fun (w' : World) (kk : Kept w w') => (kk.cell hcb _).trans Hy1.out)
          obtain ⟨q, hq⟩ : ∃ q, q = t[i].q := ⟨_, rfl⟩
          rw [← hq] at y1 hnx HY
          clear hq
          obtain ⟨xs, hxs⟩ : ∃ xs, xs = runCells R := ⟨_, rfl⟩
          rw [← hxs] at hnx HSd
          clear hnext hcutS hlen hrunk hu hsx hxs HS HR hki hkg hik hK hkgt
          go_wp2_with fail
          refine Go.Proofs.YtlpfcnpdecoblaaDoor.region_plan (S := (fun w' => True)) [(0, true), (1, true), (2, true), (3, true), (4, true), (5, true), (6, true), (7, true), (8, true), (9, true), (10, true), (11, true), (12, true), (13, true), (14, true), (15, true), (16, true)] (by kernel_rfl) (by kernel_rfl) (by kernel_rfl) ?_ ?_
          · ((try dsimp only); (first | done | (trivial)))
          simp only [Go.Proofs.YtlpfcnpdecoblaaDoor.planOps, List.map_cons, List.map_nil, List.getElem?_toArray, List.getElem?_cons_zero, List.getElem?_cons_succ]
          repeat (first
            | ((refine Go.Proofs.YtlpfcnpdecoblaaDoor.plan_yes (v := ?_) (by rfl) ?_ ?_); rotate_left; (focus (intro w hSw; (try dsimp only at hSw); go_simp; try (with_reducible rfl))); (try simp only [Act.put, List.setIfInBounds_toArray, List.set_cons_zero, List.set_cons_succ]))
            | ((refine Go.Proofs.YtlpfcnpdecoblaaDoor.plan_no (by rfl) ?_); (try simp only [Act.put, List.setIfInBounds_toArray, List.set_cons_zero, List.set_cons_succ]))
            | ((refine Go.Proofs.YtlpfcnpdecoblaaDoor.plan_step (fun K hK => ?_)); (first | (fail) | (go_simp; (fail); (try go_wp2_with fail)) | go_simp); (refine hK.out _ _ ?_ (fun hHeld => ?_)); (focus ((try dsimp only); (first | done | (trivial)))); clear hK K; (try simp only [Act.put, List.setIfInBounds_toArray, List.set_cons_zero, List.set_cons_succ])))
          refine Go.Proofs.YtlpfcnpdecoblaaDoor.plan_done ?_
          go_wp2_with fail
          refine Go.Proofs.YtlpfcnpdecoblaaDoor.region_plan (S := (fun w' => w'.cell? ⟨cb, co + i * 2 + 1, none⟩ = some (.bool q))) [(0, true), (1, true), (2, true), (3, true), (4, true), (6, true), (7, true), (8, true), (9, true), (10, true), (5, false), (11, true), (12, false), (13, false), (14, true)] (by kernel_rfl) (by kernel_rfl) (by kernel_rfl) ?_ ?_
          · ((try dsimp only); (first | done | (first | exact HY.out _ (kept_of T6) | exact HY.out _ (kept_of (H3.out.old _)) | exact HY.out _ (kept_of H3.out) | exact HY.out _ (kept_of HSd.out.drew))))
          simp only [Go.Proofs.YtlpfcnpdecoblaaDoor.planOps, List.map_cons, List.map_nil, List.getElem?_toArray, List.getElem?_cons_zero, List.getElem?_cons_succ]
          repeat (first
            | ((refine Go.Proofs.YtlpfcnpdecoblaaDoor.plan_yes (v := ?_) (by rfl) ?_ ?_); rotate_left; (focus (intro w hSw; (try dsimp only at hSw); go_simp; try (with_reducible rfl))); (try simp only [Act.put, List.setIfInBounds_toArray, List.set_cons_zero, List.set_cons_succ]))
            | ((refine Go.Proofs.YtlpfcnpdecoblaaDoor.plan_no (by rfl) ?_); (try simp only [Act.put, List.setIfInBounds_toArray, List.set_cons_zero, List.set_cons_succ]))
            | ((refine Go.Proofs.YtlpfcnpdecoblaaDoor.plan_step (fun K hK => ?_)); (first | (first | (go_at_call 33; refine (hpl.out _ (by exact kept_of HSd.out.drew)).mono ?_; rintro e w3 ⟨rfl, b3⟩; have H3 := Lib.hid (HSd.out.drew.below b3); have R3 := Lib.hid (Ran.below (Below.drew Rd.out) b3); clear b3) | (refine stepRrn rfl _ _ rfl p n cap _ rfl _ rfl (H3.out.old _) _ _ (block_new rfl) rfl rfl hRl ?_; intro p' cap' w6 T6 R6)) | (go_simp; (first | (go_at_call 33; refine (hpl.out _ (by exact kept_of HSd.out.drew)).mono ?_; rintro e w3 ⟨rfl, b3⟩; have H3 := Lib.hid (HSd.out.drew.below b3); have R3 := Lib.hid (Ran.below (Below.drew Rd.out) b3); clear b3) | (refine stepRrn rfl _ _ rfl p n cap _ rfl _ rfl (H3.out.old _) _ _ (block_new rfl) rfl rfl hRl ?_; intro p' cap' w6 T6 R6)); (try go_wp2_with fail)) | go_simp); (refine hK.out _ _ ?_ (fun hHeld => ?_)); (focus ((try dsimp only); (first | done | (first | exact HY.out _ (kept_of T6) | exact HY.out _ (kept_of (H3.out.old _)) | exact HY.out _ (kept_of H3.out) | exact HY.out _ (kept_of HSd.out.drew))))); clear hK K; (try simp only [Act.put, List.setIfInBounds_toArray, List.set_cons_zero, List.set_cons_succ])))
          refine Go.Proofs.YtlpfcnpdecoblaaDoor.plan_done ?_
          have Hrel := Lib.hid (hnx.out w6 p' cap' T6 (Below.trans (Ran.new R3.out _) R6))
          clear T6 R6 H3 R3 hnx HSd Rd hpl
          go_wp2_with fail
          go_roundg (t.length - t.length)
          case measure => exact Hms2.out
          case rel => exact Hrel.out
    · have hge : ¬ ((i : Int) < (t.length : Int)) := by omega
      have hd : t.drop i = [] := List.drop_eq_nil_of_le (by omega)
      rw [hd] at hrun
      have hfin : runL t = R := by rw [hrun]; show R ++ [] = R; rw [List.append_nil]
      have hpost := Lib.hid (And.intro (runs_at HS) (HR.whole HS))
      have Hfin := Lib.hid hfin
      clear hd hrun hfin HS HR hi hig hRl
      go_wp2_with fail
      go_ret
      exact ⟨p, cap, by rw [Hfin.out]; rfl, by rw [Hfin.out]; exact hpost.out.1, hpost.out.2⟩
end Go.Proofs.YtlpfcnpdecoblaaDoor.Marks
