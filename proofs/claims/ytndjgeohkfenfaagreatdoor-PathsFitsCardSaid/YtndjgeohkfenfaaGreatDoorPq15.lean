/- HandlesPlays, part 15 of 26: the texts GlV, joined by a program. -/
import Derived.Test.YtndjgeohkfenfaaGreatDoorPq14
namespace Go.Proofs.YtndjgeohkfenfaaGreatDoor.Globs
open Go.RowKit Go.Proofs.YtndjgeohkfenfaaGreatDoor Go.Proofs.YtndjgeohkfenfaaGreatDoor.Hp
set_option linter.unusedVariables false

set_option maxRecDepth 100000 in
set_option maxHeartbeats 16000000 in
theorem ends_path (p : List Itm) (s : ByteArray) (ao : Option Addr) (cap : Nat) (w : World) (h : ItemsAt w ao p) (hm : s.size ≤ 100000) :
    Calls Tryz.prog 61 #[.slice ao p.length cap, .string s, .bool true] w (EndsPost (hardP (bs s)) p s w) := by
  have hpl := h.1
  have hsl : (s.size : Int) ≤ 100000 := by omega
  obtain ⟨i0, hi0, hz0, hz1, hz2⟩ := info_parts infoBool
  have hmk : ∀ w' : World, (Instr.makeSlice 123 (.int .i64 ((s.size : Int) + 1)) (.int .i64 ((s.size : Int) + 1))).run Tryz.prog w' = .ok (.slice (some ⟨w'.heap.size, 0, none⟩) (s.size + 1) (s.size + 1)) (w'.alloc (boolsO (fun _ => false) (s.size + 1))) := fun w' => by
    have := made2 Tryz.prog 123 4 i0 _ Tryz.underlying123 hi0 hz0 (s.size + 1) (by rw [hz2]; omega) (by omega) w'
    rw [hz1, Nat.mul_one] at this
    rw [show (((s.size + 1 : Nat) : Int)) = (s.size : Int) + 1 by omega] at this
    rw [show (Value.bool false).cells = #[.bool false] from rfl, madeBools] at this; exact this
  obtain ⟨w1, hw1⟩ : ∃ w1, w1 = w.alloc (boolsO (fun _ => false) (s.size + 1)) := ⟨_, rfl⟩
  have H0 : Sat w1 (pts w.heap.size (boolsO (fun _ => false) (s.size + 1)) * keep w) := by rw [hw1]; exact (Sat.start w).alloc _
  have HR0 : Ran w w1 := by rw [hw1]; exact Ran.new (Below.refl _ _) _
  have H1 : Sat (w1.setCell ⟨w.heap.size, 0, none⟩ (.bool true)) (pts w.heap.size (boolsO (R (hardP (bs s)) (p.take 0) (bs s)) (s.size + 1)) * keep w) :=
    bools_set H0 true fun j hj => by rw [List.take_zero, R_nil _ _ _ (by rw [bs_length]; omega)]; cases j <;> rfl
  have R1 : Ran w (w1.setCell ⟨w.heap.size, 0, none⟩ (.bool true)) := Ran.set HR0 _ _
  have c0 : w1.cell? ⟨w.heap.size, 0, none⟩ = some (.bool false) := by rw [cell_at H0.get, boolArr_get _ _ _ (by omega)]
  have cf : ∀ j, w1.frozen? ⟨w.heap.size, j, none⟩ = false := free_at H0.get
  have Hw1 := Lib.hid hw1
  clear hz0 hz1 hz2 hi0 H0 HR0 hw1
  go_enter Tryz.func61, Tryz.ntmps61
  go_upto_region 2 with (fail)
  have Hmk := Lib.hid hmk
  clear hmk
  rw [← Hw1.out]
  go_wp2_with fail
  clear c0 cf Hw1
  go_loopg [7, 8] (p.length) (ERel (hardP (bs s)) p s w)
  case atStart => exact ⟨0, w.heap.size, by omega, rfl, rfl, H1, R1⟩
  case round =>
    clear H1 R1
    obtain ⟨k, ab, hkg, rfl, rfl, HS, HR⟩ := hrel
    have hk0 : (0 : Int) ≤ k := by omega
    have hK : Kept w wr := ⟨HR.size, HS.right.kept⟩
    by_cases hk : k < p.length
    · have hkl : (k : Int) < p.length := by omega
      obtain ⟨f, rfl⟩ : ∃ f, gk = f + 1 := ⟨gk - 1, by omega⟩
      obtain ⟨pb, po, ra, rc, rfl, hpb, c0, c1, c2, c3, hra0⟩ := h.2 k hk
      replace c0 := (hK.cell hpb _).trans c0
      replace c1 := (hK.cell hpb _).trans c1
      replace c2 := (hK.cell hpb _).trans c2
      replace c3 := (hK.cell hpb _).trans c3
      obtain ⟨x, hx⟩ : ∃ x, x = p[k] := ⟨_, rfl⟩
      rw [← hx] at c0 c1 c2 c3 hra0
      have htk : p.take (k + 1) = p.take k ++ [x] := by rw [List.take_succ_eq_append_getElem hk, hx]
      obtain ⟨P, hP⟩ : ∃ P, P = p.take k := ⟨_, rfl⟩
      rw [← hP] at HS htk
      have S1 := (HS.alloc (ritO x ra rc)).alloc (boolsO (fun _ => false) (s.size + 1))
      simp only [World.size_alloc] at S1
      have R1 := Ran.new (Ran.new HR (ritO x ra rc)) (boolsO (fun _ => false) (s.size + 1))
      obtain ⟨xb, hxb⟩ : ∃ xb, xb = wr.heap.size := ⟨_, rfl⟩
      obtain ⟨nb, hnb⟩ : ∃ nb, nb = wr.heap.size + 1 := ⟨_, rfl⟩
      rw [← hnb, ← hxb, row_start (hardP (bs s)) P x (bs s)] at S1
      have S2 := S1.perm (show _ = pts ab (boolsO (R (hardP (bs s)) P (bs s)) (s.size + 1)) * (pts nb (boolsO (rowI (hardP (bs s)) P x (bs s) 0) (s.size + 1)) * (pts xb (ritO x ra rc) * keep w)) by ac_rfl)
      rw [row_start (hardP (bs s)) P x (bs s)] at R1
      have Htk := Lib.hid htk
      have Hxb := Lib.hid hxb
      have Hnb := Lib.hid hnb
      have hmk := Hmk.out
      rw [row_start (hardP (bs s)) P x (bs s)] at hmk
      clear htk hxb hnb hx hP HS HR S1
      go_wp2_with fail
      clear c0 c1 c2 c3 hmk
      rw [← Hnb.out, ← Hxb.out]
      go_loopg [11] (s.size + 1) (ERel2 (hardP (bs s)) P x ra rc ab nb xb s w)
      case atStart => exact ⟨0, by omega, rfl, S2, R1⟩
      case round =>
        clear S2 R1
        obtain ⟨i, hig, rfl, HS, HR⟩ := hrel
        have hi0' : (0 : Int) ≤ i := by omega
        have hra := hra0.keep (w := wr) ⟨HR.size, HS.right.right.right.kept⟩
        obtain ⟨X0, X1, X2, X3⟩ := rit_cells HS.right.right.get
        by_cases hi : i ≤ s.size
        · have hil : (i : Int) ≤ s.size := by omega
          have A0 : wr.cell? ⟨ab, i, none⟩ = some (.bool (R (hardP (bs s)) P (bs s) i)) := by rw [cell_at HS.get, boolArr_get _ _ _ (by omega)]
          have HSn := HS.perm (show _ = pts nb (boolsO (rowI (hardP (bs s)) P x (bs s) i) (s.size + 1)) * (pts ab (boolsO (R (hardP (bs s)) P (bs s)) (s.size + 1)) * (pts xb (ritO x ra rc) * keep w)) by ac_rfl)
          have N0 : wr.cell? ⟨nb, i, none⟩ = some (.bool (carry (hardP (bs s)) P x (bs s) i)) := by rw [cell_at HSn.get, boolArr_get _ _ _ (by omega), row_at]
          have Nf : ∀ j, wr.frozen? ⟨nb, j, none⟩ = false := free_at HSn.get
          have Hig := Lib.hid hig
          clear hig HS
          obtain ⟨kd, b, neg, rs⟩ := x
          simp only at X0 X1 X2 X3 hra
          have HRx := HR
          clear HR
          obtain ⟨av, hav⟩ : ∃ av, av = R (hardP (bs s)) P (bs s) i := ⟨_, rfl⟩
          obtain ⟨cv, hcv⟩ : ∃ cv, cv = carry (hardP (bs s)) P ⟨kd, b, neg, rs⟩ (bs s) i := ⟨_, rfl⟩
          rw [← hav] at A0
          rw [← hcv] at N0
          have hcs := carry_succ (hardP (bs s)) P ⟨kd, b, neg, rs⟩ (bs s) i
          have hrow : i + 1 ≤ s.size → wr.cell? ⟨nb, i + 1, none⟩ = some (.bool false) := fun h => by rw [cell_at HSn.get, boolArr_get _ _ _ (by omega), row_after]
          have Hrow := Lib.hid hrow
          clear hrow
          by_cases h3 : kd = 3
          · subst h3
            have hsn := R_snoc_star (hardP (bs s)) P ⟨3, b, neg, rs⟩ (bs s) i (by rw [bs_length]; exact hi) rfl
            rw [← hav, ← hcv] at hsn
            rw [if_pos rfl, hsn] at hcs
            have Hsn := Lib.hid hsn
            have Hcs := Lib.hid hcs
            clear hsn hcs hav hcv
            cases cv
            · cases av
              · have Hv : Hid (false = R (hardP (bs s)) (P ++ [⟨3, b, neg, rs⟩]) (bs s) i) := Lib.hid (by rw [Hsn.out]; rfl)
                by_cases hin : i < s.size
                · have hin' : (i : Int) < s.size := by omega
                  have N1 := Hrow.out (by omega)
                  have Hc : Hid (carry (hardP (bs s)) P ⟨3, b, neg, rs⟩ (bs s) (i + 1) = false) := Lib.hid (by rw [Hcs.out]; rfl)
                  clear Hcs Hsn
                  go_wp2_with (first | (go_at_call 98; refine (HHD.out _).mono ?_; rintro e w5 ⟨rfl, rfl⟩))
                  go_roundg (gk - 1)
                  case measure => have := Hig.out; omega
                  case rel => exact ⟨i + 1, by have := Hig.out; omega, by go_num, sat_same ((bools_set HSn false (row_one false Hv.out (fun _ => Hc.out))).perm (by ac_rfl)) rfl, ran_same (Ran.set HRx _ _) rfl⟩
                · have hin' : ¬ ((i : Int) < s.size) := by omega
                  clear Hcs Hsn
                  go_wp2_with fail
                  go_roundg (gk - 1)
                  case measure => have := Hig.out; omega
                  case rel => exact ⟨i + 1, by have := Hig.out; omega, by go_num, sat_same ((bools_set HSn false (row_one false Hv.out (fun h => absurd h (by omega)))).perm (by ac_rfl)) rfl, ran_same (Ran.set HRx _ _) rfl⟩
              · have Hv : Hid (true = R (hardP (bs s)) (P ++ [⟨3, b, neg, rs⟩]) (bs s) i) := Lib.hid (by rw [Hsn.out]; rfl)
                by_cases hin : i < s.size
                · have hin' : (i : Int) < s.size := by omega
                  have N1 := Hrow.out (by omega)
                  have HHD0 := rhard_calls s i
                  cases hh : hardP (bs s) i
                  · have HHD : Hid (∀ w : World, Calls Tryz.prog 98 #[.string s, .int .i64 i] w fun e w' => e = .returned (.bool false) ∧ w = w') := Lib.hid fun w => by have := HHD0 w hin (by omega); rwa [hh] at this
                    clear HHD0
                    have Hc : Hid (carry (hardP (bs s)) P ⟨3, b, neg, rs⟩ (bs s) (i + 1) = true) := Lib.hid (by rw [Hcs.out, hh]; rfl)
                    clear hh Hcs Hsn
                    go_wp2_with (first | (go_at_call 98; refine (HHD.out _).mono ?_; rintro e w5 ⟨rfl, rfl⟩))
                    go_roundg (gk - 1)
                    case measure => have := Hig.out; omega
                    case rel => exact ⟨i + 1, by have := Hig.out; omega, by go_num, sat_same ((bools_set (bools_set HSn true (g := fun j => if j = i then true else rowI (hardP (bs s)) P ⟨3, b, neg, rs⟩ (bs s) i j) (fun _ _ => rfl)) true (row_two true Hv.out Hc.out)).perm (by ac_rfl)) rfl, ran_same (Ran.set (Ran.set HRx _ _) _ _) rfl⟩
                  · have HHD : Hid (∀ w : World, Calls Tryz.prog 98 #[.string s, .int .i64 i] w fun e w' => e = .returned (.bool true) ∧ w = w') := Lib.hid fun w => by have := HHD0 w hin (by omega); rwa [hh] at this
                    clear HHD0
                    have Hc : Hid (carry (hardP (bs s)) P ⟨3, b, neg, rs⟩ (bs s) (i + 1) = false) := Lib.hid (by rw [Hcs.out, hh]; rfl)
                    clear hh Hcs Hsn
                    go_wp2_with (first | (go_at_call 98; refine (HHD.out _).mono ?_; rintro e w5 ⟨rfl, rfl⟩))
                    go_roundg (gk - 1)
                    case measure => have := Hig.out; omega
                    case rel => exact ⟨i + 1, by have := Hig.out; omega, by go_num, sat_same ((bools_set HSn true (row_one true Hv.out (fun _ => Hc.out))).perm (by ac_rfl)) rfl, ran_same (Ran.set HRx _ _) rfl⟩
                · have hin' : ¬ ((i : Int) < s.size) := by omega
                  clear Hcs Hsn
                  go_wp2_with fail
                  go_roundg (gk - 1)
                  case measure => have := Hig.out; omega
                  case rel => exact ⟨i + 1, by have := Hig.out; omega, by go_num, sat_same ((bools_set HSn true (row_one true Hv.out (fun h => absurd h (by omega)))).perm (by ac_rfl)) rfl, ran_same (Ran.set HRx _ _) rfl⟩
            · cases av
              · have Hv : Hid (true = R (hardP (bs s)) (P ++ [⟨3, b, neg, rs⟩]) (bs s) i) := Lib.hid (by rw [Hsn.out]; rfl)
                by_cases hin : i < s.size
                · have hin' : (i : Int) < s.size := by omega
                  have N1 := Hrow.out (by omega)
                  have HHD0 := rhard_calls s i
                  cases hh : hardP (bs s) i
                  · have HHD : Hid (∀ w : World, Calls Tryz.prog 98 #[.string s, .int .i64 i] w fun e w' => e = .returned (.bool false) ∧ w = w') := Lib.hid fun w => by have := HHD0 w hin (by omega); rwa [hh] at this
                    clear HHD0
                    have Hc : Hid (carry (hardP (bs s)) P ⟨3, b, neg, rs⟩ (bs s) (i + 1) = true) := Lib.hid (by rw [Hcs.out, hh]; rfl)
                    clear hh Hcs Hsn
                    go_wp2_with (first | (go_at_call 98; refine (HHD.out _).mono ?_; rintro e w5 ⟨rfl, rfl⟩))
                    go_roundg (gk - 1)
                    case measure => have := Hig.out; omega
                    case rel => exact ⟨i + 1, by have := Hig.out; omega, by go_num, sat_same ((bools_set (bools_set HSn true (g := fun j => if j = i then true else rowI (hardP (bs s)) P ⟨3, b, neg, rs⟩ (bs s) i j) (fun _ _ => rfl)) true (row_two true Hv.out Hc.out)).perm (by ac_rfl)) rfl, ran_same (Ran.set (Ran.set HRx _ _) _ _) rfl⟩
                  · have HHD : Hid (∀ w : World, Calls Tryz.prog 98 #[.string s, .int .i64 i] w fun e w' => e = .returned (.bool true) ∧ w = w') := Lib.hid fun w => by have := HHD0 w hin (by omega); rwa [hh] at this
                    clear HHD0
                    have Hc : Hid (carry (hardP (bs s)) P ⟨3, b, neg, rs⟩ (bs s) (i + 1) = false) := Lib.hid (by rw [Hcs.out, hh]; rfl)
                    clear hh Hcs Hsn
                    go_wp2_with (first | (go_at_call 98; refine (HHD.out _).mono ?_; rintro e w5 ⟨rfl, rfl⟩))
                    go_roundg (gk - 1)
                    case measure => have := Hig.out; omega
                    case rel => exact ⟨i + 1, by have := Hig.out; omega, by go_num, sat_same ((bools_set HSn true (row_one true Hv.out (fun _ => Hc.out))).perm (by ac_rfl)) rfl, ran_same (Ran.set HRx _ _) rfl⟩
                · have hin' : ¬ ((i : Int) < s.size) := by omega
                  clear Hcs Hsn
                  go_wp2_with fail
                  go_roundg (gk - 1)
                  case measure => have := Hig.out; omega
                  case rel => exact ⟨i + 1, by have := Hig.out; omega, by go_num, sat_same ((bools_set HSn true (row_one true Hv.out (fun h => absurd h (by omega)))).perm (by ac_rfl)) rfl, ran_same (Ran.set HRx _ _) rfl⟩
              · have Hv : Hid (true = R (hardP (bs s)) (P ++ [⟨3, b, neg, rs⟩]) (bs s) i) := Lib.hid (by rw [Hsn.out]; rfl)
                by_cases hin : i < s.size
                · have hin' : (i : Int) < s.size := by omega
                  have N1 := Hrow.out (by omega)
                  have HHD0 := rhard_calls s i
                  cases hh : hardP (bs s) i
                  · have HHD : Hid (∀ w : World, Calls Tryz.prog 98 #[.string s, .int .i64 i] w fun e w' => e = .returned (.bool false) ∧ w = w') := Lib.hid fun w => by have := HHD0 w hin (by omega); rwa [hh] at this
                    clear HHD0
                    have Hc : Hid (carry (hardP (bs s)) P ⟨3, b, neg, rs⟩ (bs s) (i + 1) = true) := Lib.hid (by rw [Hcs.out, hh]; rfl)
                    clear hh Hcs Hsn
                    go_wp2_with (first | (go_at_call 98; refine (HHD.out _).mono ?_; rintro e w5 ⟨rfl, rfl⟩))
                    go_roundg (gk - 1)
                    case measure => have := Hig.out; omega
                    case rel => exact ⟨i + 1, by have := Hig.out; omega, by go_num, sat_same ((bools_set (bools_set HSn true (g := fun j => if j = i then true else rowI (hardP (bs s)) P ⟨3, b, neg, rs⟩ (bs s) i j) (fun _ _ => rfl)) true (row_two true Hv.out Hc.out)).perm (by ac_rfl)) rfl, ran_same (Ran.set (Ran.set HRx _ _) _ _) rfl⟩
                  · have HHD : Hid (∀ w : World, Calls Tryz.prog 98 #[.string s, .int .i64 i] w fun e w' => e = .returned (.bool true) ∧ w = w') := Lib.hid fun w => by have := HHD0 w hin (by omega); rwa [hh] at this
                    clear HHD0
                    have Hc : Hid (carry (hardP (bs s)) P ⟨3, b, neg, rs⟩ (bs s) (i + 1) = false) := Lib.hid (by rw [Hcs.out, hh]; rfl)
                    clear hh Hcs Hsn
                    go_wp2_with (first | (go_at_call 98; refine (HHD.out _).mono ?_; rintro e w5 ⟨rfl, rfl⟩))
                    go_roundg (gk - 1)
                    case measure => have := Hig.out; omega
                    case rel => exact ⟨i + 1, by have := Hig.out; omega, by go_num, sat_same ((bools_set HSn true (row_one true Hv.out (fun _ => Hc.out))).perm (by ac_rfl)) rfl, ran_same (Ran.set HRx _ _) rfl⟩
                · have hin' : ¬ ((i : Int) < s.size) := by omega
                  clear Hcs Hsn
                  go_wp2_with fail
                  go_roundg (gk - 1)
                  case measure => have := Hig.out; omega
                  case rel => exact ⟨i + 1, by have := Hig.out; omega, by go_num, sat_same ((bools_set HSn true (row_one true Hv.out (fun h => absurd h (by omega)))).perm (by ac_rfl)) rfl, ran_same (Ran.set HRx _ _) rfl⟩
          · have e3 : (kd == 3) = false := by rw [beq_eq_false_iff_ne]; exact h3
            have hsn := R_snoc_one (hardP (bs s)) P ⟨kd, b, neg, rs⟩ (bs s) i (by rw [bs_length]; exact hi) h3
            have Hv : Hid (carry (hardP (bs s)) P ⟨kd, b, neg, rs⟩ (bs s) i = R (hardP (bs s)) (P ++ [⟨kd, b, neg, rs⟩]) (bs s) i) := Lib.hid hsn.symm
            rw [if_neg h3, ← hav] at hcs
            clear hsn hav hcv
            by_cases hin : i < s.size
            · have hin' : (i : Int) < s.size := by omega
              have hnb : ((i : Int) == s.size) = false := by rw [beq_eq_false_iff_ne]; omega
              have hnb2 : (i == s.size) = false := by rw [beq_eq_false_iff_ne]; omega
              have N1 := Hrow.out (by omega)
              rw [bs_getD0 s i hin] at hcs
              cases av
              · have Hc : Hid (carry (hardP (bs s)) P ⟨kd, b, neg, rs⟩ (bs s) (i + 1) = false) := Lib.hid (by rw [hcs]; rfl)
                clear hcs h3 hra
                go_wp2_with fail
                go_roundg (gk - 1)
                case measure => have := Hig.out; omega
                case rel => exact ⟨i + 1, by have := Hig.out; omega, by go_num, by have h2 := HSn; rw [show boolsO (rowI (hardP (bs s)) P ⟨kd, b, neg, rs⟩ (bs s) i) (s.size + 1) = boolsO (rowI (hardP (bs s)) P ⟨kd, b, neg, rs⟩ (bs s) (i + 1)) (s.size + 1) by unfold boolsO; rw [boolArr_congr (n := s.size + 1) (f := rowI (hardP (bs s)) P ⟨kd, b, neg, rs⟩ (bs s) i) (g := rowI (hardP (bs s)) P ⟨kd, b, neg, rs⟩ (bs s) (i + 1)) (row_none Hv.out (fun _ => Hc.out))]] at h2; exact sat_same (h2.perm (by ac_rfl)) rfl, ran_same (HRx) rfl⟩
              · rw [Bool.true_and] at hcs
                have hbb := b.toNat_lt
                by_cases h1 : kd = 1
                · subst h1
                  have eb := u8_beq b s[i]
                  cases hb : (b == s[i])
                  · rw [hb] at eb
                    have Hc : Hid (carry (hardP (bs s)) P ⟨1, b, neg, rs⟩ (bs s) (i + 1) = false) := Lib.hid (by rw [hcs]; unfold fitsI; simp [hb])
                    clear hcs hb h3
                    go_wp2_with fail
                    refine region_plan (S := (fun w' => w'.cell? ⟨xb, 0, none⟩ = some (.int .i64 1) ∧ w'.cell? ⟨xb, 1, none⟩ = some (.int .u8 b.toNat) ∧ w'.cell? ⟨xb, 2, none⟩ = some (.bool neg) ∧ w'.cell? ⟨xb, 3, none⟩ = some (.slice ra rs.length rc))) [(0, true), (1, true), (2, true), (3, true), (4, true), (5, true), (6, true), (7, true), (8, true), (9, true), (10, true)] (by kernel_rfl) (by kernel_rfl) (by kernel_rfl) ?_ ?_
                    · ((try dsimp only); (first | done | (exact ⟨X0, X1, X2, X3⟩)))
                    simp only [planOps, List.map_cons, List.map_nil, List.getElem?_toArray, List.getElem?_cons_zero, List.getElem?_cons_succ]
                    repeat (first
                      | ((refine plan_yes (v := ?_) (by rfl) ?_ ?_); rotate_left; (focus (intro w hSw; (try dsimp only at hSw); go_simp; try (with_reducible rfl))); (try simp only [Act.put, List.setIfInBounds_toArray, List.set_cons_zero, List.set_cons_succ]))
                      | ((refine plan_no (by rfl) ?_); (try simp only [Act.put, List.setIfInBounds_toArray, List.set_cons_zero, List.set_cons_succ]))
                      | ((refine plan_step (fun K hK => ?_)); (first | (fail) | (go_simp; (fail); (try go_wp2_with fail)) | go_simp); (refine hK.out _ _ ?_ (fun hHeld => ?_)); (focus ((try dsimp only); (first | done | (exact ⟨X0, X1, X2, X3⟩)))); clear hK K; (try simp only [Act.put, List.setIfInBounds_toArray, List.set_cons_zero, List.set_cons_succ])))
                    refine plan_done ?_
                    go_wp2_with fail
                    refine region_plan (S := (fun w' => w'.cell? ⟨xb, 0, none⟩ = some (.int .i64 1) ∧ w'.cell? ⟨xb, 1, none⟩ = some (.int .u8 b.toNat) ∧ w'.cell? ⟨xb, 2, none⟩ = some (.bool neg) ∧ w'.cell? ⟨xb, 3, none⟩ = some (.slice ra rs.length rc))) [(0, true), (1, true), (2, true), (3, true), (4, true), (5, true), (6, true), (7, true), (8, true), (9, true), (10, true), (11, true), (12, true), (13, true), (14, true), (15, true), (16, true), (17, true), (18, true), (19, true), (20, true), (21, true), (22, true), (23, true), (24, true), (25, true), (26, true), (27, true)] (by kernel_rfl) (by kernel_rfl) (by kernel_rfl) ?_ ?_
                    · ((try dsimp only); (first | done | (exact ⟨X0, X1, X2, X3⟩)))
                    simp only [planOps, List.map_cons, List.map_nil, List.getElem?_toArray, List.getElem?_cons_zero, List.getElem?_cons_succ]
                    repeat (first
                      | ((refine plan_yes (v := ?_) (by rfl) ?_ ?_); rotate_left; (focus (intro w hSw; (try dsimp only at hSw); go_simp; try (with_reducible rfl))); (try simp only [Act.put, List.setIfInBounds_toArray, List.set_cons_zero, List.set_cons_succ]))
                      | ((refine plan_no (by rfl) ?_); (try simp only [Act.put, List.setIfInBounds_toArray, List.set_cons_zero, List.set_cons_succ]))
                      | ((refine plan_step (fun K hK => ?_)); (first | (fail) | (go_simp; (fail); (try go_wp2_with fail)) | go_simp); (refine hK.out _ _ ?_ (fun hHeld => ?_)); (focus ((try dsimp only); (first | done | (exact ⟨X0, X1, X2, X3⟩)))); clear hK K; (try simp only [Act.put, List.setIfInBounds_toArray, List.set_cons_zero, List.set_cons_succ])))
                    refine plan_done ?_
                    go_wp2_with fail
                    go_roundg (gk - 1)
                    case measure => have := Hig.out; omega
                    case rel => exact ⟨i + 1, by have := Hig.out; omega, by go_num, by have h2 := HSn; rw [show boolsO (rowI (hardP (bs s)) P ⟨1, b, neg, rs⟩ (bs s) i) (s.size + 1) = boolsO (rowI (hardP (bs s)) P ⟨1, b, neg, rs⟩ (bs s) (i + 1)) (s.size + 1) by unfold boolsO; rw [boolArr_congr (n := s.size + 1) (f := rowI (hardP (bs s)) P ⟨1, b, neg, rs⟩ (bs s) i) (g := rowI (hardP (bs s)) P ⟨1, b, neg, rs⟩ (bs s) (i + 1)) (row_none Hv.out (fun _ => Hc.out))]] at h2; exact sat_same (h2.perm (by ac_rfl)) rfl, ran_same (HRx) rfl⟩
                  · rw [hb] at eb
                    have Hc : Hid (carry (hardP (bs s)) P ⟨1, b, neg, rs⟩ (bs s) (i + 1) = true) := Lib.hid (by rw [hcs]; unfold fitsI may; simp [hb])
                    clear hcs hb h3
                    go_wp2_with fail
                    refine region_plan (S := (fun w' => w'.cell? ⟨xb, 0, none⟩ = some (.int .i64 1) ∧ w'.cell? ⟨xb, 1, none⟩ = some (.int .u8 b.toNat) ∧ w'.cell? ⟨xb, 2, none⟩ = some (.bool neg) ∧ w'.cell? ⟨xb, 3, none⟩ = some (.slice ra rs.length rc))) [(0, true), (1, true), (2, true), (3, true), (4, true), (5, true), (6, true), (7, true), (8, true), (9, true), (10, true)] (by kernel_rfl) (by kernel_rfl) (by kernel_rfl) ?_ ?_
                    · ((try dsimp only); (first | done | (exact ⟨X0, X1, X2, X3⟩)))
                    simp only [planOps, List.map_cons, List.map_nil, List.getElem?_toArray, List.getElem?_cons_zero, List.getElem?_cons_succ]
                    repeat (first
                      | ((refine plan_yes (v := ?_) (by rfl) ?_ ?_); rotate_left; (focus (intro w hSw; (try dsimp only at hSw); go_simp; try (with_reducible rfl))); (try simp only [Act.put, List.setIfInBounds_toArray, List.set_cons_zero, List.set_cons_succ]))
                      | ((refine plan_no (by rfl) ?_); (try simp only [Act.put, List.setIfInBounds_toArray, List.set_cons_zero, List.set_cons_succ]))
                      | ((refine plan_step (fun K hK => ?_)); (first | (fail) | (go_simp; (fail); (try go_wp2_with fail)) | go_simp); (refine hK.out _ _ ?_ (fun hHeld => ?_)); (focus ((try dsimp only); (first | done | (exact ⟨X0, X1, X2, X3⟩)))); clear hK K; (try simp only [Act.put, List.setIfInBounds_toArray, List.set_cons_zero, List.set_cons_succ])))
                    refine plan_done ?_
                    go_wp2_with fail
                    obtain ⟨Y0, Y1, Y2, Y3⟩ := rit_cells (((bools_set HSn true (i := i + 1) (g := fun j => if j = i + 1 then true else rowI (hardP (bs s)) P ⟨1, b, neg, rs⟩ (bs s) i j) (fun _ _ => rfl)).right.right).get)
                    refine region_plan (S := (fun w' => w'.cell? ⟨xb, 0, none⟩ = some (.int .i64 1) ∧ w'.cell? ⟨xb, 1, none⟩ = some (.int .u8 b.toNat) ∧ w'.cell? ⟨xb, 2, none⟩ = some (.bool neg) ∧ w'.cell? ⟨xb, 3, none⟩ = some (.slice ra rs.length rc))) [(0, true), (1, true), (2, true), (3, true), (4, true), (5, true), (6, true), (7, true), (8, true), (9, true), (10, true), (11, true), (12, true), (13, true), (14, true), (15, true), (16, true), (17, true), (18, true), (19, true), (20, true), (21, true), (22, true), (23, true), (24, true), (25, true), (26, true), (27, true)] (by kernel_rfl) (by kernel_rfl) (by kernel_rfl) ?_ ?_
                    · ((try dsimp only); (first | done | (exact ⟨Y0, Y1, Y2, Y3⟩)))
                    simp only [planOps, List.map_cons, List.map_nil, List.getElem?_toArray, List.getElem?_cons_zero, List.getElem?_cons_succ]
                    repeat (first
                      | ((refine plan_yes (v := ?_) (by rfl) ?_ ?_); rotate_left; (focus (intro w hSw; (try dsimp only at hSw); go_simp; try (with_reducible rfl))); (try simp only [Act.put, List.setIfInBounds_toArray, List.set_cons_zero, List.set_cons_succ]))
                      | ((refine plan_no (by rfl) ?_); (try simp only [Act.put, List.setIfInBounds_toArray, List.set_cons_zero, List.set_cons_succ]))
                      | ((refine plan_step (fun K hK => ?_)); (first | (fail) | (go_simp; (fail); (try go_wp2_with fail)) | go_simp); (refine hK.out _ _ ?_ (fun hHeld => ?_)); (focus ((try dsimp only); (first | done | (exact ⟨Y0, Y1, Y2, Y3⟩)))); clear hK K; (try simp only [Act.put, List.setIfInBounds_toArray, List.set_cons_zero, List.set_cons_succ])))
                    refine plan_done ?_
                    go_wp2_with fail
                    go_roundg (gk - 1)
                    case measure => have := Hig.out; omega
                    case rel => exact ⟨i + 1, by have := Hig.out; omega, by go_num, sat_same ((bools_set HSn true (row_just Hv.out Hc.out)).perm (by ac_rfl)) rfl, ran_same (Ran.set HRx _ _) rfl⟩
                by_cases h2 : kd = 2
                · subst h2
                  clear h1
                  cases hh : hardP (bs s) i
                  · have HHD : Hid (∀ w : World, Calls Tryz.prog 98 #[.string s, .int .i64 i] w fun e w' => e = .returned (.bool false) ∧ w = w') := Lib.hid fun w => by have := rhard_calls s i w hin (by omega); rwa [hh] at this
                    have Hc : Hid (carry (hardP (bs s)) P ⟨2, b, neg, rs⟩ (bs s) (i + 1) = true) := Lib.hid (by rw [hcs]; unfold fitsI may; simp [hh])
                    clear hcs hh h3
                    go_wp2_with fail
                    refine region_plan (S := (fun w' => w'.cell? ⟨xb, 0, none⟩ = some (.int .i64 2) ∧ w'.cell? ⟨xb, 1, none⟩ = some (.int .u8 b.toNat) ∧ w'.cell? ⟨xb, 2, none⟩ = some (.bool neg) ∧ w'.cell? ⟨xb, 3, none⟩ = some (.slice ra rs.length rc))) [(0, true), (1, true), (2, true), (3, true), (4, true), (5, true), (6, true), (7, true), (8, true), (9, true), (10, true)] (by kernel_rfl) (by kernel_rfl) (by kernel_rfl) ?_ ?_
                    · ((try dsimp only); (first | done | (exact ⟨X0, X1, X2, X3⟩)))
                    simp only [planOps, List.map_cons, List.map_nil, List.getElem?_toArray, List.getElem?_cons_zero, List.getElem?_cons_succ]
                    repeat (first
                      | ((refine plan_yes (v := ?_) (by rfl) ?_ ?_); rotate_left; (focus (intro w hSw; (try dsimp only at hSw); go_simp; try (with_reducible rfl))); (try simp only [Act.put, List.setIfInBounds_toArray, List.set_cons_zero, List.set_cons_succ]))
                      | ((refine plan_no (by rfl) ?_); (try simp only [Act.put, List.setIfInBounds_toArray, List.set_cons_zero, List.set_cons_succ]))
                      | ((refine plan_step (fun K hK => ?_)); (first | (fail) | (go_simp; (fail); (try go_wp2_with fail)) | go_simp); (refine hK.out _ _ ?_ (fun hHeld => ?_)); (focus ((try dsimp only); (first | done | (exact ⟨X0, X1, X2, X3⟩)))); clear hK K; (try simp only [Act.put, List.setIfInBounds_toArray, List.set_cons_zero, List.set_cons_succ])))
                    refine plan_done ?_
                    go_wp2_with fail
                    refine region_plan (S := (fun w' => w'.cell? ⟨xb, 0, none⟩ = some (.int .i64 2) ∧ w'.cell? ⟨xb, 1, none⟩ = some (.int .u8 b.toNat) ∧ w'.cell? ⟨xb, 2, none⟩ = some (.bool neg) ∧ w'.cell? ⟨xb, 3, none⟩ = some (.slice ra rs.length rc))) [(0, true), (1, true), (2, true), (3, true), (4, true), (5, true), (6, true), (7, true), (8, true), (9, true), (10, true), (11, true), (12, true), (13, true), (14, true), (15, true), (16, true), (17, true), (18, true), (19, true), (20, true), (21, true), (22, true), (23, true), (24, false), (25, true), (26, true), (27, true)] (by kernel_rfl) (by kernel_rfl) (by kernel_rfl) ?_ ?_
                    · ((try dsimp only); (first | done | (exact ⟨X0, X1, X2, X3⟩)))
                    simp only [planOps, List.map_cons, List.map_nil, List.getElem?_toArray, List.getElem?_cons_zero, List.getElem?_cons_succ]
                    repeat (first
                      | ((refine plan_yes (v := ?_) (by rfl) ?_ ?_); rotate_left; (focus (intro w hSw; (try dsimp only at hSw); go_simp; try (with_reducible rfl))); (try simp only [Act.put, List.setIfInBounds_toArray, List.set_cons_zero, List.set_cons_succ]))
                      | ((refine plan_no (by rfl) ?_); (try simp only [Act.put, List.setIfInBounds_toArray, List.set_cons_zero, List.set_cons_succ]))
                      | ((refine plan_step (fun K hK => ?_)); (first | (go_simp; (first | (go_at_call 98; refine (HHD.out _).mono ?_; rintro e w5 ⟨rfl, rfl⟩)); (try go_wp2_with fail)) | go_simp); (refine hK.out _ _ ?_ (fun hHeld => ?_)); (focus ((try dsimp only); (first | done | (exact ⟨X0, X1, X2, X3⟩)))); clear hK K; (try simp only [Act.put, List.setIfInBounds_toArray, List.set_cons_zero, List.set_cons_succ])))
                    refine plan_done ?_
                    go_wp2_with fail
                    go_roundg (gk - 1)
                    case measure => have := Hig.out; omega
                    case rel => exact ⟨i + 1, by have := Hig.out; omega, by go_num, sat_same ((bools_set HSn true (row_just Hv.out Hc.out)).perm (by ac_rfl)) rfl, ran_same (Ran.set HRx _ _) rfl⟩
                  · have HHD : Hid (∀ w : World, Calls Tryz.prog 98 #[.string s, .int .i64 i] w fun e w' => e = .returned (.bool true) ∧ w = w') := Lib.hid fun w => by have := rhard_calls s i w hin (by omega); rwa [hh] at this
                    have Hc : Hid (carry (hardP (bs s)) P ⟨2, b, neg, rs⟩ (bs s) (i + 1) = false) := Lib.hid (by rw [hcs]; unfold fitsI may; simp [hh])
                    clear hcs hh h3
                    go_wp2_with fail
                    refine region_plan (S := (fun w' => w'.cell? ⟨xb, 0, none⟩ = some (.int .i64 2) ∧ w'.cell? ⟨xb, 1, none⟩ = some (.int .u8 b.toNat) ∧ w'.cell? ⟨xb, 2, none⟩ = some (.bool neg) ∧ w'.cell? ⟨xb, 3, none⟩ = some (.slice ra rs.length rc))) [(0, true), (1, true), (2, true), (3, true), (4, true), (5, true), (6, true), (7, true), (8, true), (9, true), (10, true)] (by kernel_rfl) (by kernel_rfl) (by kernel_rfl) ?_ ?_
                    · ((try dsimp only); (first | done | (exact ⟨X0, X1, X2, X3⟩)))
                    simp only [planOps, List.map_cons, List.map_nil, List.getElem?_toArray, List.getElem?_cons_zero, List.getElem?_cons_succ]
                    repeat (first
                      | ((refine plan_yes (v := ?_) (by rfl) ?_ ?_); rotate_left; (focus (intro w hSw; (try dsimp only at hSw); go_simp; try (with_reducible rfl))); (try simp only [Act.put, List.setIfInBounds_toArray, List.set_cons_zero, List.set_cons_succ]))
                      | ((refine plan_no (by rfl) ?_); (try simp only [Act.put, List.setIfInBounds_toArray, List.set_cons_zero, List.set_cons_succ]))
                      | ((refine plan_step (fun K hK => ?_)); (first | (fail) | (go_simp; (fail); (try go_wp2_with fail)) | go_simp); (refine hK.out _ _ ?_ (fun hHeld => ?_)); (focus ((try dsimp only); (first | done | (exact ⟨X0, X1, X2, X3⟩)))); clear hK K; (try simp only [Act.put, List.setIfInBounds_toArray, List.set_cons_zero, List.set_cons_succ])))
                    refine plan_done ?_
                    go_wp2_with fail
                    refine region_plan (S := (fun w' => w'.cell? ⟨xb, 0, none⟩ = some (.int .i64 2) ∧ w'.cell? ⟨xb, 1, none⟩ = some (.int .u8 b.toNat) ∧ w'.cell? ⟨xb, 2, none⟩ = some (.bool neg) ∧ w'.cell? ⟨xb, 3, none⟩ = some (.slice ra rs.length rc))) [(0, true), (1, true), (2, true), (3, true), (4, true), (5, true), (6, true), (7, true), (8, true), (9, true), (10, true), (11, true), (12, true), (13, true), (14, true), (15, true), (16, true), (17, true), (18, true), (19, true), (20, true), (21, true), (22, true), (23, true), (24, false), (25, true), (26, true), (27, true)] (by kernel_rfl) (by kernel_rfl) (by kernel_rfl) ?_ ?_
                    · ((try dsimp only); (first | done | (exact ⟨X0, X1, X2, X3⟩)))
                    simp only [planOps, List.map_cons, List.map_nil, List.getElem?_toArray, List.getElem?_cons_zero, List.getElem?_cons_succ]
                    repeat (first
                      | ((refine plan_yes (v := ?_) (by rfl) ?_ ?_); rotate_left; (focus (intro w hSw; (try dsimp only at hSw); go_simp; try (with_reducible rfl))); (try simp only [Act.put, List.setIfInBounds_toArray, List.set_cons_zero, List.set_cons_succ]))
                      | ((refine plan_no (by rfl) ?_); (try simp only [Act.put, List.setIfInBounds_toArray, List.set_cons_zero, List.set_cons_succ]))
                      | ((refine plan_step (fun K hK => ?_)); (first | (go_simp; (first | (go_at_call 98; refine (HHD.out _).mono ?_; rintro e w5 ⟨rfl, rfl⟩)); (try go_wp2_with fail)) | go_simp); (refine hK.out _ _ ?_ (fun hHeld => ?_)); (focus ((try dsimp only); (first | done | (exact ⟨X0, X1, X2, X3⟩)))); clear hK K; (try simp only [Act.put, List.setIfInBounds_toArray, List.set_cons_zero, List.set_cons_succ])))
                    refine plan_done ?_
                    go_wp2_with fail
                    go_roundg (gk - 1)
                    case measure => have := Hig.out; omega
                    case rel => exact ⟨i + 1, by have := Hig.out; omega, by go_num, by have h2 := HSn; rw [show boolsO (rowI (hardP (bs s)) P ⟨2, b, neg, rs⟩ (bs s) i) (s.size + 1) = boolsO (rowI (hardP (bs s)) P ⟨2, b, neg, rs⟩ (bs s) (i + 1)) (s.size + 1) by unfold boolsO; rw [boolArr_congr (n := s.size + 1) (f := rowI (hardP (bs s)) P ⟨2, b, neg, rs⟩ (bs s) i) (g := rowI (hardP (bs s)) P ⟨2, b, neg, rs⟩ (bs s) (i + 1)) (row_none Hv.out (fun _ => Hc.out))]] at h2; exact sat_same (h2.perm (by ac_rfl)) rfl, ran_same (HRx) rfl⟩
                by_cases h4 : kd = 4
                · subst h4
                  clear h1 h2
                  cases hr : inR rs s[i]
                  · cases neg
                    · have HIN : Hid (∀ w : World, RgAt w ra rs → Calls Tryz.prog 99 #[.slice ra rs.length rc, .int .u8 s[i].toNat] w fun e w' => e = .returned (.bool false) ∧ w = w') := Lib.hid fun w h => by have := rin_calls rs s[i] ra rc w h; rwa [hr] at this
                      have Hc : Hid (carry (hardP (bs s)) P ⟨4, b, false, rs⟩ (bs s) (i + 1) = false) := Lib.hid (by rw [hcs]; unfold fitsI; simp [hr])
                      clear hcs hr h3
                      go_wp2_with fail
                      refine region_plan (S := (fun w' => w'.cell? ⟨xb, 0, none⟩ = some (.int .i64 4) ∧ w'.cell? ⟨xb, 1, none⟩ = some (.int .u8 b.toNat) ∧ w'.cell? ⟨xb, 2, none⟩ = some (.bool false) ∧ w'.cell? ⟨xb, 3, none⟩ = some (.slice ra rs.length rc))) [(0, true), (1, true), (2, true), (3, true), (4, true), (5, true), (6, true), (7, true), (8, true), (9, true), (10, true)] (by kernel_rfl) (by kernel_rfl) (by kernel_rfl) ?_ ?_
                      · ((try dsimp only); (first | done | (exact ⟨X0, X1, X2, X3⟩)))
                      simp only [planOps, List.map_cons, List.map_nil, List.getElem?_toArray, List.getElem?_cons_zero, List.getElem?_cons_succ]
                      repeat (first
                        | ((refine plan_yes (v := ?_) (by rfl) ?_ ?_); rotate_left; (focus (intro w hSw; (try dsimp only at hSw); go_simp; try (with_reducible rfl))); (try simp only [Act.put, List.setIfInBounds_toArray, List.set_cons_zero, List.set_cons_succ]))
                        | ((refine plan_no (by rfl) ?_); (try simp only [Act.put, List.setIfInBounds_toArray, List.set_cons_zero, List.set_cons_succ]))
                        | ((refine plan_step (fun K hK => ?_)); (first | (fail) | (go_simp; (fail); (try go_wp2_with fail)) | go_simp); (refine hK.out _ _ ?_ (fun hHeld => ?_)); (focus ((try dsimp only); (first | done | (exact ⟨X0, X1, X2, X3⟩)))); clear hK K; (try simp only [Act.put, List.setIfInBounds_toArray, List.set_cons_zero, List.set_cons_succ])))
                      refine plan_done ?_
                      go_wp2_with fail
                      refine region_plan (S := (fun w' => w'.cell? ⟨xb, 0, none⟩ = some (.int .i64 4) ∧ w'.cell? ⟨xb, 1, none⟩ = some (.int .u8 b.toNat) ∧ w'.cell? ⟨xb, 2, none⟩ = some (.bool false) ∧ w'.cell? ⟨xb, 3, none⟩ = some (.slice ra rs.length rc))) [(0, true), (1, true), (2, true), (3, true), (4, true), (5, true), (6, true), (7, true), (8, true), (9, true), (10, true), (11, true), (12, true), (14, true), (15, true), (13, false), (16, true), (17, true), (18, true), (19, true), (20, true), (21, true), (22, true), (23, true), (24, true), (25, true), (26, true), (27, true)] (by kernel_rfl) (by kernel_rfl) (by kernel_rfl) ?_ ?_
                      · ((try dsimp only); (first | done | (exact ⟨X0, X1, X2, X3⟩)))
                      simp only [planOps, List.map_cons, List.map_nil, List.getElem?_toArray, List.getElem?_cons_zero, List.getElem?_cons_succ]
                      repeat (first
                        | ((refine plan_yes (v := ?_) (by rfl) ?_ ?_); rotate_left; (focus (intro w hSw; (try dsimp only at hSw); go_simp; try (with_reducible rfl))); (try simp only [Act.put, List.setIfInBounds_toArray, List.set_cons_zero, List.set_cons_succ]))
                        | ((refine plan_no (by rfl) ?_); (try simp only [Act.put, List.setIfInBounds_toArray, List.set_cons_zero, List.set_cons_succ]))
                        | ((refine plan_step (fun K hK => ?_)); (first | (go_simp; (first | (go_at_call 99; refine (HIN.out _ (by exact hra)).mono ?_; rintro e w4 ⟨rfl, rfl⟩)); (try go_wp2_with fail)) | go_simp); (refine hK.out _ _ ?_ (fun hHeld => ?_)); (focus ((try dsimp only); (first | done | (exact ⟨X0, X1, X2, X3⟩)))); clear hK K; (try simp only [Act.put, List.setIfInBounds_toArray, List.set_cons_zero, List.set_cons_succ])))
                      refine plan_done ?_
                      go_wp2_with fail
                      go_roundg (gk - 1)
                      case measure => have := Hig.out; omega
                      case rel => exact ⟨i + 1, by have := Hig.out; omega, by go_num, by have h2 := HSn; rw [show boolsO (rowI (hardP (bs s)) P ⟨4, b, false, rs⟩ (bs s) i) (s.size + 1) = boolsO (rowI (hardP (bs s)) P ⟨4, b, false, rs⟩ (bs s) (i + 1)) (s.size + 1) by unfold boolsO; rw [boolArr_congr (n := s.size + 1) (f := rowI (hardP (bs s)) P ⟨4, b, false, rs⟩ (bs s) i) (g := rowI (hardP (bs s)) P ⟨4, b, false, rs⟩ (bs s) (i + 1)) (row_none Hv.out (fun _ => Hc.out))]] at h2; exact sat_same (h2.perm (by ac_rfl)) rfl, ran_same (HRx) rfl⟩
                    · cases hh : hardP (bs s) i
                      · have HIN : Hid (∀ w : World, RgAt w ra rs → Calls Tryz.prog 99 #[.slice ra rs.length rc, .int .u8 s[i].toNat] w fun e w' => e = .returned (.bool false) ∧ w = w') := Lib.hid fun w h => by have := rin_calls rs s[i] ra rc w h; rwa [hr] at this
                        have HHD : Hid (∀ w : World, Calls Tryz.prog 98 #[.string s, .int .i64 i] w fun e w' => e = .returned (.bool false) ∧ w = w') := Lib.hid fun w => by have := rhard_calls s i w hin (by omega); rwa [hh] at this
                        have Hc : Hid (carry (hardP (bs s)) P ⟨4, b, true, rs⟩ (bs s) (i + 1) = true) := Lib.hid (by rw [hcs]; unfold fitsI may; simp [hr, hh])
                        clear hcs hr hh h3
                        go_wp2_with fail
                        refine region_plan (S := (fun w' => w'.cell? ⟨xb, 0, none⟩ = some (.int .i64 4) ∧ w'.cell? ⟨xb, 1, none⟩ = some (.int .u8 b.toNat) ∧ w'.cell? ⟨xb, 2, none⟩ = some (.bool true) ∧ w'.cell? ⟨xb, 3, none⟩ = some (.slice ra rs.length rc))) [(0, true), (1, true), (2, true), (3, true), (4, true), (5, true), (6, true), (7, true), (8, true), (9, true), (10, true)] (by kernel_rfl) (by kernel_rfl) (by kernel_rfl) ?_ ?_
                        · ((try dsimp only); (first | done | (exact ⟨X0, X1, X2, X3⟩)))
                        simp only [planOps, List.map_cons, List.map_nil, List.getElem?_toArray, List.getElem?_cons_zero, List.getElem?_cons_succ]
                        repeat (first
                          | ((refine plan_yes (v := ?_) (by rfl) ?_ ?_); rotate_left; (focus (intro w hSw; (try dsimp only at hSw); go_simp; try (with_reducible rfl))); (try simp only [Act.put, List.setIfInBounds_toArray, List.set_cons_zero, List.set_cons_succ]))
                          | ((refine plan_no (by rfl) ?_); (try simp only [Act.put, List.setIfInBounds_toArray, List.set_cons_zero, List.set_cons_succ]))
                          | ((refine plan_step (fun K hK => ?_)); (first | (fail) | (go_simp; (fail); (try go_wp2_with fail)) | go_simp); (refine hK.out _ _ ?_ (fun hHeld => ?_)); (focus ((try dsimp only); (first | done | (exact ⟨X0, X1, X2, X3⟩)))); clear hK K; (try simp only [Act.put, List.setIfInBounds_toArray, List.set_cons_zero, List.set_cons_succ])))
                        refine plan_done ?_
                        go_wp2_with fail
                        refine region_plan (S := (fun w' => w'.cell? ⟨xb, 0, none⟩ = some (.int .i64 4) ∧ w'.cell? ⟨xb, 1, none⟩ = some (.int .u8 b.toNat) ∧ w'.cell? ⟨xb, 2, none⟩ = some (.bool true) ∧ w'.cell? ⟨xb, 3, none⟩ = some (.slice ra rs.length rc))) [(0, true), (1, true), (2, true), (3, true), (4, true), (5, true), (6, true), (7, true), (8, true), (9, true), (10, true), (11, true), (12, true), (14, true), (15, true), (13, false), (16, true), (17, true), (18, true), (19, true), (20, true), (21, true), (22, true), (23, true), (24, false), (25, true), (26, true), (27, true)] (by kernel_rfl) (by kernel_rfl) (by kernel_rfl) ?_ ?_
                        · ((try dsimp only); (first | done | (exact ⟨X0, X1, X2, X3⟩)))
                        simp only [planOps, List.map_cons, List.map_nil, List.getElem?_toArray, List.getElem?_cons_zero, List.getElem?_cons_succ]
                        repeat (first
                          | ((refine plan_yes (v := ?_) (by rfl) ?_ ?_); rotate_left; (focus (intro w hSw; (try dsimp only at hSw); go_simp; try (with_reducible rfl))); (try simp only [Act.put, List.setIfInBounds_toArray, List.set_cons_zero, List.set_cons_succ]))
                          | ((refine plan_no (by rfl) ?_); (try simp only [Act.put, List.setIfInBounds_toArray, List.set_cons_zero, List.set_cons_succ]))
                          | ((refine plan_step (fun K hK => ?_)); (first | (go_simp; (first | (go_at_call 99; refine (HIN.out _ (by exact hra)).mono ?_; rintro e w4 ⟨rfl, rfl⟩) | (go_at_call 98; refine (HHD.out _).mono ?_; rintro e w5 ⟨rfl, rfl⟩)); (try go_wp2_with fail)) | go_simp); (refine hK.out _ _ ?_ (fun hHeld => ?_)); (focus ((try dsimp only); (first | done | (exact ⟨X0, X1, X2, X3⟩)))); clear hK K; (try simp only [Act.put, List.setIfInBounds_toArray, List.set_cons_zero, List.set_cons_succ])))
                        refine plan_done ?_
                        go_wp2_with fail
                        go_roundg (gk - 1)
                        case measure => have := Hig.out; omega
                        case rel => exact ⟨i + 1, by have := Hig.out; omega, by go_num, sat_same ((bools_set HSn true (row_just Hv.out Hc.out)).perm (by ac_rfl)) rfl, ran_same (Ran.set HRx _ _) rfl⟩
                      · have HIN : Hid (∀ w : World, RgAt w ra rs → Calls Tryz.prog 99 #[.slice ra rs.length rc, .int .u8 s[i].toNat] w fun e w' => e = .returned (.bool false) ∧ w = w') := Lib.hid fun w h => by have := rin_calls rs s[i] ra rc w h; rwa [hr] at this
                        have HHD : Hid (∀ w : World, Calls Tryz.prog 98 #[.string s, .int .i64 i] w fun e w' => e = .returned (.bool true) ∧ w = w') := Lib.hid fun w => by have := rhard_calls s i w hin (by omega); rwa [hh] at this
                        have Hc : Hid (carry (hardP (bs s)) P ⟨4, b, true, rs⟩ (bs s) (i + 1) = false) := Lib.hid (by rw [hcs]; unfold fitsI may; simp [hr, hh])
                        clear hcs hr hh h3
                        go_wp2_with fail
                        refine region_plan (S := (fun w' => w'.cell? ⟨xb, 0, none⟩ = some (.int .i64 4) ∧ w'.cell? ⟨xb, 1, none⟩ = some (.int .u8 b.toNat) ∧ w'.cell? ⟨xb, 2, none⟩ = some (.bool true) ∧ w'.cell? ⟨xb, 3, none⟩ = some (.slice ra rs.length rc))) [(0, true), (1, true), (2, true), (3, true), (4, true), (5, true), (6, true), (7, true), (8, true), (9, true), (10, true)] (by kernel_rfl) (by kernel_rfl) (by kernel_rfl) ?_ ?_
                        · ((try dsimp only); (first | done | (exact ⟨X0, X1, X2, X3⟩)))
                        simp only [planOps, List.map_cons, List.map_nil, List.getElem?_toArray, List.getElem?_cons_zero, List.getElem?_cons_succ]
                        repeat (first
                          | ((refine plan_yes (v := ?_) (by rfl) ?_ ?_); rotate_left; (focus (intro w hSw; (try dsimp only at hSw); go_simp; try (with_reducible rfl))); (try simp only [Act.put, List.setIfInBounds_toArray, List.set_cons_zero, List.set_cons_succ]))
                          | ((refine plan_no (by rfl) ?_); (try simp only [Act.put, List.setIfInBounds_toArray, List.set_cons_zero, List.set_cons_succ]))
                          | ((refine plan_step (fun K hK => ?_)); (first | (fail) | (go_simp; (fail); (try go_wp2_with fail)) | go_simp); (refine hK.out _ _ ?_ (fun hHeld => ?_)); (focus ((try dsimp only); (first | done | (exact ⟨X0, X1, X2, X3⟩)))); clear hK K; (try simp only [Act.put, List.setIfInBounds_toArray, List.set_cons_zero, List.set_cons_succ])))
                        refine plan_done ?_
                        go_wp2_with fail
                        refine region_plan (S := (fun w' => w'.cell? ⟨xb, 0, none⟩ = some (.int .i64 4) ∧ w'.cell? ⟨xb, 1, none⟩ = some (.int .u8 b.toNat) ∧ w'.cell? ⟨xb, 2, none⟩ = some (.bool true) ∧ w'.cell? ⟨xb, 3, none⟩ = some (.slice ra rs.length rc))) [(0, true), (1, true), (2, true), (3, true), (4, true), (5, true), (6, true), (7, true), (8, true), (9, true), (10, true), (11, true), (12, true), (14, true), (15, true), (13, false), (16, true), (17, true), (18, true), (19, true), (20, true), (21, true), (22, true), (23, true), (24, false), (25, true), (26, true), (27, true)] (by kernel_rfl) (by kernel_rfl) (by kernel_rfl) ?_ ?_
                        · ((try dsimp only); (first | done | (exact ⟨X0, X1, X2, X3⟩)))
                        simp only [planOps, List.map_cons, List.map_nil, List.getElem?_toArray, List.getElem?_cons_zero, List.getElem?_cons_succ]
                        repeat (first
                          | ((refine plan_yes (v := ?_) (by rfl) ?_ ?_); rotate_left; (focus (intro w hSw; (try dsimp only at hSw); go_simp; try (with_reducible rfl))); (try simp only [Act.put, List.setIfInBounds_toArray, List.set_cons_zero, List.set_cons_succ]))
                          | ((refine plan_no (by rfl) ?_); (try simp only [Act.put, List.setIfInBounds_toArray, List.set_cons_zero, List.set_cons_succ]))
                          | ((refine plan_step (fun K hK => ?_)); (first | (go_simp; (first | (go_at_call 99; refine (HIN.out _ (by exact hra)).mono ?_; rintro e w4 ⟨rfl, rfl⟩) | (go_at_call 98; refine (HHD.out _).mono ?_; rintro e w5 ⟨rfl, rfl⟩)); (try go_wp2_with fail)) | go_simp); (refine hK.out _ _ ?_ (fun hHeld => ?_)); (focus ((try dsimp only); (first | done | (exact ⟨X0, X1, X2, X3⟩)))); clear hK K; (try simp only [Act.put, List.setIfInBounds_toArray, List.set_cons_zero, List.set_cons_succ])))
                        refine plan_done ?_
                        go_wp2_with fail
                        go_roundg (gk - 1)
                        case measure => have := Hig.out; omega
                        case rel => exact ⟨i + 1, by have := Hig.out; omega, by go_num, by have h2 := HSn; rw [show boolsO (rowI (hardP (bs s)) P ⟨4, b, true, rs⟩ (bs s) i) (s.size + 1) = boolsO (rowI (hardP (bs s)) P ⟨4, b, true, rs⟩ (bs s) (i + 1)) (s.size + 1) by unfold boolsO; rw [boolArr_congr (n := s.size + 1) (f := rowI (hardP (bs s)) P ⟨4, b, true, rs⟩ (bs s) i) (g := rowI (hardP (bs s)) P ⟨4, b, true, rs⟩ (bs s) (i + 1)) (row_none Hv.out (fun _ => Hc.out))]] at h2; exact sat_same (h2.perm (by ac_rfl)) rfl, ran_same (HRx) rfl⟩
                  · cases neg
                    · cases hh : hardP (bs s) i
                      · have HIN : Hid (∀ w : World, RgAt w ra rs → Calls Tryz.prog 99 #[.slice ra rs.length rc, .int .u8 s[i].toNat] w fun e w' => e = .returned (.bool true) ∧ w = w') := Lib.hid fun w h => by have := rin_calls rs s[i] ra rc w h; rwa [hr] at this
                        have HHD : Hid (∀ w : World, Calls Tryz.prog 98 #[.string s, .int .i64 i] w fun e w' => e = .returned (.bool false) ∧ w = w') := Lib.hid fun w => by have := rhard_calls s i w hin (by omega); rwa [hh] at this
                        have Hc : Hid (carry (hardP (bs s)) P ⟨4, b, false, rs⟩ (bs s) (i + 1) = true) := Lib.hid (by rw [hcs]; unfold fitsI may; simp [hr, hh])
                        clear hcs hr hh h3
                        go_wp2_with fail
                        refine region_plan (S := (fun w' => w'.cell? ⟨xb, 0, none⟩ = some (.int .i64 4) ∧ w'.cell? ⟨xb, 1, none⟩ = some (.int .u8 b.toNat) ∧ w'.cell? ⟨xb, 2, none⟩ = some (.bool false) ∧ w'.cell? ⟨xb, 3, none⟩ = some (.slice ra rs.length rc))) [(0, true), (1, true), (2, true), (3, true), (4, true), (5, true), (6, true), (7, true), (8, true), (9, true), (10, true)] (by kernel_rfl) (by kernel_rfl) (by kernel_rfl) ?_ ?_
                        · ((try dsimp only); (first | done | (exact ⟨X0, X1, X2, X3⟩)))
                        simp only [planOps, List.map_cons, List.map_nil, List.getElem?_toArray, List.getElem?_cons_zero, List.getElem?_cons_succ]
                        repeat (first
                          | ((refine plan_yes (v := ?_) (by rfl) ?_ ?_); rotate_left; (focus (intro w hSw; (try dsimp only at hSw); go_simp; try (with_reducible rfl))); (try simp only [Act.put, List.setIfInBounds_toArray, List.set_cons_zero, List.set_cons_succ]))
                          | ((refine plan_no (by rfl) ?_); (try simp only [Act.put, List.setIfInBounds_toArray, List.set_cons_zero, List.set_cons_succ]))
                          | ((refine plan_step (fun K hK => ?_)); (first | (fail) | (go_simp; (fail); (try go_wp2_with fail)) | go_simp); (refine hK.out _ _ ?_ (fun hHeld => ?_)); (focus ((try dsimp only); (first | done | (exact ⟨X0, X1, X2, X3⟩)))); clear hK K; (try simp only [Act.put, List.setIfInBounds_toArray, List.set_cons_zero, List.set_cons_succ])))
                        refine plan_done ?_
                        go_wp2_with fail
                        refine region_plan (S := (fun w' => w'.cell? ⟨xb, 0, none⟩ = some (.int .i64 4) ∧ w'.cell? ⟨xb, 1, none⟩ = some (.int .u8 b.toNat) ∧ w'.cell? ⟨xb, 2, none⟩ = some (.bool false) ∧ w'.cell? ⟨xb, 3, none⟩ = some (.slice ra rs.length rc))) [(0, true), (1, true), (2, true), (3, true), (4, true), (5, true), (6, true), (7, true), (8, true), (9, true), (10, true), (11, true), (12, true), (14, true), (15, true), (13, false), (16, true), (17, true), (18, true), (19, true), (20, true), (21, true), (22, true), (23, true), (24, false), (25, true), (26, true), (27, true)] (by kernel_rfl) (by kernel_rfl) (by kernel_rfl) ?_ ?_
                        · ((try dsimp only); (first | done | (exact ⟨X0, X1, X2, X3⟩)))
                        simp only [planOps, List.map_cons, List.map_nil, List.getElem?_toArray, List.getElem?_cons_zero, List.getElem?_cons_succ]
                        repeat (first
                          | ((refine plan_yes (v := ?_) (by rfl) ?_ ?_); rotate_left; (focus (intro w hSw; (try dsimp only at hSw); go_simp; try (with_reducible rfl))); (try simp only [Act.put, List.setIfInBounds_toArray, List.set_cons_zero, List.set_cons_succ]))
                          | ((refine plan_no (by rfl) ?_); (try simp only [Act.put, List.setIfInBounds_toArray, List.set_cons_zero, List.set_cons_succ]))
                          | ((refine plan_step (fun K hK => ?_)); (first | (go_simp; (first | (go_at_call 99; refine (HIN.out _ (by exact hra)).mono ?_; rintro e w4 ⟨rfl, rfl⟩) | (go_at_call 98; refine (HHD.out _).mono ?_; rintro e w5 ⟨rfl, rfl⟩)); (try go_wp2_with fail)) | go_simp); (refine hK.out _ _ ?_ (fun hHeld => ?_)); (focus ((try dsimp only); (first | done | (exact ⟨X0, X1, X2, X3⟩)))); clear hK K; (try simp only [Act.put, List.setIfInBounds_toArray, List.set_cons_zero, List.set_cons_succ])))
                        refine plan_done ?_
                        go_wp2_with fail
                        go_roundg (gk - 1)
                        case measure => have := Hig.out; omega
                        case rel => exact ⟨i + 1, by have := Hig.out; omega, by go_num, sat_same ((bools_set HSn true (row_just Hv.out Hc.out)).perm (by ac_rfl)) rfl, ran_same (Ran.set HRx _ _) rfl⟩
                      · have HIN : Hid (∀ w : World, RgAt w ra rs → Calls Tryz.prog 99 #[.slice ra rs.length rc, .int .u8 s[i].toNat] w fun e w' => e = .returned (.bool true) ∧ w = w') := Lib.hid fun w h => by have := rin_calls rs s[i] ra rc w h; rwa [hr] at this
                        have HHD : Hid (∀ w : World, Calls Tryz.prog 98 #[.string s, .int .i64 i] w fun e w' => e = .returned (.bool true) ∧ w = w') := Lib.hid fun w => by have := rhard_calls s i w hin (by omega); rwa [hh] at this
                        have Hc : Hid (carry (hardP (bs s)) P ⟨4, b, false, rs⟩ (bs s) (i + 1) = false) := Lib.hid (by rw [hcs]; unfold fitsI may; simp [hr, hh])
                        clear hcs hr hh h3
                        go_wp2_with fail
                        refine region_plan (S := (fun w' => w'.cell? ⟨xb, 0, none⟩ = some (.int .i64 4) ∧ w'.cell? ⟨xb, 1, none⟩ = some (.int .u8 b.toNat) ∧ w'.cell? ⟨xb, 2, none⟩ = some (.bool false) ∧ w'.cell? ⟨xb, 3, none⟩ = some (.slice ra rs.length rc))) [(0, true), (1, true), (2, true), (3, true), (4, true), (5, true), (6, true), (7, true), (8, true), (9, true), (10, true)] (by kernel_rfl) (by kernel_rfl) (by kernel_rfl) ?_ ?_
                        · ((try dsimp only); (first | done | (exact ⟨X0, X1, X2, X3⟩)))
                        simp only [planOps, List.map_cons, List.map_nil, List.getElem?_toArray, List.getElem?_cons_zero, List.getElem?_cons_succ]
                        repeat (first
                          | ((refine plan_yes (v := ?_) (by rfl) ?_ ?_); rotate_left; (focus (intro w hSw; (try dsimp only at hSw); go_simp; try (with_reducible rfl))); (try simp only [Act.put, List.setIfInBounds_toArray, List.set_cons_zero, List.set_cons_succ]))
                          | ((refine plan_no (by rfl) ?_); (try simp only [Act.put, List.setIfInBounds_toArray, List.set_cons_zero, List.set_cons_succ]))
                          | ((refine plan_step (fun K hK => ?_)); (first | (fail) | (go_simp; (fail); (try go_wp2_with fail)) | go_simp); (refine hK.out _ _ ?_ (fun hHeld => ?_)); (focus ((try dsimp only); (first | done | (exact ⟨X0, X1, X2, X3⟩)))); clear hK K; (try simp only [Act.put, List.setIfInBounds_toArray, List.set_cons_zero, List.set_cons_succ])))
                        refine plan_done ?_
                        go_wp2_with fail
                        refine region_plan (S := (fun w' => w'.cell? ⟨xb, 0, none⟩ = some (.int .i64 4) ∧ w'.cell? ⟨xb, 1, none⟩ = some (.int .u8 b.toNat) ∧ w'.cell? ⟨xb, 2, none⟩ = some (.bool false) ∧ w'.cell? ⟨xb, 3, none⟩ = some (.slice ra rs.length rc))) [(0, true), (1, true), (2, true), (3, true), (4, true), (5, true), (6, true), (7, true), (8, true), (9, true), (10, true), (11, true), (12, true), (14, true), (15, true), (13, false), (16, true), (17, true), (18, true), (19, true), (20, true), (21, true), (22, true), (23, true), (24, false), (25, true), (26, true), (27, true)] (by kernel_rfl) (by kernel_rfl) (by kernel_rfl) ?_ ?_
                        · ((try dsimp only); (first | done | (exact ⟨X0, X1, X2, X3⟩)))
                        simp only [planOps, List.map_cons, List.map_nil, List.getElem?_toArray, List.getElem?_cons_zero, List.getElem?_cons_succ]
                        repeat (first
                          | ((refine plan_yes (v := ?_) (by rfl) ?_ ?_); rotate_left; (focus (intro w hSw; (try dsimp only at hSw); go_simp; try (with_reducible rfl))); (try simp only [Act.put, List.setIfInBounds_toArray, List.set_cons_zero, List.set_cons_succ]))
                          | ((refine plan_no (by rfl) ?_); (try simp only [Act.put, List.setIfInBounds_toArray, List.set_cons_zero, List.set_cons_succ]))
                          | ((refine plan_step (fun K hK => ?_)); (first | (go_simp; (first | (go_at_call 99; refine (HIN.out _ (by exact hra)).mono ?_; rintro e w4 ⟨rfl, rfl⟩) | (go_at_call 98; refine (HHD.out _).mono ?_; rintro e w5 ⟨rfl, rfl⟩)); (try go_wp2_with fail)) | go_simp); (refine hK.out _ _ ?_ (fun hHeld => ?_)); (focus ((try dsimp only); (first | done | (exact ⟨X0, X1, X2, X3⟩)))); clear hK K; (try simp only [Act.put, List.setIfInBounds_toArray, List.set_cons_zero, List.set_cons_succ])))
                        refine plan_done ?_
                        go_wp2_with fail
                        go_roundg (gk - 1)
                        case measure => have := Hig.out; omega
                        case rel => exact ⟨i + 1, by have := Hig.out; omega, by go_num, by have h2 := HSn; rw [show boolsO (rowI (hardP (bs s)) P ⟨4, b, false, rs⟩ (bs s) i) (s.size + 1) = boolsO (rowI (hardP (bs s)) P ⟨4, b, false, rs⟩ (bs s) (i + 1)) (s.size + 1) by unfold boolsO; rw [boolArr_congr (n := s.size + 1) (f := rowI (hardP (bs s)) P ⟨4, b, false, rs⟩ (bs s) i) (g := rowI (hardP (bs s)) P ⟨4, b, false, rs⟩ (bs s) (i + 1)) (row_none Hv.out (fun _ => Hc.out))]] at h2; exact sat_same (h2.perm (by ac_rfl)) rfl, ran_same (HRx) rfl⟩
                    · have HIN : Hid (∀ w : World, RgAt w ra rs → Calls Tryz.prog 99 #[.slice ra rs.length rc, .int .u8 s[i].toNat] w fun e w' => e = .returned (.bool true) ∧ w = w') := Lib.hid fun w h => by have := rin_calls rs s[i] ra rc w h; rwa [hr] at this
                      have Hc : Hid (carry (hardP (bs s)) P ⟨4, b, true, rs⟩ (bs s) (i + 1) = false) := Lib.hid (by rw [hcs]; unfold fitsI; simp [hr])
                      clear hcs hr h3
                      go_wp2_with fail
                      refine region_plan (S := (fun w' => w'.cell? ⟨xb, 0, none⟩ = some (.int .i64 4) ∧ w'.cell? ⟨xb, 1, none⟩ = some (.int .u8 b.toNat) ∧ w'.cell? ⟨xb, 2, none⟩ = some (.bool true) ∧ w'.cell? ⟨xb, 3, none⟩ = some (.slice ra rs.length rc))) [(0, true), (1, true), (2, true), (3, true), (4, true), (5, true), (6, true), (7, true), (8, true), (9, true), (10, true)] (by kernel_rfl) (by kernel_rfl) (by kernel_rfl) ?_ ?_
                      · ((try dsimp only); (first | done | (exact ⟨X0, X1, X2, X3⟩)))
                      simp only [planOps, List.map_cons, List.map_nil, List.getElem?_toArray, List.getElem?_cons_zero, List.getElem?_cons_succ]
                      repeat (first
                        | ((refine plan_yes (v := ?_) (by rfl) ?_ ?_); rotate_left; (focus (intro w hSw; (try dsimp only at hSw); go_simp; try (with_reducible rfl))); (try simp only [Act.put, List.setIfInBounds_toArray, List.set_cons_zero, List.set_cons_succ]))
                        | ((refine plan_no (by rfl) ?_); (try simp only [Act.put, List.setIfInBounds_toArray, List.set_cons_zero, List.set_cons_succ]))
                        | ((refine plan_step (fun K hK => ?_)); (first | (fail) | (go_simp; (fail); (try go_wp2_with fail)) | go_simp); (refine hK.out _ _ ?_ (fun hHeld => ?_)); (focus ((try dsimp only); (first | done | (exact ⟨X0, X1, X2, X3⟩)))); clear hK K; (try simp only [Act.put, List.setIfInBounds_toArray, List.set_cons_zero, List.set_cons_succ])))
                      refine plan_done ?_
                      go_wp2_with fail
                      refine region_plan (S := (fun w' => w'.cell? ⟨xb, 0, none⟩ = some (.int .i64 4) ∧ w'.cell? ⟨xb, 1, none⟩ = some (.int .u8 b.toNat) ∧ w'.cell? ⟨xb, 2, none⟩ = some (.bool true) ∧ w'.cell? ⟨xb, 3, none⟩ = some (.slice ra rs.length rc))) [(0, true), (1, true), (2, true), (3, true), (4, true), (5, true), (6, true), (7, true), (8, true), (9, true), (10, true), (11, true), (12, true), (14, true), (15, true), (13, false), (16, true), (17, true), (18, true), (19, true), (20, true), (21, true), (22, true), (23, true), (24, true), (25, true), (26, true), (27, true)] (by kernel_rfl) (by kernel_rfl) (by kernel_rfl) ?_ ?_
                      · ((try dsimp only); (first | done | (exact ⟨X0, X1, X2, X3⟩)))
                      simp only [planOps, List.map_cons, List.map_nil, List.getElem?_toArray, List.getElem?_cons_zero, List.getElem?_cons_succ]
                      repeat (first
                        | ((refine plan_yes (v := ?_) (by rfl) ?_ ?_); rotate_left; (focus (intro w hSw; (try dsimp only at hSw); go_simp; try (with_reducible rfl))); (try simp only [Act.put, List.setIfInBounds_toArray, List.set_cons_zero, List.set_cons_succ]))
                        | ((refine plan_no (by rfl) ?_); (try simp only [Act.put, List.setIfInBounds_toArray, List.set_cons_zero, List.set_cons_succ]))
                        | ((refine plan_step (fun K hK => ?_)); (first | (go_simp; (first | (go_at_call 99; refine (HIN.out _ (by exact hra)).mono ?_; rintro e w4 ⟨rfl, rfl⟩)); (try go_wp2_with fail)) | go_simp); (refine hK.out _ _ ?_ (fun hHeld => ?_)); (focus ((try dsimp only); (first | done | (exact ⟨X0, X1, X2, X3⟩)))); clear hK K; (try simp only [Act.put, List.setIfInBounds_toArray, List.set_cons_zero, List.set_cons_succ])))
                      refine plan_done ?_
                      go_wp2_with fail
                      go_roundg (gk - 1)
                      case measure => have := Hig.out; omega
                      case rel => exact ⟨i + 1, by have := Hig.out; omega, by go_num, by have h2 := HSn; rw [show boolsO (rowI (hardP (bs s)) P ⟨4, b, true, rs⟩ (bs s) i) (s.size + 1) = boolsO (rowI (hardP (bs s)) P ⟨4, b, true, rs⟩ (bs s) (i + 1)) (s.size + 1) by unfold boolsO; rw [boolArr_congr (n := s.size + 1) (f := rowI (hardP (bs s)) P ⟨4, b, true, rs⟩ (bs s) i) (g := rowI (hardP (bs s)) P ⟨4, b, true, rs⟩ (bs s) (i + 1)) (row_none Hv.out (fun _ => Hc.out))]] at h2; exact sat_same (h2.perm (by ac_rfl)) rfl, ran_same (HRx) rfl⟩
                have e1 : (kd == 1) = false := by rw [beq_eq_false_iff_ne]; exact h1
                have e2 : (kd == 2) = false := by rw [beq_eq_false_iff_ne]; exact h2
                have e4 : (kd == 4) = false := by rw [beq_eq_false_iff_ne]; exact h4
                have Hc : Hid (carry (hardP (bs s)) P ⟨kd, b, neg, rs⟩ (bs s) (i + 1) = false) := Lib.hid (by rw [hcs]; unfold fitsI; rw [if_neg h1, if_neg h2, if_neg h4]; rfl)
                clear hcs h1 h2 h3 h4
                go_wp2_with fail
                refine region_plan (S := (fun w' => w'.cell? ⟨xb, 0, none⟩ = some (.int .i64 kd) ∧ w'.cell? ⟨xb, 1, none⟩ = some (.int .u8 b.toNat) ∧ w'.cell? ⟨xb, 2, none⟩ = some (.bool neg) ∧ w'.cell? ⟨xb, 3, none⟩ = some (.slice ra rs.length rc))) [(0, true), (1, true), (2, true), (3, true), (4, true), (5, true), (6, true), (7, true), (8, true), (9, true), (10, true)] (by kernel_rfl) (by kernel_rfl) (by kernel_rfl) ?_ ?_
                · ((try dsimp only); (first | done | (exact ⟨X0, X1, X2, X3⟩)))
                simp only [planOps, List.map_cons, List.map_nil, List.getElem?_toArray, List.getElem?_cons_zero, List.getElem?_cons_succ]
                repeat (first
                  | ((refine plan_yes (v := ?_) (by rfl) ?_ ?_); rotate_left; (focus (intro w hSw; (try dsimp only at hSw); go_simp; try (with_reducible rfl))); (try simp only [Act.put, List.setIfInBounds_toArray, List.set_cons_zero, List.set_cons_succ]))
                  | ((refine plan_no (by rfl) ?_); (try simp only [Act.put, List.setIfInBounds_toArray, List.set_cons_zero, List.set_cons_succ]))
                  | ((refine plan_step (fun K hK => ?_)); (first | (fail) | (go_simp; (fail); (try go_wp2_with fail)) | go_simp); (refine hK.out _ _ ?_ (fun hHeld => ?_)); (focus ((try dsimp only); (first | done | (exact ⟨X0, X1, X2, X3⟩)))); clear hK K; (try simp only [Act.put, List.setIfInBounds_toArray, List.set_cons_zero, List.set_cons_succ])))
                refine plan_done ?_
                go_wp2_with fail
                refine region_plan (S := (fun w' => w'.cell? ⟨xb, 0, none⟩ = some (.int .i64 kd) ∧ w'.cell? ⟨xb, 1, none⟩ = some (.int .u8 b.toNat) ∧ w'.cell? ⟨xb, 2, none⟩ = some (.bool neg) ∧ w'.cell? ⟨xb, 3, none⟩ = some (.slice ra rs.length rc))) [(0, true), (1, true), (2, true), (3, true), (4, true), (5, true), (6, true), (7, true), (8, true), (9, true), (10, true), (11, true), (12, true), (13, true), (14, true), (15, true), (16, true), (17, true), (18, true), (19, true), (20, true), (21, true), (22, true), (23, true), (24, true), (25, true), (26, true), (27, true)] (by kernel_rfl) (by kernel_rfl) (by kernel_rfl) ?_ ?_
                · ((try dsimp only); (first | done | (exact ⟨X0, X1, X2, X3⟩)))
                simp only [planOps, List.map_cons, List.map_nil, List.getElem?_toArray, List.getElem?_cons_zero, List.getElem?_cons_succ]
                repeat (first
                  | ((refine plan_yes (v := ?_) (by rfl) ?_ ?_); rotate_left; (focus (intro w hSw; (try dsimp only at hSw); go_simp; try (with_reducible rfl))); (try simp only [Act.put, List.setIfInBounds_toArray, List.set_cons_zero, List.set_cons_succ]))
                  | ((refine plan_no (by rfl) ?_); (try simp only [Act.put, List.setIfInBounds_toArray, List.set_cons_zero, List.set_cons_succ]))
                  | ((refine plan_step (fun K hK => ?_)); (first | (fail) | (go_simp; (fail); (try go_wp2_with fail)) | go_simp); (refine hK.out _ _ ?_ (fun hHeld => ?_)); (focus ((try dsimp only); (first | done | (exact ⟨X0, X1, X2, X3⟩)))); clear hK K; (try simp only [Act.put, List.setIfInBounds_toArray, List.set_cons_zero, List.set_cons_succ])))
                refine plan_done ?_
                go_wp2_with fail
                go_roundg (gk - 1)
                case measure => have := Hig.out; omega
                case rel => exact ⟨i + 1, by have := Hig.out; omega, by go_num, by have h2 := HSn; rw [show boolsO (rowI (hardP (bs s)) P ⟨kd, b, neg, rs⟩ (bs s) i) (s.size + 1) = boolsO (rowI (hardP (bs s)) P ⟨kd, b, neg, rs⟩ (bs s) (i + 1)) (s.size + 1) by unfold boolsO; rw [boolArr_congr (n := s.size + 1) (f := rowI (hardP (bs s)) P ⟨kd, b, neg, rs⟩ (bs s) i) (g := rowI (hardP (bs s)) P ⟨kd, b, neg, rs⟩ (bs s) (i + 1)) (row_none Hv.out (fun _ => Hc.out))]] at h2; exact sat_same (h2.perm (by ac_rfl)) rfl, ran_same (HRx) rfl⟩
            · have hnb : ((i : Int) == s.size) = true := by rw [beq_iff_eq]; omega
              have hnb2 : (i == s.size) = true := by rw [beq_iff_eq]; omega
              clear hcs h3 hra
              go_wp2_with fail
              go_roundg (gk - 1)
              case measure => have := Hig.out; omega
              case rel => exact ⟨i + 1, by have := Hig.out; omega, by go_num, by have h2 := HSn; rw [show boolsO (rowI (hardP (bs s)) P ⟨kd, b, neg, rs⟩ (bs s) i) (s.size + 1) = boolsO (rowI (hardP (bs s)) P ⟨kd, b, neg, rs⟩ (bs s) (i + 1)) (s.size + 1) by unfold boolsO; rw [boolArr_congr (n := s.size + 1) (f := rowI (hardP (bs s)) P ⟨kd, b, neg, rs⟩ (bs s) i) (g := rowI (hardP (bs s)) P ⟨kd, b, neg, rs⟩ (bs s) (i + 1)) (row_none Hv.out (fun h => absurd h (by omega)))]] at h2; exact sat_same (h2.perm (by ac_rfl)) rfl, ran_same (HRx) rfl⟩
        · have hge : ¬ ((i : Int) ≤ s.size) := by omega
          obtain rfl : i = s.size + 1 := by omega
          have HF : Sat wr (pts nb (boolsO (R (hardP (bs s)) (p.take (k + 1)) (bs s)) (s.size + 1)) * keep w) := by
            have h2 := HS.right
            rw [show boolsO (rowI (hardP (bs s)) P x (bs s) (s.size + 1)) (s.size + 1) = boolsO (R (hardP (bs s)) (P ++ [x]) (bs s)) (s.size + 1) by unfold boolsO; rw [boolArr_congr (n := s.size + 1) (f := rowI (hardP (bs s)) P x (bs s) (s.size + 1)) (g := R (hardP (bs s)) (P ++ [x]) (bs s)) fun j hj => row_end (hardP (bs s)) P x (bs s) (s.size + 1) j hj], ← Htk.out] at h2
            exact (h2.perm (show _ = pts xb (ritO x ra rc) * (pts nb (boolsO (R (hardP (bs s)) (p.take (k + 1)) (bs s)) (s.size + 1)) * keep w) by ac_rfl)).right
          clear hig HS X0 X1 X2 X3 hra
          go_wp2_with fail
          go_roundg f
          case measure => omega
          case rel => exact ⟨k + 1, nb, by omega, rfl, by go_num, HF, HR⟩
    · have hge : ¬ ((k : Int) < p.length) := by omega
      obtain rfl : k = p.length := by omega
      rw [List.take_length] at HS
      clear hkg
      go_wp2_with fail
      go_ret
      exact ⟨ab, rfl, HS.get, Ran.whole HR HS⟩
end Go.Proofs.YtndjgeohkfenfaaGreatDoor.Globs

