/- HandlesPlays, part 4 of 26: the texts GlD GlE, joined by a program. -/
import Derived.Test.YtndjgeohkfenfaaGreatDoorPq3
import Derived.Test.YtndjgeohkfenfaaGreatDoorPq2
import Derived.Deep.CutBlock
import Derived.WalkMore
import Derived.ProofKit
import Derived.OpenShut
import Derived.ShutString
import Derived.ChangeOld
import Derived.Deep.Slices
import Derived.Lib.SmallJoins
namespace Go.Proofs.YtndjgeohkfenfaaGreatDoor.Globs
open Go.RowKit Go.Proofs.YtndjgeohkfenfaaGreatDoor Go.Proofs.YtndjgeohkfenfaaGreatDoor.Hp
set_option linter.unusedVariables false

theorem hard_at (s : ByteArray) (i sb : Nat) (hi : i < s.size) (hm : (s.size : Int) ≤ 9223372036854775807) : ∀ w : World, w.cell? ⟨sb, 0, none⟩ = some (.string s) →
    Calls Tryz.prog 57 #[.int .i64 i, .pointer (some ⟨sb, 0, none⟩)] w fun e w' => e = .returned (.bool (hardP (bs s) i)) ∧ w = w' := fun w h => hard_calls s i sb w hi hm h
set_option maxRecDepth 100000 in
set_option maxHeartbeats 8000000 in
theorem matches_hard (p : List Itm) (s : ByteArray) (ao : Option Addr) (cap : Nat) (w : World) (sb : Nat) (hsb : sb < w.heap.size) (hsc : w.cell? ⟨sb, 0, none⟩ = some (.string s)) (h : ItemsAt w ao p) (hm : (s.size : Int) ≤ 9223372036854775806) :
    Calls Tryz.prog 56 #[.slice ao p.length cap, .string s, .func (.func 57) #[] #[.pointer (some ⟨sb, 0, none⟩)]] w (FPost (pathB p (bs s)) w) := by
  have hpl := h.1
  have hs0 : (0 : Int) ≤ s.size := by omega
  go_enter Tryz.func56, Tryz.ntmps56
  go_wp2_with fail
  go_step3
  go_wp2_with fail
  go_step3
  go_wp2_with fail
  go_loopg [7, 8, 9, 10] (mu p.length s.size 0 (-1) 0 + 1) (MRel (hardP (bs s)) p s w)
  case atStart => exact ⟨0, 0, -1, 0, rfl, rfl, rfl, rfl, MInv.start, Nat.lt_succ_self _, Below.refl _ _⟩
  case round =>
    obtain ⟨i, k, st, frm, rfl, rfl, rfl, rfl, hI, hg, hbel⟩ := hrel
    have hB := hI.bounds
    rw [bs_length] at hB
    obtain ⟨b1, b2, b3, b4, b5, b6⟩ := hB
    have hi0 : (0 : Int) ≤ i := by omega
    have hk0 : (0 : Int) ≤ k := by omega
    have hK := Kept.below hbel
    have hW := h.keep hK
    have hsw : wr.cell? ⟨sb, 0, none⟩ = some (.string s) := (hK.cell hsb 0).trans hsc
    have hsb3 : ∀ {w3 : World}, Below wr.drew.heap.size wr.drew w3 → w3.cell? ⟨sb, 0, none⟩ = some (.string s) := fun {w3} hb => (World.cell?_of_block (hb.block sb (Nat.lt_of_lt_of_le hsb hK.1))).trans hsw
    by_cases hi : i < s.size
    · have hlt : (i : Int) < s.size := by omega
      by_cases hk : k < p.length
      · have hkl : (k : Int) < p.length := by omega
        obtain ⟨pb, po, ra, rc, rfl, hpb, c0, c1, c2, c3, hra⟩ := hW.2 k hk
        obtain ⟨x, hx⟩ : ∃ x, x = p[k] := ⟨_, rfl⟩
        rw [← hx] at c0 c1 c2 c3 hra
        have Hx := Lib.hid hx
        have hxlen : x.rs.length ≤ 9223372036854775807 := by have := hra.1; omega
        clear hx h hW
        by_cases h3 : x.kind = 3
        · have hI2 := hI.onStar (.inr rfl) hk (by rw [← Hx.out]; exact h3)
          have hmu := mu_star hI hk
          rw [bs_length] at hmu
          have HI := Lib.hid hI2
          have Hg := Lib.hid hg
          have Hmu := Lib.hid hmu
          clear hI hI2 hg hmu
          go_wp2_with fail
          go_roundg (gk - 1)
          case measure => have := Hg.out; omega
          case rel => exact ⟨i, k + 1, k, i, rfl, by go_num, rfl, rfl, HI.out, by have := Hg.out; have := Hmu.out; omega, hbel⟩
        · have e3 : (x.kind == 3) = false := by rw [beq_eq_false_iff_ne]; exact h3
          have F := fits_calls x s[i] ra rc
          by_cases hf : fitsI x s[i] = true
          · rw [hf] at F
            have FF := Lib.hid F
            clear F
            by_cases h1 : x.kind = 1
            · have e1 : (x.kind == 1) = true := by rw [beq_iff_eq]; exact h1
              have hI2 := hI.onFit hk (by rw [← Hx.out]; exact h3) (by rw [bs_length]; exact hi) (by rw [← Hx.out]; exact hf) (by rw [← Hx.out]; unfold may; rw [e1]; rfl)
              have hmu := mu_fit p.length (i := i) (st := st) (frm := frm) (s := bs s) (by rw [bs_length]; exact hi)
              rw [bs_length] at hmu
              have HI := Lib.hid hI2
              have Hg := Lib.hid hg
              have Hmu := Lib.hid hmu
              clear hI hI2 hg hmu hf h1 h3
              go_wp2_with fail
              refine region_plan (S := (fun w' => w'.cell? ⟨pb, po + k * 4, none⟩ = some (.int .i64 x.kind) ∧ w'.cell? ⟨pb, po + k * 4 + 1, none⟩ = some (.int .u8 x.b.toNat) ∧ w'.cell? ⟨pb, po + k * 4 + 2, none⟩ = some (.bool x.neg) ∧ w'.cell? ⟨pb, po + k * 4 + 3, none⟩ = some (.slice ra x.rs.length rc))) [(0, true), (1, true), (2, true), (3, true), (4, true), (5, true), (6, true), (7, true), (8, true), (9, true), (10, true), (11, true), (12, false), (13, true), (14, true), (15, true), (16, true), (17, true), (18, true), (19, true), (20, true), (21, true), (22, true), (23, true), (24, true), (25, true), (26, true), (27, true)] (by kernel_rfl) (by kernel_rfl) (by kernel_rfl) ?_ ?_
              · ((try dsimp only); (first | done | (first | exact ⟨(World.cell?_of_block (hb3.block pb hpb)).trans c0, (World.cell?_of_block (hb3.block pb hpb)).trans c1, (World.cell?_of_block (hb3.block pb hpb)).trans c2, (World.cell?_of_block (hb3.block pb hpb)).trans c3⟩ | exact ⟨c0, c1, c2, c3⟩)))
              simp only [planOps, List.map_cons, List.map_nil, List.getElem?_toArray, List.getElem?_cons_zero, List.getElem?_cons_succ]
              repeat (first
                | ((refine plan_yes (v := ?_) (by rfl) ?_ ?_); rotate_left; (focus (intro w hSw; (try dsimp only at hSw); go_simp; try (with_reducible rfl))); (try simp only [Act.put, List.setIfInBounds_toArray, List.set_cons_zero, List.set_cons_succ]))
                | ((refine plan_no (by rfl) ?_); (try simp only [Act.put, List.setIfInBounds_toArray, List.set_cons_zero, List.set_cons_succ]))
                | ((refine plan_step (fun K hK => ?_)); (first | (go_simp; (first | (go_at_call 95; refine (FF.out _ (by exact hra)).mono ?_; rintro e w3 ⟨rfl, hb3⟩)); (try go_wp2_with fail)) | go_simp); (refine hK.out _ _ ?_ (fun hHeld => ?_)); (focus ((try dsimp only); (first | done | (first | exact ⟨(World.cell?_of_block (hb3.block pb hpb)).trans c0, (World.cell?_of_block (hb3.block pb hpb)).trans c1, (World.cell?_of_block (hb3.block pb hpb)).trans c2, (World.cell?_of_block (hb3.block pb hpb)).trans c3⟩ | exact ⟨c0, c1, c2, c3⟩)))); clear hK K; (try simp only [Act.put, List.setIfInBounds_toArray, List.set_cons_zero, List.set_cons_succ])))
              refine plan_done ?_
              go_wp2_with fail
              go_roundg (gk - 1)
              case measure => have := Hg.out; omega
              case rel => exact ⟨i + 1, k + 1, st, frm, by go_num, by go_num, rfl, rfl, HI.out, by have := Hg.out; have := Hmu.out; omega, below_step hbel hb3⟩
            · have e1 : (x.kind == 1) = false := by rw [beq_eq_false_iff_ne]; exact h1
              have HC := hard_at s i sb hi (by omega)
              by_cases hh : hardP (bs s) i = true
              · rw [hh] at HC
                have HCF0 := Lib.hid HC
                have hM := miss_at (hd := (hardP (bs s))) hk Hx.out (by rw [bs_length]; exact hi) (c := s[i]) rfl h3 (.inr (by unfold may; rw [e1, hh]; rfl))
                have HM := Lib.hid hM
                clear hM HC hf h1 h3 hh
                by_cases hs : st < 0
                · obtain rfl : st = -1 := by omega
                  have hfin := hI.missNone (by rw [bs_length]; exact hi) HM.out
                  have Hfin := Lib.hid hfin
                  clear hI hg hfin
                  go_wp2_with fail
                  refine region_plan (S := (fun w' => w'.cell? ⟨pb, po + k * 4, none⟩ = some (.int .i64 x.kind) ∧ w'.cell? ⟨pb, po + k * 4 + 1, none⟩ = some (.int .u8 x.b.toNat) ∧ w'.cell? ⟨pb, po + k * 4 + 2, none⟩ = some (.bool x.neg) ∧ w'.cell? ⟨pb, po + k * 4 + 3, none⟩ = some (.slice ra x.rs.length rc))) [(0, true), (1, true), (2, true), (3, true), (4, true), (5, true), (6, true), (7, true), (8, true), (9, true), (10, true), (11, true), (12, false), (13, true), (14, true), (15, true), (16, true), (17, true), (18, true), (19, true), (20, true), (21, true), (22, true), (23, true), (24, false), (25, true), (26, true), (27, true)] (by kernel_rfl) (by kernel_rfl) (by kernel_rfl) ?_ ?_
                  · ((try dsimp only); (first | done | (first | exact ⟨(World.cell?_of_block (hb3.block pb hpb)).trans c0, (World.cell?_of_block (hb3.block pb hpb)).trans c1, (World.cell?_of_block (hb3.block pb hpb)).trans c2, (World.cell?_of_block (hb3.block pb hpb)).trans c3⟩ | exact ⟨c0, c1, c2, c3⟩)))
                  simp only [planOps, List.map_cons, List.map_nil, List.getElem?_toArray, List.getElem?_cons_zero, List.getElem?_cons_succ]
                  repeat (first
                    | ((refine plan_yes (v := ?_) (by rfl) ?_ ?_); rotate_left; (focus (intro w hSw; (try dsimp only at hSw); go_simp; try (with_reducible rfl))); (try simp only [Act.put, List.setIfInBounds_toArray, List.set_cons_zero, List.set_cons_succ]))
                    | ((refine plan_no (by rfl) ?_); (try simp only [Act.put, List.setIfInBounds_toArray, List.set_cons_zero, List.set_cons_succ]))
                    | ((refine plan_step (fun K hK => ?_)); (first | (go_simp; (first | (go_at_call 95; refine (FF.out _ (by exact hra)).mono ?_; rintro e w3 ⟨rfl, hb3⟩) | (go_at_call 57; refine (HCF0.out _ (by exact (hsb3 hb3))).mono ?_; rintro e w4 ⟨rfl, rfl⟩)); (try go_wp2_with fail)) | go_simp); (refine hK.out _ _ ?_ (fun hHeld => ?_)); (focus ((try dsimp only); (first | done | (first | exact ⟨(World.cell?_of_block (hb3.block pb hpb)).trans c0, (World.cell?_of_block (hb3.block pb hpb)).trans c1, (World.cell?_of_block (hb3.block pb hpb)).trans c2, (World.cell?_of_block (hb3.block pb hpb)).trans c3⟩ | exact ⟨c0, c1, c2, c3⟩)))); clear hK K; (try simp only [Act.put, List.setIfInBounds_toArray, List.set_cons_zero, List.set_cons_succ])))
                  refine plan_done ?_
                  go_wp2_with fail
                  try rw [Exit.noGoto_ret]
                  go_ret
                  exact ⟨show Ending.returned (.bool false) = _ by rw [pathB_M, Hfin.out], below_step hbel hb3⟩
                · have hs0' : (0 : Int) ≤ st := by omega
                  by_cases hh : hardP (bs s) frm = true
                  · have hfin := hI.missHard hs0' (by rw [bs_length]; exact hi) HM.out hh
                    have Hfin := Lib.hid hfin
                    have HC := hard_at s frm sb (by omega) (by omega)
                    rw [hh] at HC
                    have HCF := Lib.hid HC
                    clear hI hg hfin hh HC
                    go_wp2_with fail
                    refine region_plan (S := (fun w' => w'.cell? ⟨pb, po + k * 4, none⟩ = some (.int .i64 x.kind) ∧ w'.cell? ⟨pb, po + k * 4 + 1, none⟩ = some (.int .u8 x.b.toNat) ∧ w'.cell? ⟨pb, po + k * 4 + 2, none⟩ = some (.bool x.neg) ∧ w'.cell? ⟨pb, po + k * 4 + 3, none⟩ = some (.slice ra x.rs.length rc))) [(0, true), (1, true), (2, true), (3, true), (4, true), (5, true), (6, true), (7, true), (8, true), (9, true), (10, true), (11, true), (12, false), (13, true), (14, true), (15, true), (16, true), (17, true), (18, true), (19, true), (20, true), (21, true), (22, true), (23, true), (24, false), (25, true), (26, true), (27, true)] (by kernel_rfl) (by kernel_rfl) (by kernel_rfl) ?_ ?_
                    · ((try dsimp only); (first | done | (first | exact ⟨(World.cell?_of_block (hb3.block pb hpb)).trans c0, (World.cell?_of_block (hb3.block pb hpb)).trans c1, (World.cell?_of_block (hb3.block pb hpb)).trans c2, (World.cell?_of_block (hb3.block pb hpb)).trans c3⟩ | exact ⟨c0, c1, c2, c3⟩)))
                    simp only [planOps, List.map_cons, List.map_nil, List.getElem?_toArray, List.getElem?_cons_zero, List.getElem?_cons_succ]
                    repeat (first
                      | ((refine plan_yes (v := ?_) (by rfl) ?_ ?_); rotate_left; (focus (intro w hSw; (try dsimp only at hSw); go_simp; try (with_reducible rfl))); (try simp only [Act.put, List.setIfInBounds_toArray, List.set_cons_zero, List.set_cons_succ]))
                      | ((refine plan_no (by rfl) ?_); (try simp only [Act.put, List.setIfInBounds_toArray, List.set_cons_zero, List.set_cons_succ]))
                      | ((refine plan_step (fun K hK => ?_)); (first | (go_simp; (first | (go_at_call 95; refine (FF.out _ (by exact hra)).mono ?_; rintro e w3 ⟨rfl, hb3⟩) | (go_at_call 57; refine (HCF0.out _ (by exact (hsb3 hb3))).mono ?_; rintro e w4 ⟨rfl, rfl⟩)); (try go_wp2_with fail)) | go_simp); (refine hK.out _ _ ?_ (fun hHeld => ?_)); (focus ((try dsimp only); (first | done | (first | exact ⟨(World.cell?_of_block (hb3.block pb hpb)).trans c0, (World.cell?_of_block (hb3.block pb hpb)).trans c1, (World.cell?_of_block (hb3.block pb hpb)).trans c2, (World.cell?_of_block (hb3.block pb hpb)).trans c3⟩ | exact ⟨c0, c1, c2, c3⟩)))); clear hK K; (try simp only [Act.put, List.setIfInBounds_toArray, List.set_cons_zero, List.set_cons_succ])))
                    refine plan_done ?_
                    go_wp2_with (first | (go_at_call 57; refine (HCF.out _ (by exact (hsb3 hb3))).mono ?_; rintro e w4 ⟨rfl, rfl⟩))
                    try rw [Exit.noGoto_ret]
                    go_ret
                    exact ⟨show Ending.returned (.bool false) = _ by rw [pathB_M, Hfin.out], below_step hbel hb3⟩
                  · rw [Bool.not_eq_true] at hh
                    have hI2 := hI.missOn hs0' (by rw [bs_length]; exact hi) HM.out hh
                    have hmu := mu_miss hI (by rw [bs_length]; exact hi)
                    rw [bs_length] at hmu
                    have HI := Lib.hid hI2
                    have Hg := Lib.hid hg
                    have Hmu := Lib.hid hmu
                    clear hI hI2 hg hmu
                    have Hh := Lib.hid hh
                    have HC := hard_at s frm sb (by omega) (by omega)
                    rw [hh] at HC
                    have HCF := Lib.hid HC
                    clear hh HC
                    go_wp2_with fail
                    refine region_plan (S := (fun w' => w'.cell? ⟨pb, po + k * 4, none⟩ = some (.int .i64 x.kind) ∧ w'.cell? ⟨pb, po + k * 4 + 1, none⟩ = some (.int .u8 x.b.toNat) ∧ w'.cell? ⟨pb, po + k * 4 + 2, none⟩ = some (.bool x.neg) ∧ w'.cell? ⟨pb, po + k * 4 + 3, none⟩ = some (.slice ra x.rs.length rc))) [(0, true), (1, true), (2, true), (3, true), (4, true), (5, true), (6, true), (7, true), (8, true), (9, true), (10, true), (11, true), (12, false), (13, true), (14, true), (15, true), (16, true), (17, true), (18, true), (19, true), (20, true), (21, true), (22, true), (23, true), (24, false), (25, true), (26, true), (27, true)] (by kernel_rfl) (by kernel_rfl) (by kernel_rfl) ?_ ?_
                    · ((try dsimp only); (first | done | (first | exact ⟨(World.cell?_of_block (hb3.block pb hpb)).trans c0, (World.cell?_of_block (hb3.block pb hpb)).trans c1, (World.cell?_of_block (hb3.block pb hpb)).trans c2, (World.cell?_of_block (hb3.block pb hpb)).trans c3⟩ | exact ⟨c0, c1, c2, c3⟩)))
                    simp only [planOps, List.map_cons, List.map_nil, List.getElem?_toArray, List.getElem?_cons_zero, List.getElem?_cons_succ]
                    repeat (first
                      | ((refine plan_yes (v := ?_) (by rfl) ?_ ?_); rotate_left; (focus (intro w hSw; (try dsimp only at hSw); go_simp; try (with_reducible rfl))); (try simp only [Act.put, List.setIfInBounds_toArray, List.set_cons_zero, List.set_cons_succ]))
                      | ((refine plan_no (by rfl) ?_); (try simp only [Act.put, List.setIfInBounds_toArray, List.set_cons_zero, List.set_cons_succ]))
                      | ((refine plan_step (fun K hK => ?_)); (first | (go_simp; (first | (go_at_call 95; refine (FF.out _ (by exact hra)).mono ?_; rintro e w3 ⟨rfl, hb3⟩) | (go_at_call 57; refine (HCF0.out _ (by exact (hsb3 hb3))).mono ?_; rintro e w4 ⟨rfl, rfl⟩)); (try go_wp2_with fail)) | go_simp); (refine hK.out _ _ ?_ (fun hHeld => ?_)); (focus ((try dsimp only); (first | done | (first | exact ⟨(World.cell?_of_block (hb3.block pb hpb)).trans c0, (World.cell?_of_block (hb3.block pb hpb)).trans c1, (World.cell?_of_block (hb3.block pb hpb)).trans c2, (World.cell?_of_block (hb3.block pb hpb)).trans c3⟩ | exact ⟨c0, c1, c2, c3⟩)))); clear hK K; (try simp only [Act.put, List.setIfInBounds_toArray, List.set_cons_zero, List.set_cons_succ])))
                    refine plan_done ?_
                    go_wp2_with (first | (go_at_call 57; refine (HCF.out _ (by exact (hsb3 hb3))).mono ?_; rintro e w4 ⟨rfl, rfl⟩))
                    go_roundg (gk - 1)
                    case measure => have := Hg.out; omega
                    case rel => exact ⟨frm + 1, st.toNat + 1, st, frm + 1, by go_num, by first | (congr 1; omega) | congr 1, rfl, by go_num, HI.out, by have := Hg.out; have := Hmu.out; omega, below_step hbel hb3⟩
              · rw [Bool.not_eq_true] at hh
                rw [hh] at HC
                have HCF := Lib.hid HC
                clear HC
                have hI2 := hI.onFit hk (by rw [← Hx.out]; exact h3) (by rw [bs_length]; exact hi) (by rw [← Hx.out]; exact hf) (by rw [← Hx.out]; unfold may; rw [e1]; rw [hh]; rfl)
                have hmu := mu_fit p.length (i := i) (st := st) (frm := frm) (s := bs s) (by rw [bs_length]; exact hi)
                rw [bs_length] at hmu
                have HI := Lib.hid hI2
                have Hg := Lib.hid hg
                have Hmu := Lib.hid hmu
                clear hI hI2 hg hmu hf h1 h3 hh
                go_wp2_with fail
                refine region_plan (S := (fun w' => w'.cell? ⟨pb, po + k * 4, none⟩ = some (.int .i64 x.kind) ∧ w'.cell? ⟨pb, po + k * 4 + 1, none⟩ = some (.int .u8 x.b.toNat) ∧ w'.cell? ⟨pb, po + k * 4 + 2, none⟩ = some (.bool x.neg) ∧ w'.cell? ⟨pb, po + k * 4 + 3, none⟩ = some (.slice ra x.rs.length rc))) [(0, true), (1, true), (2, true), (3, true), (4, true), (5, true), (6, true), (7, true), (8, true), (9, true), (10, true), (11, true), (12, false), (13, true), (14, true), (15, true), (16, true), (17, true), (18, true), (19, true), (20, true), (21, true), (22, true), (23, true), (24, false), (25, true), (26, true), (27, true)] (by kernel_rfl) (by kernel_rfl) (by kernel_rfl) ?_ ?_
                · ((try dsimp only); (first | done | (first | exact ⟨(World.cell?_of_block (hb3.block pb hpb)).trans c0, (World.cell?_of_block (hb3.block pb hpb)).trans c1, (World.cell?_of_block (hb3.block pb hpb)).trans c2, (World.cell?_of_block (hb3.block pb hpb)).trans c3⟩ | exact ⟨c0, c1, c2, c3⟩)))
                simp only [planOps, List.map_cons, List.map_nil, List.getElem?_toArray, List.getElem?_cons_zero, List.getElem?_cons_succ]
                repeat (first
                  | ((refine plan_yes (v := ?_) (by rfl) ?_ ?_); rotate_left; (focus (intro w hSw; (try dsimp only at hSw); go_simp; try (with_reducible rfl))); (try simp only [Act.put, List.setIfInBounds_toArray, List.set_cons_zero, List.set_cons_succ]))
                  | ((refine plan_no (by rfl) ?_); (try simp only [Act.put, List.setIfInBounds_toArray, List.set_cons_zero, List.set_cons_succ]))
                  | ((refine plan_step (fun K hK => ?_)); (first | (go_simp; (first | (go_at_call 95; refine (FF.out _ (by exact hra)).mono ?_; rintro e w3 ⟨rfl, hb3⟩) | (go_at_call 57; refine (HCF.out _ (by exact (hsb3 hb3))).mono ?_; rintro e w4 ⟨rfl, rfl⟩)); (try go_wp2_with fail)) | go_simp); (refine hK.out _ _ ?_ (fun hHeld => ?_)); (focus ((try dsimp only); (first | done | (first | exact ⟨(World.cell?_of_block (hb3.block pb hpb)).trans c0, (World.cell?_of_block (hb3.block pb hpb)).trans c1, (World.cell?_of_block (hb3.block pb hpb)).trans c2, (World.cell?_of_block (hb3.block pb hpb)).trans c3⟩ | exact ⟨c0, c1, c2, c3⟩)))); clear hK K; (try simp only [Act.put, List.setIfInBounds_toArray, List.set_cons_zero, List.set_cons_succ])))
                refine plan_done ?_
                go_wp2_with fail
                go_roundg (gk - 1)
                case measure => have := Hg.out; omega
                case rel => exact ⟨i + 1, k + 1, st, frm, by go_num, by go_num, rfl, rfl, HI.out, by have := Hg.out; have := Hmu.out; omega, below_step hbel hb3⟩
          · rw [Bool.not_eq_true] at hf
            rw [hf] at F
            have FF := Lib.hid F
            clear F
            have hM := miss_at (hd := (hardP (bs s))) hk Hx.out (by rw [bs_length]; exact hi) (c := s[i]) rfl h3 (.inl hf)
            have HM := Lib.hid hM
            clear hM hf h3
            by_cases hs : st < 0
            · obtain rfl : st = -1 := by omega
              have hfin := hI.missNone (by rw [bs_length]; exact hi) HM.out
              have Hfin := Lib.hid hfin
              clear hI hg hfin
              go_wp2_with fail
              refine region_plan (S := (fun w' => w'.cell? ⟨pb, po + k * 4, none⟩ = some (.int .i64 x.kind) ∧ w'.cell? ⟨pb, po + k * 4 + 1, none⟩ = some (.int .u8 x.b.toNat) ∧ w'.cell? ⟨pb, po + k * 4 + 2, none⟩ = some (.bool x.neg) ∧ w'.cell? ⟨pb, po + k * 4 + 3, none⟩ = some (.slice ra x.rs.length rc))) [(0, true), (1, true), (2, true), (3, true), (4, true), (5, true), (6, true), (7, true), (8, true), (9, true), (10, true), (11, true), (12, false), (13, true), (14, true), (15, true), (16, true), (17, true), (18, true), (19, true), (20, true), (21, true), (22, true), (23, true), (24, true), (25, true), (26, true), (27, true)] (by kernel_rfl) (by kernel_rfl) (by kernel_rfl) ?_ ?_
              · ((try dsimp only); (first | done | (first | exact ⟨(World.cell?_of_block (hb3.block pb hpb)).trans c0, (World.cell?_of_block (hb3.block pb hpb)).trans c1, (World.cell?_of_block (hb3.block pb hpb)).trans c2, (World.cell?_of_block (hb3.block pb hpb)).trans c3⟩ | exact ⟨c0, c1, c2, c3⟩)))
              simp only [planOps, List.map_cons, List.map_nil, List.getElem?_toArray, List.getElem?_cons_zero, List.getElem?_cons_succ]
              repeat (first
                | ((refine plan_yes (v := ?_) (by rfl) ?_ ?_); rotate_left; (focus (intro w hSw; (try dsimp only at hSw); go_simp; try (with_reducible rfl))); (try simp only [Act.put, List.setIfInBounds_toArray, List.set_cons_zero, List.set_cons_succ]))
                | ((refine plan_no (by rfl) ?_); (try simp only [Act.put, List.setIfInBounds_toArray, List.set_cons_zero, List.set_cons_succ]))
                | ((refine plan_step (fun K hK => ?_)); (first | (go_simp; (first | (go_at_call 95; refine (FF.out _ (by exact hra)).mono ?_; rintro e w3 ⟨rfl, hb3⟩)); (try go_wp2_with fail)) | go_simp); (refine hK.out _ _ ?_ (fun hHeld => ?_)); (focus ((try dsimp only); (first | done | (first | exact ⟨(World.cell?_of_block (hb3.block pb hpb)).trans c0, (World.cell?_of_block (hb3.block pb hpb)).trans c1, (World.cell?_of_block (hb3.block pb hpb)).trans c2, (World.cell?_of_block (hb3.block pb hpb)).trans c3⟩ | exact ⟨c0, c1, c2, c3⟩)))); clear hK K; (try simp only [Act.put, List.setIfInBounds_toArray, List.set_cons_zero, List.set_cons_succ])))
              refine plan_done ?_
              go_wp2_with fail
              try rw [Exit.noGoto_ret]
              go_ret
              exact ⟨show Ending.returned (.bool false) = _ by rw [pathB_M, Hfin.out], below_step hbel hb3⟩
            · have hs0' : (0 : Int) ≤ st := by omega
              by_cases hh : hardP (bs s) frm = true
              · have hfin := hI.missHard hs0' (by rw [bs_length]; exact hi) HM.out hh
                have Hfin := Lib.hid hfin
                have HC := hard_at s frm sb (by omega) (by omega)
                rw [hh] at HC
                have HCF := Lib.hid HC
                clear hI hg hfin hh HC
                go_wp2_with fail
                refine region_plan (S := (fun w' => w'.cell? ⟨pb, po + k * 4, none⟩ = some (.int .i64 x.kind) ∧ w'.cell? ⟨pb, po + k * 4 + 1, none⟩ = some (.int .u8 x.b.toNat) ∧ w'.cell? ⟨pb, po + k * 4 + 2, none⟩ = some (.bool x.neg) ∧ w'.cell? ⟨pb, po + k * 4 + 3, none⟩ = some (.slice ra x.rs.length rc))) [(0, true), (1, true), (2, true), (3, true), (4, true), (5, true), (6, true), (7, true), (8, true), (9, true), (10, true), (11, true), (12, false), (13, true), (14, true), (15, true), (16, true), (17, true), (18, true), (19, true), (20, true), (21, true), (22, true), (23, true), (24, true), (25, true), (26, true), (27, true)] (by kernel_rfl) (by kernel_rfl) (by kernel_rfl) ?_ ?_
                · ((try dsimp only); (first | done | (first | exact ⟨(World.cell?_of_block (hb3.block pb hpb)).trans c0, (World.cell?_of_block (hb3.block pb hpb)).trans c1, (World.cell?_of_block (hb3.block pb hpb)).trans c2, (World.cell?_of_block (hb3.block pb hpb)).trans c3⟩ | exact ⟨c0, c1, c2, c3⟩)))
                simp only [planOps, List.map_cons, List.map_nil, List.getElem?_toArray, List.getElem?_cons_zero, List.getElem?_cons_succ]
                repeat (first
                  | ((refine plan_yes (v := ?_) (by rfl) ?_ ?_); rotate_left; (focus (intro w hSw; (try dsimp only at hSw); go_simp; try (with_reducible rfl))); (try simp only [Act.put, List.setIfInBounds_toArray, List.set_cons_zero, List.set_cons_succ]))
                  | ((refine plan_no (by rfl) ?_); (try simp only [Act.put, List.setIfInBounds_toArray, List.set_cons_zero, List.set_cons_succ]))
                  | ((refine plan_step (fun K hK => ?_)); (first | (go_simp; (first | (go_at_call 95; refine (FF.out _ (by exact hra)).mono ?_; rintro e w3 ⟨rfl, hb3⟩)); (try go_wp2_with fail)) | go_simp); (refine hK.out _ _ ?_ (fun hHeld => ?_)); (focus ((try dsimp only); (first | done | (first | exact ⟨(World.cell?_of_block (hb3.block pb hpb)).trans c0, (World.cell?_of_block (hb3.block pb hpb)).trans c1, (World.cell?_of_block (hb3.block pb hpb)).trans c2, (World.cell?_of_block (hb3.block pb hpb)).trans c3⟩ | exact ⟨c0, c1, c2, c3⟩)))); clear hK K; (try simp only [Act.put, List.setIfInBounds_toArray, List.set_cons_zero, List.set_cons_succ])))
                refine plan_done ?_
                go_wp2_with (first | (go_at_call 57; refine (HCF.out _ (by exact (hsb3 hb3))).mono ?_; rintro e w4 ⟨rfl, rfl⟩))
                try rw [Exit.noGoto_ret]
                go_ret
                exact ⟨show Ending.returned (.bool false) = _ by rw [pathB_M, Hfin.out], below_step hbel hb3⟩
              · rw [Bool.not_eq_true] at hh
                have hI2 := hI.missOn hs0' (by rw [bs_length]; exact hi) HM.out hh
                have hmu := mu_miss hI (by rw [bs_length]; exact hi)
                rw [bs_length] at hmu
                have HI := Lib.hid hI2
                have Hg := Lib.hid hg
                have Hmu := Lib.hid hmu
                clear hI hI2 hg hmu
                have Hh := Lib.hid hh
                have HC := hard_at s frm sb (by omega) (by omega)
                rw [hh] at HC
                have HCF := Lib.hid HC
                clear hh HC
                go_wp2_with fail
                refine region_plan (S := (fun w' => w'.cell? ⟨pb, po + k * 4, none⟩ = some (.int .i64 x.kind) ∧ w'.cell? ⟨pb, po + k * 4 + 1, none⟩ = some (.int .u8 x.b.toNat) ∧ w'.cell? ⟨pb, po + k * 4 + 2, none⟩ = some (.bool x.neg) ∧ w'.cell? ⟨pb, po + k * 4 + 3, none⟩ = some (.slice ra x.rs.length rc))) [(0, true), (1, true), (2, true), (3, true), (4, true), (5, true), (6, true), (7, true), (8, true), (9, true), (10, true), (11, true), (12, false), (13, true), (14, true), (15, true), (16, true), (17, true), (18, true), (19, true), (20, true), (21, true), (22, true), (23, true), (24, true), (25, true), (26, true), (27, true)] (by kernel_rfl) (by kernel_rfl) (by kernel_rfl) ?_ ?_
                · ((try dsimp only); (first | done | (first | exact ⟨(World.cell?_of_block (hb3.block pb hpb)).trans c0, (World.cell?_of_block (hb3.block pb hpb)).trans c1, (World.cell?_of_block (hb3.block pb hpb)).trans c2, (World.cell?_of_block (hb3.block pb hpb)).trans c3⟩ | exact ⟨c0, c1, c2, c3⟩)))
                simp only [planOps, List.map_cons, List.map_nil, List.getElem?_toArray, List.getElem?_cons_zero, List.getElem?_cons_succ]
                repeat (first
                  | ((refine plan_yes (v := ?_) (by rfl) ?_ ?_); rotate_left; (focus (intro w hSw; (try dsimp only at hSw); go_simp; try (with_reducible rfl))); (try simp only [Act.put, List.setIfInBounds_toArray, List.set_cons_zero, List.set_cons_succ]))
                  | ((refine plan_no (by rfl) ?_); (try simp only [Act.put, List.setIfInBounds_toArray, List.set_cons_zero, List.set_cons_succ]))
                  | ((refine plan_step (fun K hK => ?_)); (first | (go_simp; (first | (go_at_call 95; refine (FF.out _ (by exact hra)).mono ?_; rintro e w3 ⟨rfl, hb3⟩)); (try go_wp2_with fail)) | go_simp); (refine hK.out _ _ ?_ (fun hHeld => ?_)); (focus ((try dsimp only); (first | done | (first | exact ⟨(World.cell?_of_block (hb3.block pb hpb)).trans c0, (World.cell?_of_block (hb3.block pb hpb)).trans c1, (World.cell?_of_block (hb3.block pb hpb)).trans c2, (World.cell?_of_block (hb3.block pb hpb)).trans c3⟩ | exact ⟨c0, c1, c2, c3⟩)))); clear hK K; (try simp only [Act.put, List.setIfInBounds_toArray, List.set_cons_zero, List.set_cons_succ])))
                refine plan_done ?_
                go_wp2_with (first | (go_at_call 57; refine (HCF.out _ (by exact (hsb3 hb3))).mono ?_; rintro e w4 ⟨rfl, rfl⟩))
                go_roundg (gk - 1)
                case measure => have := Hg.out; omega
                case rel => exact ⟨frm + 1, st.toNat + 1, st, frm + 1, by go_num, by first | (congr 1; omega) | congr 1, rfl, by go_num, HI.out, by have := Hg.out; have := Hmu.out; omega, below_step hbel hb3⟩
      · have hkl : ¬ ((k : Int) < p.length) := by omega
        have hM := miss_end (hd := (hardP (bs s))) (s := bs s) (i := i) hk
        have HM := Lib.hid hM
        have hkd : decide ((k : Int) < p.length) = false := by simpa using hkl
        have hkd2 : decide (k < p.length) = false := by simpa using hk
        clear hM hW
        by_cases hs : st < 0
        · obtain rfl : st = -1 := by omega
          have hfin := hI.missNone (by rw [bs_length]; exact hi) HM.out
          have Hfin := Lib.hid hfin
          clear hI hg hfin
          go_wp2_with fail
          refine region_plan (S := (fun _ => True)) [(0, true), (1, true), (2, true), (3, true), (4, true), (5, true), (6, true), (7, true), (8, true), (9, true), (10, true), (11, true), (12, true), (13, true), (14, true), (15, true), (16, true), (17, true), (18, true), (19, true), (20, true), (21, true), (22, true), (23, true), (24, true), (25, true), (26, true), (27, true)] (by kernel_rfl) (by kernel_rfl) (by kernel_rfl) ?_ ?_
          · ((try dsimp only); (first | done | (trivial)))
          simp only [planOps, List.map_cons, List.map_nil, List.getElem?_toArray, List.getElem?_cons_zero, List.getElem?_cons_succ]
          repeat (first
            | ((refine plan_yes (v := ?_) (by rfl) ?_ ?_); rotate_left; (focus (intro w hSw; (try dsimp only at hSw); go_simp; try (with_reducible rfl))); (try simp only [Act.put, List.setIfInBounds_toArray, List.set_cons_zero, List.set_cons_succ]))
            | ((refine plan_no (by rfl) ?_); (try simp only [Act.put, List.setIfInBounds_toArray, List.set_cons_zero, List.set_cons_succ]))
            | ((refine plan_step (fun K hK => ?_)); (first | (fail) | (go_simp; (fail); (try go_wp2_with fail)) | go_simp); (refine hK.out _ _ ?_ (fun hHeld => ?_)); (focus ((try dsimp only); (first | done | (trivial)))); clear hK K; (try simp only [Act.put, List.setIfInBounds_toArray, List.set_cons_zero, List.set_cons_succ])))
          refine plan_done ?_
          go_wp2_with fail
          try rw [Exit.noGoto_ret]
          go_ret
          exact ⟨show Ending.returned (.bool false) = _ by rw [pathB_M, Hfin.out], Below.drew hbel⟩
        · have hs0' : (0 : Int) ≤ st := by omega
          by_cases hh : hardP (bs s) frm = true
          · have hfin := hI.missHard hs0' (by rw [bs_length]; exact hi) HM.out hh
            have Hfin := Lib.hid hfin
            have HC := hard_at s frm sb (by omega) (by omega)
            rw [hh] at HC
            have HCF := Lib.hid HC
            clear hI hg hfin hh HC
            go_wp2_with fail
            refine region_plan (S := (fun _ => True)) [(0, true), (1, true), (2, true), (3, true), (4, true), (5, true), (6, true), (7, true), (8, true), (9, true), (10, true), (11, true), (12, true), (13, true), (14, true), (15, true), (16, true), (17, true), (18, true), (19, true), (20, true), (21, true), (22, true), (23, true), (24, true), (25, true), (26, true), (27, true)] (by kernel_rfl) (by kernel_rfl) (by kernel_rfl) ?_ ?_
            · ((try dsimp only); (first | done | (trivial)))
            simp only [planOps, List.map_cons, List.map_nil, List.getElem?_toArray, List.getElem?_cons_zero, List.getElem?_cons_succ]
            repeat (first
              | ((refine plan_yes (v := ?_) (by rfl) ?_ ?_); rotate_left; (focus (intro w hSw; (try dsimp only at hSw); go_simp; try (with_reducible rfl))); (try simp only [Act.put, List.setIfInBounds_toArray, List.set_cons_zero, List.set_cons_succ]))
              | ((refine plan_no (by rfl) ?_); (try simp only [Act.put, List.setIfInBounds_toArray, List.set_cons_zero, List.set_cons_succ]))
              | ((refine plan_step (fun K hK => ?_)); (first | (fail) | (go_simp; (fail); (try go_wp2_with fail)) | go_simp); (refine hK.out _ _ ?_ (fun hHeld => ?_)); (focus ((try dsimp only); (first | done | (trivial)))); clear hK K; (try simp only [Act.put, List.setIfInBounds_toArray, List.set_cons_zero, List.set_cons_succ])))
            refine plan_done ?_
            go_wp2_with (first | (go_at_call 57; refine (HCF.out _ (by exact hsw)).mono ?_; rintro e w4 ⟨rfl, rfl⟩))
            try rw [Exit.noGoto_ret]
            go_ret
            exact ⟨show Ending.returned (.bool false) = _ by rw [pathB_M, Hfin.out], Below.drew hbel⟩
          · rw [Bool.not_eq_true] at hh
            have hI2 := hI.missOn hs0' (by rw [bs_length]; exact hi) HM.out hh
            have hmu := mu_miss hI (by rw [bs_length]; exact hi)
            rw [bs_length] at hmu
            have HI := Lib.hid hI2
            have Hg := Lib.hid hg
            have Hmu := Lib.hid hmu
            clear hI hI2 hg hmu
            have Hh := Lib.hid hh
            have HC := hard_at s frm sb (by omega) (by omega)
            rw [hh] at HC
            have HCF := Lib.hid HC
            clear hh HC
            go_wp2_with fail
            refine region_plan (S := (fun _ => True)) [(0, true), (1, true), (2, true), (3, true), (4, true), (5, true), (6, true), (7, true), (8, true), (9, true), (10, true), (11, true), (12, true), (13, true), (14, true), (15, true), (16, true), (17, true), (18, true), (19, true), (20, true), (21, true), (22, true), (23, true), (24, true), (25, true), (26, true), (27, true)] (by kernel_rfl) (by kernel_rfl) (by kernel_rfl) ?_ ?_
            · ((try dsimp only); (first | done | (trivial)))
            simp only [planOps, List.map_cons, List.map_nil, List.getElem?_toArray, List.getElem?_cons_zero, List.getElem?_cons_succ]
            repeat (first
              | ((refine plan_yes (v := ?_) (by rfl) ?_ ?_); rotate_left; (focus (intro w hSw; (try dsimp only at hSw); go_simp; try (with_reducible rfl))); (try simp only [Act.put, List.setIfInBounds_toArray, List.set_cons_zero, List.set_cons_succ]))
              | ((refine plan_no (by rfl) ?_); (try simp only [Act.put, List.setIfInBounds_toArray, List.set_cons_zero, List.set_cons_succ]))
              | ((refine plan_step (fun K hK => ?_)); (first | (fail) | (go_simp; (fail); (try go_wp2_with fail)) | go_simp); (refine hK.out _ _ ?_ (fun hHeld => ?_)); (focus ((try dsimp only); (first | done | (trivial)))); clear hK K; (try simp only [Act.put, List.setIfInBounds_toArray, List.set_cons_zero, List.set_cons_succ])))
            refine plan_done ?_
            go_wp2_with (first | (go_at_call 57; refine (HCF.out _ (by exact hsw)).mono ?_; rintro e w4 ⟨rfl, rfl⟩))
            go_roundg (gk - 1)
            case measure => have := Hg.out; omega
            case rel => exact ⟨frm + 1, st.toNat + 1, st, frm + 1, by go_num, by first | (congr 1; omega) | congr 1, rfl, by go_num, HI.out, by have := Hg.out; have := Hmu.out; omega, Below.drew hbel⟩
    · have hge : ¬ ((i : Int) < s.size) := by omega
      have hend := hI.atEnd (by rw [bs_length]; omega)
      rw [show i = s.size by omega] at hend
      have Hend := Lib.hid hend
      clear hI hg hW b6 hend
      go_wp2_with fail
      go_loopg [8] (p.length - k) (MRel2 (hardP (bs s)) p s w)
      case atStart => exact ⟨k, rfl, by omega, Hend.out, hbel⟩
      case round =>
        clear hbel hK hk0 b1 b2 b3 b4 b5
        obtain ⟨k, rfl, hkg, hend, hbel⟩ := hrel
        have hk0 : (0 : Int) ≤ k := by omega
        have hK := Kept.below hbel
        have hW := h.keep hK
        by_cases hk : k < p.length
        · have hkl : (k : Int) < p.length := by omega
          obtain ⟨pb, po, ra, rc, rfl, hpb, c0, c1, c2, c3, hra⟩ := hW.2 k hk
          obtain ⟨x, hx⟩ : ∃ x, x = p[k] := ⟨_, rfl⟩
          rw [← hx] at c0 c1 c2 c3 hra
          have Hx := Lib.hid hx
          have Hkg := Lib.hid hkg
          clear hx h hW hkg Hend
          by_cases h3 : x.kind = 3
          · have hst : M (hardP (bs s)) p (bs s) k s.size = M (hardP (bs s)) p (bs s) (k + 1) s.size := by
              have := M_tail_star (hd := (hardP (bs s))) (s := bs s) hk (by rw [← Hx.out]; exact h3)
              rwa [bs_length] at this
            have Hend := Lib.hid (hend.trans hst)
            clear hend hst
            go_wp2_with fail
            go_roundg (gk - 1)
            case measure => have := Hkg.out; omega
            case rel => exact ⟨k + 1, by go_num, by have := Hkg.out; omega, by exact Hend.out, hbel⟩
          · have e3 : (x.kind == 3) = false := by rw [beq_eq_false_iff_ne]; exact h3
            have hne : ((k : Int) == p.length) = false := by rw [beq_eq_false_iff_ne]; omega
            have hne2 : (k == p.length) = false := by rw [beq_eq_false_iff_ne]; omega
            have hfin : M (hardP (bs s)) p (bs s) 0 0 = false := by rw [hend, ← bs_length]; exact M_one_end _ _ _ _ _ hk (by rw [← Hx.out]; exact h3) (Nat.le_refl _)
            have Hfin := Lib.hid hfin
            clear hend hfin
            go_wp2_with fail
            try rw [Exit.noGoto_ret]
            go_ret
            exact ⟨show Ending.returned (.bool false) = _ by rw [pathB_M, Hfin.out], hbel⟩
        · have hkl : ¬ ((k : Int) < p.length) := by omega
          obtain rfl : k = p.length := by omega
          have hfin : M (hardP (bs s)) p (bs s) 0 0 = true := by rw [hend, M_end _ _ _ _ _ (Nat.le_refl _) (by rw [bs_length]; exact Nat.le_refl _), bs_length]; simp
          have Hfin := Lib.hid hfin
          clear hend hfin hW h hkg Hend
          go_wp2_with fail
          try rw [Exit.noGoto_ret]
          go_ret
          exact ⟨show Ending.returned (.bool true) = _ by rw [pathB_M, Hfin.out], hbel⟩
end Go.Proofs.YtndjgeohkfenfaaGreatDoor.Globs

namespace Go.Proofs.YtndjgeohkfenfaaGreatDoor.Globs
open Go.ChangeShapes Go.WideShapes Go.ChangeAt Go.RowKit Go.Proofs.YtndjgeohkfenfaaGreatDoor Go.Proofs.YtndjgeohkfenfaaGreatDoor.Hp
set_option linter.unusedVariables false

theorem kept_alloc (w : World) (o : Obj) : Kept w (w.alloc o) := ⟨by simp, fun k hk => Below.heap_alloc w o k hk⟩
theorem path_calls (p : List Itm) (s : ByteArray) (ao : Option Addr) (cap : Nat) (w : World) (h : ItemsAt w ao p) (hm : (s.size : Int) ≤ 9223372036854775806) :
    Calls Tryz.prog 31 #[.slice ao p.length cap, .string s] w (FPost (pathB p (bs s)) w) := by
  have H := Lib.hid (matches_hard p s ao cap (w.alloc (.cells #[.string s] 9)) w.heap.size (by simp) (by simp) (h.keep (kept_alloc _ _)) hm)
  clear h hm
  go_enter Tryz.func31, Tryz.ntmps31
  go_wp2_with fail
  refine H.out.mono ?_
  rintro e w' ⟨rfl, hb⟩
  go_wp2_with fail
  go_ret
  exact ⟨rfl, ((Below.refl _ _).alloc (Nat.le_refl _) _).trans (hb.mono (by simp))⟩

theorem own : ownKnob Tryz.prog.godebug = none := by kernel_rfl
theorem laidOut : laidOutB Tryz.prog = true := by kernel_rfl
theorem cellsU8 : Tryz.prog.cellsOf 5 = 1 := by kernel_rfl
theorem cellsBool : Tryz.prog.cellsOf 4 = 1 := by kernel_rfl
theorem u8_of {x : Int} (h : (Lit.int .u8 x).wf = true) : ∃ c : UInt8, x = (c.toNat : Int) := by
  simp [Lit.wf, IntKind.min, IntKind.max, IntKind.signed, IntKind.bits] at h
  refine ⟨UInt8.ofNat x.toNat, ?_⟩
  rw [UInt8.toNat_ofNat']; omega
end Go.Proofs.YtndjgeohkfenfaaGreatDoor.Globs

