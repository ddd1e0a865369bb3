/- The document's 'Same' at two patterns that are the same. -/
import Derived.Test.YtjbdpahdhlmanaaGlU
import Derived.Test.YtjbdpahdhlmanaaGlM
namespace Go.Proofs.Ytjbdpahdhlmanaa.Globs
open Go.RowKit Go.Proofs.Ytjbdpahdhlmanaa Go.Proofs.Ytjbdpahdhlmanaa.Hp
set_option linter.unusedVariables false

def SmRel (n : Nat) (w : World) (g : Nat) (iv jv : Value) (wr : World) : Prop := ∃ i : Nat, i + g = n ∧ iv = .int .i64 (i : Int) ∧ Below w.heap.size w wr
def SmRel2 (n : Nat) (w : World) (g : Nat) (jv : Value) (wr : World) : Prop := ∃ j : Nat, j + g = n ∧ jv = .int .i64 (j : Int) ∧ Below w.heap.size w wr
set_option maxRecDepth 100000 in
set_option maxHeartbeats 4000000 in
theorem same_calls (l : List Itm) (pa pb : Option Addr) (ca cb : Nat) (w : World) (h : ItemsAt w pa l) (k : ItemsAt w pb l) :
    Calls Try.prog 16 #[.slice pa l.length ca, .slice pb l.length cb] w (FPost true w) := by
  have hpl := h.1
  go_enter Try.func16, Try.ntmps16
  go_wp2_with fail
  go_loopg [5, 6] (l.length) (SmRel l.length w)
  case atStart => exact ⟨0, by omega, rfl, Below.refl _ _⟩
  case round =>
    obtain ⟨i, hig, rfl, hbel⟩ := hrel
    have hi0 : (0 : Int) ≤ i := by omega
    by_cases hi : i < l.length
    · have hil : (i : Int) < l.length := by omega
      obtain ⟨f, rfl⟩ : ∃ f, gk = f + 1 := ⟨gk - 1, by omega⟩
      obtain ⟨ab, ao, ra, rca, rfl, hab, a0, a1, a2, a3, har⟩ := (h.keep (Kept.below hbel)).2 i hi
      obtain ⟨bb, bo, rb, rcb, rfl, hbb, b0, b1, b2, b3, hbr⟩ := (k.keep (Kept.below hbel)).2 i hi
      obtain ⟨x, hx⟩ : ∃ x, x = l[i] := ⟨_, rfl⟩
      rw [← hx] at a0 a1 a2 a3 har b0 b1 b2 b3 hbr
      have hrl := har.1
      have Hig := Lib.hid hig
      have e1 : (x.kind == x.kind) = true := beq_self_eq_true _
      clear hx hig h k
      go_wp2_with fail
      refine Go.Proofs.Ytjbdpahdhlmanaa.region_plan (S := (fun w' => (w'.cell? ⟨ab, ao + i * 4, none⟩ = some (.int .i64 x.kind) ∧ w'.cell? ⟨ab, ao + i * 4 + 1, none⟩ = some (.int .u8 x.b.toNat) ∧ w'.cell? ⟨ab, ao + i * 4 + 2, none⟩ = some (.bool x.neg) ∧ w'.cell? ⟨ab, ao + i * 4 + 3, none⟩ = some (.slice ra x.rs.length rca)) ∧ w'.cell? ⟨bb, bo + i * 4, none⟩ = some (.int .i64 x.kind) ∧ w'.cell? ⟨bb, bo + i * 4 + 1, none⟩ = some (.int .u8 x.b.toNat) ∧ w'.cell? ⟨bb, bo + i * 4 + 2, none⟩ = some (.bool x.neg) ∧ w'.cell? ⟨bb, bo + i * 4 + 3, none⟩ = some (.slice rb x.rs.length rcb))) [(0, true), (1, true), (2, true), (3, true), (4, true), (5, true), (6, true), (7, true), (8, true), (9, true), (10, true), (11, true), (12, true), (13, true), (14, true), (15, true), (16, true), (17, true), (18, true), (19, true), (20, true), (21, true), (22, true), (23, true), (24, true), (25, true), (26, true), (27, true), (28, true), (29, true), (30, true), (31, true), (32, true), (33, true), (34, true), (35, true), (36, true), (37, true), (38, true), (39, true), (40, true), (41, true), (42, true), (43, true), (44, true), (45, true), (46, true), (47, true), (48, true), (49, true), (50, true), (51, true)] (by kernel_rfl) (by kernel_rfl) (by kernel_rfl) ?_ ?_
      · ((try dsimp only); (first | done | (exact ⟨⟨a0, a1, a2, a3⟩, b0, b1, b2, b3⟩)))
      simp only [Go.Proofs.Ytjbdpahdhlmanaa.planOps, List.map_cons, List.map_nil, List.getElem?_toArray, List.getElem?_cons_zero, List.getElem?_cons_succ]
      repeat (first
        | ((refine Go.Proofs.Ytjbdpahdhlmanaa.plan_yes (v := ?_) (by rfl) ?_ ?_); rotate_left; (focus (intro w hSw; (try dsimp only at hSw); go_simp; try (with_reducible rfl))); (try simp only [Act.put, List.setIfInBounds_toArray, List.set_cons_zero, List.set_cons_succ]))
        | ((refine Go.Proofs.Ytjbdpahdhlmanaa.plan_no (by rfl) ?_); (try simp only [Act.put, List.setIfInBounds_toArray, List.set_cons_zero, List.set_cons_succ]))
        | ((refine Go.Proofs.Ytjbdpahdhlmanaa.plan_step (fun K hK => ?_)); (first | (fail) | (go_simp; (fail); (try go_wp2_with fail)) | go_simp); (refine hK.out _ _ ?_ (fun hHeld => ?_)); (focus ((try dsimp only); (first | done | (exact ⟨⟨a0, a1, a2, a3⟩, b0, b1, b2, b3⟩)))); clear hK K; (try simp only [Act.put, List.setIfInBounds_toArray, List.set_cons_zero, List.set_cons_succ])))
      refine Go.Proofs.Ytjbdpahdhlmanaa.plan_done ?_
      obtain ⟨w1, hw1⟩ : ∃ w1, w1 = wr.drew := ⟨_, rfl⟩
      rw [← hw1]
      have hB1 : Below w.heap.size w w1 := by rw [hw1]; exact hbel.drew
      have A3 : w1.cell? ⟨ab, ao + i * 4 + 3, none⟩ = some (.slice ra x.rs.length rca) := by rw [hw1]; exact a3
      have B3 : w1.cell? ⟨bb, bo + i * 4 + 3, none⟩ = some (.slice rb x.rs.length rcb) := by rw [hw1]; exact b3
      have HA : RgAt w1 ra x.rs := har.keep (by rw [hw1]; exact Kept.refl _)
      have HB : RgAt w1 rb x.rs := hbr.keep (by rw [hw1]; exact Kept.refl _)
      have hab1 : ab < w1.heap.size := by rw [hw1]; exact hab
      have hbb1 : bb < w1.heap.size := by rw [hw1]; exact hbb
      clear hw1 a0 a1 a2 a3 b0 b1 b2 b3 har hbr hbel hab hbb
      go_wp2_with fail
      go_loopg [6] (x.rs.length) (SmRel2 x.rs.length w1)
      case atStart => exact ⟨0, by omega, rfl, Below.refl _ _⟩
      case round =>
        obtain ⟨j, hjg, rfl, hb2⟩ := hrel
        have hj0 : (0 : Int) ≤ j := by omega
        have K2 := Kept.below hb2
        have A4 := (K2.cell hab1 (ao + i * 4 + 3)).trans A3
        have B4 := (K2.cell hbb1 (bo + i * 4 + 3)).trans B3
        by_cases hj : j < x.rs.length
        · have hjl : (j : Int) < x.rs.length := by omega
          obtain ⟨sa, oa, rfl, hsa, r0, r1⟩ := (HA.keep K2).2 j hj
          obtain ⟨sb, ob, rfl, hsb, q0, q1⟩ := (HB.keep K2).2 j hj
          obtain ⟨r, hr⟩ : ∃ r, r = x.rs[j] := ⟨_, rfl⟩
          rw [← hr] at r0 r1 q0 q1
          obtain ⟨lo, hi2⟩ := r
          simp only at r0 r1 q0 q1
          have Hjg := Lib.hid hjg
          clear hr hjg HA HB A3 B3
          go_wp2_with fail
          refine Go.Proofs.Ytjbdpahdhlmanaa.region_plan (S := (fun w' => (w'.cell? ⟨ab, ao + i * 4 + 3, none⟩ = some (.slice (some ⟨sa, oa, none⟩) x.rs.length rca) ∧ w'.cell? ⟨sa, oa + j * 2, none⟩ = some (.int .u8 lo.toNat) ∧ w'.cell? ⟨sa, oa + j * 2 + 1, none⟩ = some (.int .u8 hi2.toNat)) ∧ w'.cell? ⟨bb, bo + i * 4 + 3, none⟩ = some (.slice (some ⟨sb, ob, none⟩) x.rs.length rcb) ∧ w'.cell? ⟨sb, ob + j * 2, none⟩ = some (.int .u8 lo.toNat) ∧ w'.cell? ⟨sb, ob + j * 2 + 1, none⟩ = some (.int .u8 hi2.toNat))) [(0, true), (1, true), (2, true), (3, true), (4, true), (5, true), (6, true), (7, true), (8, true), (9, true), (10, true), (11, true), (12, true), (13, true), (14, true), (15, true), (16, true)] (by kernel_rfl) (by kernel_rfl) (by kernel_rfl) ?_ ?_
          · ((try dsimp only); (first | done | (exact ⟨⟨A4, r0, r1⟩, B4, q0, q1⟩)))
          simp only [Go.Proofs.Ytjbdpahdhlmanaa.planOps, List.map_cons, List.map_nil, List.getElem?_toArray, List.getElem?_cons_zero, List.getElem?_cons_succ]
          repeat (first
            | ((refine Go.Proofs.Ytjbdpahdhlmanaa.plan_yes (v := ?_) (by rfl) ?_ ?_); rotate_left; (focus (intro w hSw; (try dsimp only at hSw); go_simp; try (with_reducible rfl))); (try simp only [Act.put, List.setIfInBounds_toArray, List.set_cons_zero, List.set_cons_succ]))
            | ((refine Go.Proofs.Ytjbdpahdhlmanaa.plan_no (by rfl) ?_); (try simp only [Act.put, List.setIfInBounds_toArray, List.set_cons_zero, List.set_cons_succ]))
            | ((refine Go.Proofs.Ytjbdpahdhlmanaa.plan_step (fun K hK => ?_)); (first | (fail) | (go_simp; (fail); (try go_wp2_with fail)) | go_simp); (refine hK.out _ _ ?_ (fun hHeld => ?_)); (focus ((try dsimp only); (first | done | (exact ⟨⟨A4, r0, r1⟩, B4, q0, q1⟩)))); clear hK K; (try simp only [Act.put, List.setIfInBounds_toArray, List.set_cons_zero, List.set_cons_succ])))
          refine Go.Proofs.Ytjbdpahdhlmanaa.plan_done ?_
          go_wp2_with fail
          go_roundg (gk - 1)
          case measure => have := Hjg.out; omega
          case rel => exact ⟨j + 1, by have := Hjg.out; omega, by go_num, hb2.drew⟩
        · have hge : ¬ ((j : Int) < x.rs.length) := by omega
          clear HA HB A3 B3
          go_wp2_with fail
          go_roundg f
          case measure => omega
          case rel => exact ⟨i + 1, by have := Hig.out; omega, by go_num, hB1.trans (hb2.mono hB1.size)⟩
    · have hge : ¬ ((i : Int) < l.length) := by omega
      clear h k
      go_wp2_with fail
      go_ret
      exact ⟨rfl, hbel⟩
end Go.Proofs.Ytjbdpahdhlmanaa.Globs
