/- HandlesPlays, part 5 of 31: the texts PrI PrFu PrJ HdA, joined by a program. -/
import Derived.Test.YteienbdbhnikbaaGreatDoorPw4
import Derived.Test.YteienbdbhnikbaaGreatDoorPw1
import Derived.Test.YteienbdbhnikbaaGreatDoorRows
import Derived.Maps.OwnSet
namespace Go.Proofs.YteienbdbhnikbaaGreatDoor.Pr
open Go.RowKit Go.Proofs.YteienbdbhnikbaaGreatDoor Go.Proofs.YteienbdbhnikbaaGreatDoor.Hp
set_option linter.unusedVariables false
attribute [local go_sem] Oper.semAt_some
attribute [local go_sem] run_store_func

abbrev slM (pb : Nat) : Value := .pointer (some ⟨pb, 71, none⟩)
def Pc.maskHas (p : Pc) (n : Int) : Pc := { p with mask := { p.mask with has := n } }
def Pc.maskSlot (p : Pc) (s : Sl) : Pc := { p with mask := s }
theorem pc_mask {w : World} {p : Pc} {S : Hp} (h : Sat w (pcHp p * S)) (h16 : p.fds.length = 16) : w.cell? ⟨p.pb, 71, none⟩ = some (.int .i64 p.mask.has) ∧ w.cell? ⟨p.pb, 72, none⟩ = some (.int .i64 p.mask.mark) ∧ w.cell? ⟨p.pb, 73, none⟩ = some (fNone) ∧ w.cell? ⟨p.pb, 74, none⟩ = some (fNone) := by
  obtain ⟨c0, c1, c2, c3, c4, c5, c6, c7⟩ := pc_tail h h16
  exact ⟨c4, c5, c6, c7⟩
theorem pcL_maskA (p : Pc) (h16 : p.fds.length = 16) (j : Nat) (v : Value) : (pcL p).set (67 + j) v = [pp p.fb, pp p.tb, pp p.lb] ++ (p.fds.flatMap (slC (fRef p.tx) (fUnref p.tx)) ++ (slC (fHold p.fx) (fDrop p.fx) p.dir ++ slC fNone fNone p.mask).set j v) := by
  unfold pcL
  rw [List.set_append_right _ _ (by show 3 ≤ _; omega)]
  rw [show 67 + j - [pp p.fb, pp p.tb, pp p.lb].length = 64 + j by show 67 + j - 3 = _; omega]
  rw [List.set_append_right _ _ (by rw [sl_flat, h16]; omega)]
  rw [show 64 + j - (p.fds.flatMap (slC (fRef p.tx) (fUnref p.tx))).length = j by rw [sl_flat, h16]; omega]
theorem pcL_maskHas (p : Pc) (n : Int) (h16 : p.fds.length = 16) : (pcL p).set 71 (.int .i64 n) = pcL (p.maskHas n) := by
  rw [show 71 = 67 + 4 from rfl, pcL_maskA p h16]
  rfl
theorem pcL_maskSlot (p : Pc) (s : Sl) (h16 : p.fds.length = 16) : ((pcL p).set 71 (.int .i64 s.has)).set 72 (.int .i64 s.mark) = pcL (p.maskSlot s) := by
  rw [pcL_maskHas p s.has h16, show 72 = 67 + 5 from rfl, pcL_maskA (p.maskHas s.has) h16]
  rfl
theorem pc_maskHas {w : World} {p : Pc} {S : Hp} (h : Sat w (pcHp p * S)) (n : Int) (h16 : p.fds.length = 16) : Sat (w.setCell ⟨p.pb, 71, none⟩ (.int .i64 n)) (pcHp (p.maskHas n) * S) := by
  have h1 := (h.perm (show _ = pts p.pb (.cells (pcL p).toArray 89 (0, 0)) * ((pts p.fx (.cells #[pp p.fb] 26 (0, 0)) * pts p.tx (.cells #[pp p.tb] 28 (0, 0))) * S) by unfold pcHp pcO; ac_rfl)).setL (i := 71) (.int .i64 n)
  rw [pcL_maskHas p n h16] at h1
  exact h1.perm (by unfold pcHp pcO; show pts p.pb (.cells (pcL (p.maskHas n)).toArray 89 (0, 0)) * _ = pts p.pb (.cells (pcL (p.maskHas n)).toArray 89 (0, 0)) * (pts p.fx (.cells #[pp p.fb] 26 (0, 0)) * pts p.tx (.cells #[pp p.tb] 28 (0, 0))) * S; ac_rfl)
theorem pc_maskSlot {w : World} {p : Pc} {S : Hp} (h : Sat w (pcHp p * S)) (s : Sl) (h16 : p.fds.length = 16) : Sat ((w.setCell ⟨p.pb, 71, none⟩ (.int .i64 s.has)).setCell ⟨p.pb, 72, none⟩ (.int .i64 s.mark)) (pcHp (p.maskSlot s) * S) := by
  have h1 := ((h.perm (show _ = pts p.pb (.cells (pcL p).toArray 89 (0, 0)) * ((pts p.fx (.cells #[pp p.fb] 26 (0, 0)) * pts p.tx (.cells #[pp p.tb] 28 (0, 0))) * S) by unfold pcHp pcO; ac_rfl)).setL (i := 71) (.int .i64 s.has)).setL (i := 72) (.int .i64 s.mark)
  rw [pcL_maskSlot p s h16] at h1
  exact h1.perm (by unfold pcHp pcO; show pts p.pb (.cells (pcL (p.maskSlot s)).toArray 89 (0, 0)) * _ = pts p.pb (.cells (pcL (p.maskSlot s)).toArray 89 (0, 0)) * (pts p.fx (.cells #[pp p.fb] 26 (0, 0)) * pts p.tx (.cells #[pp p.tb] 28 (0, 0))) * S; ac_rfl)
abbrev wasM (s : Sl) (fx : Nat) : Obj := .cells #[.int .i64 s.has, .int .i64 s.mark, .func (.func 44) #[] #[], .func (.func 44) #[] #[]] 86 (0, 0)
def noteM (pb fx sb wb : Nat) (s : Sl) : Hp := pts sb (.cells #[slM pb] 90 (0, 0)) * pts wb (wasM s fx)
set_option maxRecDepth 100000 in
set_option maxHeartbeats 4000000 in
theorem mask_now (p : Pc) (n m : Int) (A B C : Hp) (w : World) (R : Hp) (h16 : p.fds.length = 16) (hm : m ≤ p.mask.mark)
    (HMk : ∀ W S, Sat W (A * S) → Calls Tryz.prog 17 #[pp p.lb] W fun e w' => e = .returned (.int .i64 m) ∧ W = w')
    (HT : ∀ W S, Sat W (A * (pcHp p * S)) → Calls Tryz.prog 44 #[.int .i64 n] W fun e w' => e = .returned (.tuple #[]) ∧ (Sat w' (B * (pcHp p * S)) ∧ Ran W w'))
    (HD : ∀ W S, Sat W (B * (pcHp p * S)) → Calls Tryz.prog 44 #[.int .i64 p.mask.has] W fun e w' => e = .returned (.tuple #[]) ∧ (Sat w' (C * (pcHp p * S)) ∧ Ran W w'))
    (h : Sat w (A * (pcHp p * R))) :
    Calls Tryz.prog 56 #[pp p.pb, slM p.pb, .int .i64 n] w fun e w' => (e = .returned (.int .i64 0) ∧ Sat w' (C * (pcHp (p.maskHas n) * R))) ∧ Ran w w' := by
  have S1 := h.alloc (.cells #[slM p.pb] 90 (0, 0))
  have R1 := Ran.new (Below.refl 0 w) (.cells #[slM p.pb] 90 (0, 0))
  obtain ⟨sb, hsb⟩ : ∃ x, x = w.heap.size := ⟨_, rfl⟩
  obtain ⟨w1, hw1⟩ : ∃ w1, w1 = w.alloc (.cells #[slM p.pb] 90 (0, 0)) := ⟨_, rfl⟩
  rw [← hw1, ← hsb] at S1
  rw [← hw1] at R1
  obtain ⟨x, hx⟩ : ∃ x, x = p.mask.has := ⟨_, rfl⟩
  rw [← hx] at HD
  have HC := Lib.hid (fun (W : World) (X : Hp) (hW : Sat W (pts sb (.cells #[slM p.pb] 90 (0, 0)) * (X * (pcHp p * R)))) => (by
    have h2 := hW.perm (show _ = pcHp p * (pts sb (.cells #[slM p.pb] 90 (0, 0)) * (X * R)) by ac_rfl)
    obtain ⟨c0, c1, c2, c3⟩ := pc_mask h2 h16
    obtain ⟨a0, a1, a2⟩ := pc_heads h2
    rw [← hx] at c0
    exact ⟨by rw [cell_at hW.get]; rfl, c0, c1, c2, c3, a2, fun k => pc_free h2 k⟩ : W.cell? ⟨sb, 0, none⟩ = some (slM p.pb) ∧ W.cell? ⟨p.pb, 71, none⟩ = some (.int .i64 x) ∧ W.cell? ⟨p.pb, 72, none⟩ = some (.int .i64 p.mask.mark) ∧ W.cell? ⟨p.pb, 73, none⟩ = some (.func (.func 44) #[] #[]) ∧ W.cell? ⟨p.pb, 74, none⟩ = some (.func (.func 44) #[] #[]) ∧ W.cell? ⟨p.pb, 2, none⟩ = some (pp p.lb) ∧ ∀ k, W.frozen? ⟨p.pb, k, none⟩ = false))
  obtain ⟨mk, hmk⟩ : ∃ k, k = p.mask.mark := ⟨_, rfl⟩
  rw [← hmk] at hm HC
  obtain ⟨z0, c0, c1, c2, c3, a2, -⟩ := HC.out w1 A S1
  have HMw := Lib.hid (HMk w1 _ (S1.perm (show _ = A * (pts sb (.cells #[slM p.pb] 90 (0, 0)) * (pcHp p * R)) by ac_rfl)))
  have HTw := Lib.hid (HT w1 _ (S1.perm (show _ = A * (pcHp p * (pts sb (.cells #[slM p.pb] 90 (0, 0)) * R)) by ac_rfl)))
  have HDh := Lib.hid HD
  have R1 := Lib.hid R1
  clear h S1 HMk HT HD hx hmk
  go_enter Tryz.func56, Tryz.ntmps56
  go_upto_region 1 with fail
  rw [← hw1, ← hsb]
  clear hw1 hsb
  go_wp2_with fail
  refine HMw.out.mono ?_
  rintro e w2 ⟨rfl, rfl⟩
  clear HMw
  go_wp2_with fail
  refine HTw.out.mono ?_
  rintro e w3 ⟨rfl, S3, R3⟩
  have hS3 := S3.perm (show _ = pts sb (.cells #[slM p.pb] 90 (0, 0)) * (B * (pcHp p * R)) by ac_rfl)
  clear z0 c0 c1 c2 c3 a2
  obtain ⟨z0, c0, c1, c2, c3, a2, -⟩ := HC.out w3.drew B hS3.drew
  have HDw := Lib.hid (HDh.out w3.drew _ S3.drew)
  have R3 := Lib.hid (Below.drew (Below.trans R1.out R3))
  clear S3 hS3 HTw HDh R1
  go_upto_region 4 with fail
  refine region_plan (S := (fun w' => w'.cell? ⟨sb, 0, none⟩ = some (slM p.pb) ∧ w'.cell? ⟨p.pb, 71, none⟩ = some (.int .i64 x) ∧ w'.cell? ⟨p.pb, 74, none⟩ = some (.func (.func 44) #[] #[]))) [(0, true), (1, true), (2, true), (3, true), (4, true), (5, true), (6, true), (7, true), (8, false)] (by kernel_rfl) (by kernel_rfl) (by kernel_rfl) ?_ ?_
  · ((try dsimp only); (first | done | (first | exact ⟨z0, c0, c3⟩ | exact ⟨y0, d0, d3⟩)))
  simp only [planOps, List.map_cons, List.map_nil, List.getElem?_toArray, List.getElem?_cons_zero, List.getElem?_cons_succ]
  repeat (first
    | ((refine plan_yes (v := ?_) (by rfl) ?_ ?_); rotate_left; (focus (intro w hSw; (try dsimp only at hSw); go_simp; try (with_reducible rfl))); (try simp only [Act.put, List.setIfInBounds_toArray, List.set_cons_zero, List.set_cons_succ]))
    | ((refine plan_no (by rfl) ?_); (try simp only [Act.put, List.setIfInBounds_toArray, List.set_cons_zero, List.set_cons_succ]))
    | ((refine plan_step (fun K hK => ?_)); (first | ((refine HDw.out.mono ?_; rintro e w4 ⟨rfl, S4, R4⟩; have hS4 := S4.perm (show _ = pts sb (.cells #[slM p.pb] 90 (0, 0)) * (C * (pcHp p * R)) by ac_rfl); obtain ⟨y0, d0, d1, d2, d3, -, fz⟩ := HC.out w4 C hS4; have fz0 := fz (71); have hA := Lib.hid (And.intro ((pc_maskHas (S4.perm (show _ = pcHp p * (C * (pts sb (.cells #[slM p.pb] 90 (0, 0)) * R)) by ac_rfl)) n h16).perm (show _ = pts sb (.cells #[slM p.pb] 90 (0, 0)) * (C * (pcHp (p.maskHas n) * R)) by ac_rfl)) (Ran.set (Below.trans R3.out R4) ⟨p.pb, 71, none⟩ (.int .i64 n))); clear S4 hS4 R4 fz)) | (go_simp; ((refine HDw.out.mono ?_; rintro e w4 ⟨rfl, S4, R4⟩; have hS4 := S4.perm (show _ = pts sb (.cells #[slM p.pb] 90 (0, 0)) * (C * (pcHp p * R)) by ac_rfl); obtain ⟨y0, d0, d1, d2, d3, -, fz⟩ := HC.out w4 C hS4; have fz0 := fz (71); have hA := Lib.hid (And.intro ((pc_maskHas (S4.perm (show _ = pcHp p * (C * (pts sb (.cells #[slM p.pb] 90 (0, 0)) * R)) by ac_rfl)) n h16).perm (show _ = pts sb (.cells #[slM p.pb] 90 (0, 0)) * (C * (pcHp (p.maskHas n) * R)) by ac_rfl)) (Ran.set (Below.trans R3.out R4) ⟨p.pb, 71, none⟩ (.int .i64 n))); clear S4 hS4 R4 fz)); (try go_wp2_with fail)) | go_simp); (refine hK.out _ _ ?_ (fun hHeld => ?_)); (focus ((try dsimp only); (first | done | (first | exact ⟨z0, c0, c3⟩ | exact ⟨y0, d0, d3⟩)))); clear hK K; (try simp only [Act.put, List.setIfInBounds_toArray, List.set_cons_zero, List.set_cons_succ])))
  refine plan_done ?_
  go_wp2_with fail
  go_ret
  exact ⟨⟨rfl, hA.out.1.right⟩, hA.out.2⟩
set_option maxRecDepth 100000 in
set_option maxHeartbeats 4000000 in
theorem mask_noted (p : Pc) (n m : Int) (A : Hp) (B C : Nat → Nat → Hp) (w : World) (R : Hp) (h16 : p.fds.length = 16) (hm : p.mask.mark < m)
    (HMk : ∀ W S, Sat W (A * S) → Calls Tryz.prog 17 #[pp p.lb] W fun e w' => e = .returned (.int .i64 m) ∧ W = w')
    (HN : ∀ sb wb W S, Sat W (A * S) → Calls Tryz.prog 75 #[pp p.lb, .func (.func 76) #[] #[pp sb, pp wb]] W fun e w' => e = .returned (.int .i64 0) ∧ (Sat w' (B sb wb * S) ∧ Ran W w'))
    (HT : ∀ sb wb W S, Sat W (B sb wb * (pcHp p * S)) → Calls Tryz.prog 44 #[.int .i64 n] W fun e w' => e = .returned (.tuple #[]) ∧ (Sat w' (C sb wb * (pcHp p * S)) ∧ Ran W w'))
    (h : Sat w (A * (pcHp p * R))) :
    Calls Tryz.prog 56 #[pp p.pb, slM p.pb, .int .i64 n] w fun e w' => (e = .returned (.int .i64 0) ∧ ∃ sb wb, Sat w' (C sb wb * (noteM p.pb p.fx sb wb p.mask * (pcHp (p.maskSlot ⟨n, m⟩) * R)))) ∧ Ran w w' := by
  have S1 := h.alloc (.cells #[slM p.pb] 90 (0, 0))
  have R1 := Ran.new (Below.refl 0 w) (.cells #[slM p.pb] 90 (0, 0))
  obtain ⟨sb, hsb⟩ : ∃ x, x = w.heap.size := ⟨_, rfl⟩
  obtain ⟨w1, hw1⟩ : ∃ w1, w1 = w.alloc (.cells #[slM p.pb] 90 (0, 0)) := ⟨_, rfl⟩
  rw [← hw1, ← hsb] at S1
  rw [← hw1] at R1
  obtain ⟨sl, hsl⟩ : ∃ s, s = p.mask := ⟨_, rfl⟩
  rw [← hsl] at hm ⊢
  have HC := Lib.hid (fun (W : World) (X : Hp) (hW : Sat W (pts sb (.cells #[slM p.pb] 90 (0, 0)) * (X * (pcHp p * R)))) => (by
    have h2 := hW.perm (show _ = pcHp p * (pts sb (.cells #[slM p.pb] 90 (0, 0)) * (X * R)) by ac_rfl)
    obtain ⟨c0, c1, c2, c3⟩ := pc_mask h2 h16
    obtain ⟨a0, a1, a2⟩ := pc_heads h2
    rw [← hsl] at c0 c1
    exact ⟨by rw [cell_at hW.get]; rfl, c0, c1, c2, c3, a2, fun k => pc_free h2 k⟩ : W.cell? ⟨sb, 0, none⟩ = some (slM p.pb) ∧ W.cell? ⟨p.pb, 71, none⟩ = some (.int .i64 sl.has) ∧ W.cell? ⟨p.pb, 72, none⟩ = some (.int .i64 sl.mark) ∧ W.cell? ⟨p.pb, 73, none⟩ = some (.func (.func 44) #[] #[]) ∧ W.cell? ⟨p.pb, 74, none⟩ = some (.func (.func 44) #[] #[]) ∧ W.cell? ⟨p.pb, 2, none⟩ = some (pp p.lb) ∧ ∀ k, W.frozen? ⟨p.pb, k, none⟩ = false))
  obtain ⟨sh, sm⟩ := sl
  dsimp only at hm HC
  obtain ⟨z0, c0, c1, c2, c3, a2, -⟩ := HC.out w1 A S1
  have HMw := Lib.hid (HMk w1 _ (S1.perm (show _ = A * (pts sb (.cells #[slM p.pb] 90 (0, 0)) * (pcHp p * R)) by ac_rfl)))
  have S2 := S1.alloc (wasM ⟨sh, sm⟩ p.fx)
  have R2 := Ran.new R1 (wasM ⟨sh, sm⟩ p.fx)
  obtain ⟨wb, hwb⟩ : ∃ x, x = w1.heap.size := ⟨_, rfl⟩
  obtain ⟨w2, hw2⟩ : ∃ w2, w2 = w1.alloc (wasM ⟨sh, sm⟩ p.fx) := ⟨_, rfl⟩
  rw [← hw2, ← hwb] at S2
  rw [← hw2] at R2
  obtain ⟨y0, d0, d1, d2, d3, b2, -⟩ := HC.out w2 (A * pts wb (wasM ⟨sh, sm⟩ p.fx)) (S2.perm (by ac_rfl))
  have HNw := Lib.hid (HN sb wb w2 _ (S2.perm (show _ = A * (pts wb (wasM ⟨sh, sm⟩ p.fx) * (pts sb (.cells #[slM p.pb] 90 (0, 0)) * (pcHp p * R))) by ac_rfl)))
  have HTh := Lib.hid (HT sb wb)
  have R2 := Lib.hid R2
  have Hsl := Lib.hid hsl
  clear h S1 HMk HT HN S2 R1 hsl
  go_enter Tryz.func56, Tryz.ntmps56
  go_upto_region 1 with fail
  rw [← hw1, ← hsb]
  clear hw1 hsb
  go_wp2_with fail
  refine HMw.out.mono ?_
  rintro e w3 ⟨rfl, rfl⟩
  clear HMw
  go_upto_region 8 with fail
  rw [← hw2, ← hwb]
  clear hw2 hwb z0 c0 c1 c2 c3 a2
  go_wp2_with fail
  refine HNw.out.mono ?_
  rintro e w4 ⟨rfl, S4, R4⟩
  clear y0 d0 d1 d2 d3 b2
  obtain ⟨z0, c0, c1, c2, c3, a2, -⟩ := HC.out w4 (B sb wb * pts wb (wasM ⟨sh, sm⟩ p.fx)) (S4.perm (by ac_rfl))
  have HTw := Lib.hid (HTh.out w4 _ (S4.perm (show _ = B sb wb * (pcHp p * (pts wb (wasM ⟨sh, sm⟩ p.fx) * (pts sb (.cells #[slM p.pb] 90 (0, 0)) * R))) by ac_rfl)))
  have R4 := Lib.hid (Below.trans R2.out R4)
  clear S4 HNw HTh R2
  go_wp2_with fail
  refine HTw.out.mono ?_
  rintro e w5 ⟨rfl, S5, R5⟩
  clear z0 c0 c1 c2 c3 a2
  obtain ⟨z0, c0, c1, -, -, -, fz⟩ := HC.out w5.drew (C sb wb * pts wb (wasM ⟨sh, sm⟩ p.fx)) (S5.drew.perm (by ac_rfl))
  have fz0 := fz (71)
  have fz1 := fz (72)
  have e0 : w5.cell? ⟨p.pb, 71, none⟩ = some (.int .i64 sh) := c0
  have e1 : w5.cell? ⟨p.pb, 72, none⟩ = some (.int .i64 sm) := c1
  have gz0 : w5.frozen? ⟨p.pb, 71, none⟩ = false := fz0
  have gz1 : w5.frozen? ⟨p.pb, 72, none⟩ = false := fz1
  have S6 := pc_maskSlot (S5.drew.perm (show _ = pcHp p * (C sb wb * (pts wb (wasM ⟨sh, sm⟩ p.fx) * (pts sb (.cells #[slM p.pb] 90 (0, 0)) * R))) by ac_rfl)) ⟨n, m⟩ h16
  have S6 := S6.perm (show _ = C sb wb * (noteM p.pb p.fx sb wb ⟨sh, sm⟩ * (pcHp (p.maskSlot ⟨n, m⟩) * R)) by unfold noteM; ac_rfl)
  have R6 := Ran.set (Ran.set (Below.drew (Below.trans R4.out R5)) ⟨p.pb, 71, none⟩ (.int .i64 n)) ⟨p.pb, 72, none⟩ (.int .i64 m)
  have y1 : (w5.drew.setCell ⟨p.pb, 71, none⟩ (.int .i64 n)).cell? ⟨sb, 0, none⟩ = some (slM p.pb) := by
    have h7 := (pc_maskHas (S5.drew.perm (show _ = pcHp p * (C sb wb * (pts wb (wasM ⟨sh, sm⟩ p.fx) * (pts sb (.cells #[slM p.pb] 90 (0, 0)) * R))) by ac_rfl)) n h16).perm (show _ = pts sb (.cells #[slM p.pb] 90 (0, 0)) * (C sb wb * (pts wb (wasM ⟨sh, sm⟩ p.fx) * (pcHp (p.maskHas n) * R))) by ac_rfl)
    rw [cell_at h7.get]; rfl
  have y2 : ((w5.drew.setCell ⟨p.pb, 71, none⟩ (.int .i64 n)).setCell ⟨p.pb, 72, none⟩ (.int .i64 m)).cell? ⟨sb, 0, none⟩ = some (slM p.pb) := by
    have h7 := S6.perm (show _ = pts sb (.cells #[slM p.pb] 90 (0, 0)) * (C sb wb * (pts wb (wasM ⟨sh, sm⟩ p.fx) * (pcHp (p.maskSlot ⟨n, m⟩) * R))) by unfold noteM; ac_rfl)
    rw [cell_at h7.get]; rfl
  have hA := Lib.hid (And.intro S6 R6)
  clear S5 R5 R4 S6 R6 HTw fz
  go_upto_region 12 with fail
  refine region_plan (S := (fun w' => w'.cell? ⟨sb, 0, none⟩ = some (slM p.pb))) [(0, true), (1, true), (2, true), (3, true), (4, true), (5, true), (6, false), (7, true), (8, true), (9, false)] (by kernel_rfl) (by kernel_rfl) (by kernel_rfl) ?_ ?_
  · ((try dsimp only); (first | done | (first | exact z0 | exact y1 | exact y2)))
  simp only [planOps, List.map_cons, List.map_nil, List.getElem?_toArray, List.getElem?_cons_zero, List.getElem?_cons_succ]
  repeat (first
    | ((refine plan_yes (v := ?_) (by rfl) ?_ ?_); rotate_left; (focus (intro w hSw; (try dsimp only at hSw); go_simp; try (with_reducible rfl))); (try simp only [Act.put, List.setIfInBounds_toArray, List.set_cons_zero, List.set_cons_succ]))
    | ((refine plan_no (by rfl) ?_); (try simp only [Act.put, List.setIfInBounds_toArray, List.set_cons_zero, List.set_cons_succ]))
    | ((refine plan_step (fun K hK => ?_)); (first | (fail) | (go_simp; (fail); (try go_wp2_with fail)) | go_simp); (refine hK.out _ _ ?_ (fun hHeld => ?_)); (focus ((try dsimp only); (first | done | (first | exact z0 | exact y1 | exact y2)))); clear hK K; (try simp only [Act.put, List.setIfInBounds_toArray, List.set_cons_zero, List.set_cons_succ])))
  refine plan_done ?_
  go_wp2_with fail
  go_ret
  exact ⟨⟨rfl, sb, wb, hA.out.1⟩, hA.out.2⟩
set_option maxRecDepth 100000 in
set_option maxHeartbeats 4000000 in
theorem mask_back (p : Pc) (sb wb : Nat) (s : Sl) (D E : Hp) (w : World) (R : Hp) (h16 : p.fds.length = 16)
    (HD : ∀ W S, Sat W (D * (pcHp p * S)) → Calls Tryz.prog 44 #[.int .i64 p.mask.has] W fun e w' => e = .returned (.tuple #[]) ∧ (Sat w' (E * (pcHp p * S)) ∧ Ran W w'))
    (h : Sat w (D * (noteM p.pb p.fx sb wb s * (pcHp p * R)))) :
    Calls Tryz.prog 76 #[pp sb, pp wb] w fun e w' => (e = .returned (.tuple #[]) ∧ Sat w' (E * (noteM p.pb p.fx sb wb s * (pcHp (p.maskSlot s) * R)))) ∧ Ran w w' := by
  obtain ⟨x, hx⟩ : ∃ x, x = p.mask.has := ⟨_, rfl⟩
  rw [← hx] at HD
  have HC := Lib.hid (fun (W : World) (X : Hp) (hW : Sat W (X * (noteM p.pb p.fx sb wb s * (pcHp p * R)))) => (by
    have h2 := hW.perm (show _ = pcHp p * (X * (noteM p.pb p.fx sb wb s * R)) by ac_rfl)
    have h3 := hW.perm (show _ = pts sb (.cells #[slM p.pb] 90 (0, 0)) * (pts wb (wasM s p.fx) * (X * (pcHp p * R))) by unfold noteM; ac_rfl)
    obtain ⟨c0, c1, c2, c3⟩ := pc_mask h2 h16
    rw [← hx] at c0
    exact ⟨by rw [cell_at h3.get]; rfl, c0, c1, c2, c3, fun k => pc_free h2 k, by rw [cell_at h3.right.get]; rfl, by rw [cell_at h3.right.get]; rfl, by rw [cell_at h3.right.get]; rfl, by rw [cell_at h3.right.get]; rfl⟩ : W.cell? ⟨sb, 0, none⟩ = some (slM p.pb) ∧ W.cell? ⟨p.pb, 71, none⟩ = some (.int .i64 x) ∧ W.cell? ⟨p.pb, 72, none⟩ = some (.int .i64 p.mask.mark) ∧ W.cell? ⟨p.pb, 73, none⟩ = some (.func (.func 44) #[] #[]) ∧ W.cell? ⟨p.pb, 74, none⟩ = some (.func (.func 44) #[] #[]) ∧ (∀ k, W.frozen? ⟨p.pb, k, none⟩ = false) ∧ W.cell? ⟨wb, 0, none⟩ = some (.int .i64 s.has) ∧ W.cell? ⟨wb, 1, none⟩ = some (.int .i64 s.mark) ∧ W.cell? ⟨wb, 2, none⟩ = some (.func (.func 44) #[] #[]) ∧ W.cell? ⟨wb, 3, none⟩ = some (.func (.func 44) #[] #[])))
  obtain ⟨mk, hmk⟩ : ∃ k, k = p.mask.mark := ⟨_, rfl⟩
  rw [← hmk] at HC
  obtain ⟨z0, c0, c1, c2, c3, -, -⟩ := HC.out w.drew D h.drew
  have HDw := Lib.hid (HD w.drew _ (h.drew.perm (show _ = D * (pcHp p * (noteM p.pb p.fx sb wb s * R)) by ac_rfl)))
  have R0 := Lib.hid (Below.drew (Below.refl 0 w) : Ran w w.drew)
  clear h HD hx hmk
  go_enter Tryz.func76, Tryz.ntmps76
  go_upto_region 0 with fail
  refine region_plan (S := (fun w' => w'.cell? ⟨sb, 0, none⟩ = some (slM p.pb) ∧ w'.cell? ⟨p.pb, 71, none⟩ = some (.int .i64 x) ∧ w'.cell? ⟨p.pb, 74, none⟩ = some (.func (.func 44) #[] #[]))) [(0, true), (1, true), (2, true), (3, true), (4, true), (5, true), (6, true), (7, true), (8, false)] (by kernel_rfl) (by kernel_rfl) (by kernel_rfl) ?_ ?_
  · ((try dsimp only); (first | done | (first | exact ⟨z0, c0, c3⟩ | exact ⟨y0, d0, d3⟩)))
  simp only [planOps, List.map_cons, List.map_nil, List.getElem?_toArray, List.getElem?_cons_zero, List.getElem?_cons_succ]
  repeat (first
    | ((refine plan_yes (v := ?_) (by rfl) ?_ ?_); rotate_left; (focus (intro w hSw; (try dsimp only at hSw); go_simp; try (with_reducible rfl))); (try simp only [Act.put, List.setIfInBounds_toArray, List.set_cons_zero, List.set_cons_succ]))
    | ((refine plan_no (by rfl) ?_); (try simp only [Act.put, List.setIfInBounds_toArray, List.set_cons_zero, List.set_cons_succ]))
    | ((refine plan_step (fun K hK => ?_)); (first | ((refine HDw.out.mono ?_; rintro e w4 ⟨rfl, S4, R4⟩; have hS4 := S4.perm (show _ = E * (noteM p.pb p.fx sb wb s * (pcHp p * R)) by ac_rfl); obtain ⟨y0, d0, d1, d2, d3, fz, n0, n1, n2, n3⟩ := HC.out w4 E hS4; have S5 := Lib.hid S4; have R5 := Lib.hid (Below.trans R0.out R4); clear S4 hS4 R4)) | (go_simp; ((refine HDw.out.mono ?_; rintro e w4 ⟨rfl, S4, R4⟩; have hS4 := S4.perm (show _ = E * (noteM p.pb p.fx sb wb s * (pcHp p * R)) by ac_rfl); obtain ⟨y0, d0, d1, d2, d3, fz, n0, n1, n2, n3⟩ := HC.out w4 E hS4; have S5 := Lib.hid S4; have R5 := Lib.hid (Below.trans R0.out R4); clear S4 hS4 R4)); (try go_wp2_with fail)) | go_simp); (refine hK.out _ _ ?_ (fun hHeld => ?_)); (focus ((try dsimp only); (first | done | (first | exact ⟨z0, c0, c3⟩ | exact ⟨y0, d0, d3⟩)))); clear hK K; (try simp only [Act.put, List.setIfInBounds_toArray, List.set_cons_zero, List.set_cons_succ])))
  refine plan_done ?_
  have f0 := fz (71)
  have f1 := fz (72)
  have f2 := fz (73)
  have f3 := fz (74)
  have h6 := pc_maskSlot (S5.out.perm (show _ = pcHp p * (E * (noteM p.pb p.fx sb wb s * R)) by ac_rfl)) s h16
  obtain ⟨-, -, g2, -⟩ := pc_mask h6 h16
  have h7 := pc_same h6 (73) _ g2
  obtain ⟨-, -, -, g3⟩ := pc_mask h7 h16
  have h8 := (pc_same h7 (74) _ g3).perm (show _ = E * (noteM p.pb p.fx sb wb s * (pcHp (p.maskSlot s) * R)) by ac_rfl)
  have R8 := Ran.set (Ran.set (Ran.set (Ran.set R5.out ⟨p.pb, 71, none⟩ (.int .i64 s.has)) ⟨p.pb, 72, none⟩ (.int .i64 s.mark)) ⟨p.pb, 73, none⟩ (fNone)) ⟨p.pb, 74, none⟩ (fNone)
  have hA := Lib.hid (And.intro h8 R8)
  clear S5 R5 h6 g2 h7 g3 h8 R8 fz z0 c0 c1 c2 c3
  go_wp2_with fail
  go_end0
  exact ⟨⟨rfl, hA.out.1⟩, hA.out.2⟩
end Go.Proofs.YteienbdbhnikbaaGreatDoor.Pr

namespace Go.Proofs.YteienbdbhnikbaaGreatDoor.Pr
open Go.RowKit Go.Proofs.YteienbdbhnikbaaGreatDoor Go.Proofs.YteienbdbhnikbaaGreatDoor.Hp
set_option linter.unusedVariables false
attribute [local go_sem] Oper.semAt_some
attribute [local go_sem] run_store_func

set_option maxRecDepth 100000 in
set_option maxHeartbeats 4000000 in
theorem set_full (p : Pc) (i : Nat) (n m : Int) (A : Hp) (w : World) (R : Hp) (hi : i < 16) (h16 : p.fds.length = 16) (hm : (p.fds[i]'(by omega)).mark < m)
    (HMk : ∀ W S, Sat W (A * S) → Calls Tryz.prog 17 #[pp p.lb] W fun e w' => e = .returned (.int .i64 m) ∧ W = w')
    (HN : ∀ sb wb W S, Sat W (A * S) → Calls Tryz.prog 75 #[pp p.lb, .func (.func 76) #[] #[pp sb, pp wb]] W fun e w' => e = .returned (.int .i64 43) ∧ (Sat w' (A * S) ∧ Ran W w'))
    (h : Sat w (A * (pcHp p * R))) :
    Calls Tryz.prog 56 #[pp p.pb, slP p.pb i, .int .i64 n] w fun e w' => (e = .returned (.int .i64 43) ∧ Sat w' (A * (pcHp p * R))) ∧ Ran w w' := by
  have S1 := h.alloc (.cells #[slP p.pb i] 90 (0, 0))
  have R1 := Ran.new (Below.refl 0 w) (.cells #[slP p.pb i] 90 (0, 0))
  obtain ⟨sb, hsb⟩ : ∃ x, x = w.heap.size := ⟨_, rfl⟩
  obtain ⟨w1, hw1⟩ : ∃ w1, w1 = w.alloc (.cells #[slP p.pb i] 90 (0, 0)) := ⟨_, rfl⟩
  rw [← hw1, ← hsb] at S1
  rw [← hw1] at R1
  obtain ⟨sl, hsl⟩ : ∃ s, s = p.fds[i]'(by omega) := ⟨_, rfl⟩
  rw [← hsl] at hm
  have HC := Lib.hid (fun (W : World) (X : Hp) (hW : Sat W (pts sb (.cells #[slP p.pb i] 90 (0, 0)) * (X * (pcHp p * R)))) => (by
    have h2 := hW.perm (show _ = pcHp p * (pts sb (.cells #[slP p.pb i] 90 (0, 0)) * (X * R)) by ac_rfl)
    obtain ⟨c0, c1, c2, c3⟩ := pc_fd h2 i (by omega)
    obtain ⟨a0, a1, a2⟩ := pc_heads h2
    rw [← hsl] at c0 c1
    exact ⟨by rw [cell_at hW.get]; rfl, c0, c1, c2, c3, a2, fun k => pc_free h2 k⟩ : W.cell? ⟨sb, 0, none⟩ = some (slP p.pb i) ∧ W.cell? ⟨p.pb, 3 + i * 4, none⟩ = some (.int .i64 sl.has) ∧ W.cell? ⟨p.pb, 3 + i * 4 + 1, none⟩ = some (.int .i64 sl.mark) ∧ W.cell? ⟨p.pb, 3 + i * 4 + 2, none⟩ = some (.func (.func 49) #[] #[pp p.tx]) ∧ W.cell? ⟨p.pb, 3 + i * 4 + 3, none⟩ = some (.func (.func 51) #[] #[pp p.tx]) ∧ W.cell? ⟨p.pb, 2, none⟩ = some (pp p.lb) ∧ ∀ k, W.frozen? ⟨p.pb, k, none⟩ = false))
  obtain ⟨sh, sm⟩ := sl
  dsimp only at hm HC
  obtain ⟨z0, c0, c1, c2, c3, a2, -⟩ := HC.out w1 A S1
  have HMw := Lib.hid (HMk w1 _ (S1.perm (show _ = A * (pts sb (.cells #[slP p.pb i] 90 (0, 0)) * (pcHp p * R)) by ac_rfl)))
  have S2 := S1.alloc (wasO ⟨sh, sm⟩ p.tx)
  have R2 := Ran.new R1 (wasO ⟨sh, sm⟩ p.tx)
  obtain ⟨wb, hwb⟩ : ∃ x, x = w1.heap.size := ⟨_, rfl⟩
  obtain ⟨w2, hw2⟩ : ∃ w2, w2 = w1.alloc (wasO ⟨sh, sm⟩ p.tx) := ⟨_, rfl⟩
  rw [← hw2, ← hwb] at S2
  rw [← hw2] at R2
  obtain ⟨y0, d0, d1, d2, d3, b2, -⟩ := HC.out w2 (A * pts wb (wasO ⟨sh, sm⟩ p.tx)) (S2.perm (by ac_rfl))
  have HNw := Lib.hid (HN sb wb w2 _ (S2.perm (show _ = A * (pts wb (wasO ⟨sh, sm⟩ p.tx) * (pts sb (.cells #[slP p.pb i] 90 (0, 0)) * (pcHp p * R))) by ac_rfl)))
  have R2 := Lib.hid R2
  have hil : i < p.fds.length := by omega
  have Hsl := Lib.hid hsl
  clear h S1 HMk HN S2 R1 hsl
  go_enter Tryz.func56, Tryz.ntmps56
  go_upto_region 1 with fail
  rw [← hw1, ← hsb]
  clear hw1 hsb
  go_wp2_with fail
  refine HMw.out.mono ?_
  rintro e w3 ⟨rfl, rfl⟩
  clear HMw
  go_upto_region 8 with fail
  rw [← hw2, ← hwb]
  clear hw2 hwb z0 c0 c1 c2 c3 a2
  go_wp2_with fail
  refine HNw.out.mono ?_
  rintro e w4 ⟨rfl, S4, R4⟩
  clear y0 d0 d1 d2 d3 b2
  have S5 := (S4.perm (show _ = pts wb (wasO ⟨sh, sm⟩ p.tx) * (pts sb (.cells #[slP p.pb i] 90 (0, 0)) * (A * (pcHp p * R))) by ac_rfl)).right.right
  have R5 := Lib.hid (Below.trans R2.out R4)
  clear S4 R4
  go_wp2_with fail
  go_ret
  exact ⟨⟨rfl, S5⟩, R5.out⟩
set_option maxRecDepth 100000 in
set_option maxHeartbeats 4000000 in
theorem dir_full (p : Pc) (n m : Int) (A : Hp) (w : World) (R : Hp) (h16 : p.fds.length = 16) (hm : p.dir.mark < m)
    (HMk : ∀ W S, Sat W (A * S) → Calls Tryz.prog 17 #[pp p.lb] W fun e w' => e = .returned (.int .i64 m) ∧ W = w')
    (HN : ∀ sb wb W S, Sat W (A * S) → Calls Tryz.prog 75 #[pp p.lb, .func (.func 76) #[] #[pp sb, pp wb]] W fun e w' => e = .returned (.int .i64 43) ∧ (Sat w' (A * S) ∧ Ran W w'))
    (h : Sat w (A * (pcHp p * R))) :
    Calls Tryz.prog 56 #[pp p.pb, slD p.pb, .int .i64 n] w fun e w' => (e = .returned (.int .i64 43) ∧ Sat w' (A * (pcHp p * R))) ∧ Ran w w' := by
  have S1 := h.alloc (.cells #[slD p.pb] 90 (0, 0))
  have R1 := Ran.new (Below.refl 0 w) (.cells #[slD p.pb] 90 (0, 0))
  obtain ⟨sb, hsb⟩ : ∃ x, x = w.heap.size := ⟨_, rfl⟩
  obtain ⟨w1, hw1⟩ : ∃ w1, w1 = w.alloc (.cells #[slD p.pb] 90 (0, 0)) := ⟨_, rfl⟩
  rw [← hw1, ← hsb] at S1
  rw [← hw1] at R1
  obtain ⟨sl, hsl⟩ : ∃ s, s = p.dir := ⟨_, rfl⟩
  rw [← hsl] at hm
  have HC := Lib.hid (fun (W : World) (X : Hp) (hW : Sat W (pts sb (.cells #[slD p.pb] 90 (0, 0)) * (X * (pcHp p * R)))) => (by
    have h2 := hW.perm (show _ = pcHp p * (pts sb (.cells #[slD p.pb] 90 (0, 0)) * (X * R)) by ac_rfl)
    obtain ⟨c0, c1, c2, c3⟩ := pc_dir h2 h16
    obtain ⟨a0, a1, a2⟩ := pc_heads h2
    rw [← hsl] at c0 c1
    exact ⟨by rw [cell_at hW.get]; rfl, c0, c1, c2, c3, a2, fun k => pc_free h2 k⟩ : W.cell? ⟨sb, 0, none⟩ = some (slD p.pb) ∧ W.cell? ⟨p.pb, 67, none⟩ = some (.int .i64 sl.has) ∧ W.cell? ⟨p.pb, 68, none⟩ = some (.int .i64 sl.mark) ∧ W.cell? ⟨p.pb, 69, none⟩ = some (.func (.func 45) #[] #[pp p.fx]) ∧ W.cell? ⟨p.pb, 70, none⟩ = some (.func (.func 47) #[] #[pp p.fx]) ∧ W.cell? ⟨p.pb, 2, none⟩ = some (pp p.lb) ∧ ∀ k, W.frozen? ⟨p.pb, k, none⟩ = false))
  obtain ⟨sh, sm⟩ := sl
  dsimp only at hm HC
  obtain ⟨z0, c0, c1, c2, c3, a2, -⟩ := HC.out w1 A S1
  have HMw := Lib.hid (HMk w1 _ (S1.perm (show _ = A * (pts sb (.cells #[slD p.pb] 90 (0, 0)) * (pcHp p * R)) by ac_rfl)))
  have S2 := S1.alloc (wasD ⟨sh, sm⟩ p.fx)
  have R2 := Ran.new R1 (wasD ⟨sh, sm⟩ p.fx)
  obtain ⟨wb, hwb⟩ : ∃ x, x = w1.heap.size := ⟨_, rfl⟩
  obtain ⟨w2, hw2⟩ : ∃ w2, w2 = w1.alloc (wasD ⟨sh, sm⟩ p.fx) := ⟨_, rfl⟩
  rw [← hw2, ← hwb] at S2
  rw [← hw2] at R2
  obtain ⟨y0, d0, d1, d2, d3, b2, -⟩ := HC.out w2 (A * pts wb (wasD ⟨sh, sm⟩ p.fx)) (S2.perm (by ac_rfl))
  have HNw := Lib.hid (HN sb wb w2 _ (S2.perm (show _ = A * (pts wb (wasD ⟨sh, sm⟩ p.fx) * (pts sb (.cells #[slD p.pb] 90 (0, 0)) * (pcHp p * R))) by ac_rfl)))
  have R2 := Lib.hid R2
  have Hsl := Lib.hid hsl
  clear h S1 HMk HN S2 R1 hsl
  go_enter Tryz.func56, Tryz.ntmps56
  go_upto_region 1 with fail
  rw [← hw1, ← hsb]
  clear hw1 hsb
  go_wp2_with fail
  refine HMw.out.mono ?_
  rintro e w3 ⟨rfl, rfl⟩
  clear HMw
  go_upto_region 8 with fail
  rw [← hw2, ← hwb]
  clear hw2 hwb z0 c0 c1 c2 c3 a2
  go_wp2_with fail
  refine HNw.out.mono ?_
  rintro e w4 ⟨rfl, S4, R4⟩
  clear y0 d0 d1 d2 d3 b2
  have S5 := (S4.perm (show _ = pts wb (wasD ⟨sh, sm⟩ p.fx) * (pts sb (.cells #[slD p.pb] 90 (0, 0)) * (A * (pcHp p * R))) by ac_rfl)).right.right
  have R5 := Lib.hid (Below.trans R2.out R4)
  clear S4 R4
  go_wp2_with fail
  go_ret
  exact ⟨⟨rfl, S5⟩, R5.out⟩
set_option maxRecDepth 100000 in
set_option maxHeartbeats 4000000 in
theorem mask_full (p : Pc) (n m : Int) (A : Hp) (w : World) (R : Hp) (h16 : p.fds.length = 16) (hm : p.mask.mark < m)
    (HMk : ∀ W S, Sat W (A * S) → Calls Tryz.prog 17 #[pp p.lb] W fun e w' => e = .returned (.int .i64 m) ∧ W = w')
    (HN : ∀ sb wb W S, Sat W (A * S) → Calls Tryz.prog 75 #[pp p.lb, .func (.func 76) #[] #[pp sb, pp wb]] W fun e w' => e = .returned (.int .i64 43) ∧ (Sat w' (A * S) ∧ Ran W w'))
    (h : Sat w (A * (pcHp p * R))) :
    Calls Tryz.prog 56 #[pp p.pb, slM p.pb, .int .i64 n] w fun e w' => (e = .returned (.int .i64 43) ∧ Sat w' (A * (pcHp p * R))) ∧ Ran w w' := by
  have S1 := h.alloc (.cells #[slM p.pb] 90 (0, 0))
  have R1 := Ran.new (Below.refl 0 w) (.cells #[slM p.pb] 90 (0, 0))
  obtain ⟨sb, hsb⟩ : ∃ x, x = w.heap.size := ⟨_, rfl⟩
  obtain ⟨w1, hw1⟩ : ∃ w1, w1 = w.alloc (.cells #[slM p.pb] 90 (0, 0)) := ⟨_, rfl⟩
  rw [← hw1, ← hsb] at S1
  rw [← hw1] at R1
  obtain ⟨sl, hsl⟩ : ∃ s, s = p.mask := ⟨_, rfl⟩
  rw [← hsl] at hm
  have HC := Lib.hid (fun (W : World) (X : Hp) (hW : Sat W (pts sb (.cells #[slM p.pb] 90 (0, 0)) * (X * (pcHp p * R)))) => (by
    have h2 := hW.perm (show _ = pcHp p * (pts sb (.cells #[slM p.pb] 90 (0, 0)) * (X * R)) by ac_rfl)
    obtain ⟨c0, c1, c2, c3⟩ := pc_mask h2 h16
    obtain ⟨a0, a1, a2⟩ := pc_heads h2
    rw [← hsl] at c0 c1
    exact ⟨by rw [cell_at hW.get]; rfl, c0, c1, c2, c3, a2, fun k => pc_free h2 k⟩ : W.cell? ⟨sb, 0, none⟩ = some (slM p.pb) ∧ W.cell? ⟨p.pb, 71, none⟩ = some (.int .i64 sl.has) ∧ W.cell? ⟨p.pb, 72, none⟩ = some (.int .i64 sl.mark) ∧ W.cell? ⟨p.pb, 73, none⟩ = some (.func (.func 44) #[] #[]) ∧ W.cell? ⟨p.pb, 74, none⟩ = some (.func (.func 44) #[] #[]) ∧ W.cell? ⟨p.pb, 2, none⟩ = some (pp p.lb) ∧ ∀ k, W.frozen? ⟨p.pb, k, none⟩ = false))
  obtain ⟨sh, sm⟩ := sl
  dsimp only at hm HC
  obtain ⟨z0, c0, c1, c2, c3, a2, -⟩ := HC.out w1 A S1
  have HMw := Lib.hid (HMk w1 _ (S1.perm (show _ = A * (pts sb (.cells #[slM p.pb] 90 (0, 0)) * (pcHp p * R)) by ac_rfl)))
  have S2 := S1.alloc (wasM ⟨sh, sm⟩ p.fx)
  have R2 := Ran.new R1 (wasM ⟨sh, sm⟩ p.fx)
  obtain ⟨wb, hwb⟩ : ∃ x, x = w1.heap.size := ⟨_, rfl⟩
  obtain ⟨w2, hw2⟩ : ∃ w2, w2 = w1.alloc (wasM ⟨sh, sm⟩ p.fx) := ⟨_, rfl⟩
  rw [← hw2, ← hwb] at S2
  rw [← hw2] at R2
  obtain ⟨y0, d0, d1, d2, d3, b2, -⟩ := HC.out w2 (A * pts wb (wasM ⟨sh, sm⟩ p.fx)) (S2.perm (by ac_rfl))
  have HNw := Lib.hid (HN sb wb w2 _ (S2.perm (show _ = A * (pts wb (wasM ⟨sh, sm⟩ p.fx) * (pts sb (.cells #[slM p.pb] 90 (0, 0)) * (pcHp p * R))) by ac_rfl)))
  have R2 := Lib.hid R2
  have Hsl := Lib.hid hsl
  clear h S1 HMk HN S2 R1 hsl
  go_enter Tryz.func56, Tryz.ntmps56
  go_upto_region 1 with fail
  rw [← hw1, ← hsb]
  clear hw1 hsb
  go_wp2_with fail
  refine HMw.out.mono ?_
  rintro e w3 ⟨rfl, rfl⟩
  clear HMw
  go_upto_region 8 with fail
  rw [← hw2, ← hwb]
  clear hw2 hwb z0 c0 c1 c2 c3 a2
  go_wp2_with fail
  refine HNw.out.mono ?_
  rintro e w4 ⟨rfl, S4, R4⟩
  clear y0 d0 d1 d2 d3 b2
  have S5 := (S4.perm (show _ = pts wb (wasM ⟨sh, sm⟩ p.fx) * (pts sb (.cells #[slM p.pb] 90 (0, 0)) * (A * (pcHp p * R))) by ac_rfl)).right.right
  have R5 := Lib.hid (Below.trans R2.out R4)
  clear S4 R4
  go_wp2_with fail
  go_ret
  exact ⟨⟨rfl, S5⟩, R5.out⟩
end Go.Proofs.YteienbdbhnikbaaGreatDoor.Pr

namespace Go.Proofs.YteienbdbhnikbaaGreatDoor.Undo
open Go.RowKit Go.Proofs.YteienbdbhnikbaaGreatDoor Go.Proofs.YteienbdbhnikbaaGreatDoor.Hp
set_option linter.unusedVariables false
attribute [local go_sem] Oper.semAt_some

set_option maxRecDepth 100000 in
set_option maxHeartbeats 1000000 in
/-- Note with no room. -/
theorem note_full (lb : Nat) (most nest : Int) (fs : List Value) (ms : List Nat) (fn : Nat) (cs : Array Value) (w : World) (R : Hp) (h : LogAt w lb most nest fs ms R) (hm : ms ≠ []) (hl : most ≤ (fs.length : Int)) :
    Calls Tryz.prog 75 #[.pointer (some ⟨lb, 0, none⟩), .func (.func fn) #[] cs] w fun e w' => e = .returned (.int .i64 43) ∧ LogAt w' lb most nest fs ms R ∧ Ran w w' := by
  obtain ⟨np, nc, mp, mc, HS⟩ := h
  obtain ⟨c0, c1, c2, c3, cz⟩ := log_cells HS.get
  have hml : ((ms.length : Int) == 0) = false := by
    rw [beq_eq_false_iff_ne]
    have := List.length_pos_iff.2 hm
    omega
  have HS0 := Lib.hid HS
  clear HS hm
  have efn := eql_func_nil fn cs
  go_enter Tryz.func75, Tryz.ntmps75
  go_wp2_with fail
  go_quiet (fail)
  go_wp2_with fail
  go_ret
  exact ⟨rfl, ⟨np, nc, mp, mc, HS0.out.drewN _⟩, Ran.drewN (Below.refl 0 w) _⟩
theorem len_calls (lb : Nat) (most nest : Int) (fs : List Value) (ms : List Nat) (w : World) (R : Hp) (h : LogAt w lb most nest fs ms R) :
    Calls Tryz.prog 25 #[.pointer (some ⟨lb, 0, none⟩)] w fun e w' => e = .returned (.int .i64 (fs.length : Int)) ∧ w = w' := by
  obtain ⟨np, nc, mp, mc, HS⟩ := h
  obtain ⟨c0, c1, c2, c3, cz⟩ := log_cells HS.get
  clear HS
  go_enter Tryz.func25, Tryz.ntmps25
  go_wp2_with fail
  go_ret
  exact ⟨rfl, rfl⟩
theorem marks_calls (lb : Nat) (most nest : Int) (fs : List Value) (ms : List Nat) (w : World) (R : Hp) (h : LogAt w lb most nest fs ms R) :
    Calls Tryz.prog 17 #[.pointer (some ⟨lb, 0, none⟩)] w fun e w' => e = .returned (.int .i64 (ms.length : Int)) ∧ w = w' := by
  obtain ⟨np, nc, mp, mc, HS⟩ := h
  obtain ⟨c0, c1, c2, c3, cz⟩ := log_cells HS.get
  clear HS
  go_enter Tryz.func17, Tryz.ntmps17
  go_wp2_with fail
  go_ret
  exact ⟨rfl, rfl⟩
set_option maxRecDepth 100000 in
/-- Undo without an open mark. -/
theorem undo_idle (lb : Nat) (most nest : Int) (fs : List Value) (w : World) (R : Hp) (h : LogAt w lb most nest fs [] R) :
    Calls Tryz.prog 54 #[.pointer (some ⟨lb, 0, none⟩)] w fun e w' => e = .returned (.int .i64 1) ∧ LogAt w' lb most nest fs [] R ∧ Ran w w' := by
  obtain ⟨np, nc, mp, mc, HS⟩ := h
  obtain ⟨c0, c1, c2, c3, cz⟩ := log_cells HS.get
  have HS0 := Lib.hid HS
  clear HS
  refine calls_of_wp_marks Tryz.func54 rfl ?_
  simp only [Tryz.ntmps54, List.size_toArray, List.length_cons, List.length_nil, Nat.reduceAdd, Nat.reduceSub, Array.replicate_succ, Array.replicate_zero, List.push_toArray, List.append_toArray, List.nil_append, List.cons_append]
  go_wp2_with fail
  refine marks_ret (results_tmp rfl _ _ _) rfl ?_
  exact ⟨rfl, ⟨np, nc, mp, mc, HS0.out⟩, Below.refl 0 w⟩
set_option maxRecDepth 100000 in
set_option maxHeartbeats 1000000 in
/-- Mark with no room. -/
theorem mark_full (lb : Nat) (most nest : Int) (fs : List Value) (ms : List Nat) (w : World) (R : Hp) (h : LogAt w lb most nest fs ms R) (hl : (ms.length : Int) = nest) :
    Calls Tryz.prog 60 #[.pointer (some ⟨lb, 0, none⟩)] w fun e w' => e = .returned (.tuple #[.int .i64 0, .int .i64 42]) ∧ LogAt w' lb most nest fs ms R ∧ Ran w w' := by
  obtain ⟨np, nc, mp, mc, HS⟩ := h
  obtain ⟨c0, c1, c2, c3, cz⟩ := log_cells HS.get
  have hne : ((ms.length : Int) == nest) = true := by rw [beq_iff_eq]; omega
  have HS0 := Lib.hid HS
  clear HS
  go_enter Tryz.func60, Tryz.ntmps60
  go_wp2_with fail
  go_quiet (fail)
  go_wp2_with fail
  go_ret2
  exact ⟨rfl, ⟨np, nc, mp, mc, HS0.out.drewN _⟩, Ran.drewN (Below.refl 0 w) _⟩
/-- A log with its notes and marks. -/
def logHp (lb : Nat) (most nest : Int) (fs : List Value) (ms : List Nat) : Hp := ex fun np : Option Addr => ex fun nc : Nat => ex fun mp : Option Addr => ex fun mc : Nat => pts lb (logO most nest np fs.length nc mp ms.length mc) * (notes np fs.length nc fs * marksA mp mc ms)
theorem log_out {w : World} {lb : Nat} {most nest : Int} {fs : List Value} {ms : List Nat} {R : Hp} (h : Sat w (logHp lb most nest fs ms * R)) : LogAt w lb most nest fs ms R := by
  unfold logHp at h
  obtain ⟨np, h⟩ := h.ex_out
  obtain ⟨nc, h⟩ := h.ex_out
  obtain ⟨mp, h⟩ := h.ex_out
  obtain ⟨mc, h⟩ := h.ex_out
  exact ⟨np, nc, mp, mc, h.perm (by ac_rfl)⟩
theorem log_in {w : World} {lb : Nat} {most nest : Int} {fs : List Value} {ms : List Nat} {R : Hp} (h : LogAt w lb most nest fs ms R) : Sat w (logHp lb most nest fs ms * R) := by
  obtain ⟨np, nc, mp, mc, h⟩ := h
  unfold logHp
  refine Sat.ex_in np ?_
  refine Sat.ex_in nc ?_
  refine Sat.ex_in mp ?_
  refine Sat.ex_in mc ?_
  exact h.perm (by ac_rfl)
end Go.Proofs.YteienbdbhnikbaaGreatDoor.Undo

namespace Go.Proofs.YteienbdbhnikbaaGreatDoor.Hd
open Go.RowKit Go.Maps Go.Proofs.YteienbdbhnikbaaGreatDoor Go.Proofs.YteienbdbhnikbaaGreatDoor.Hp
set_option linter.unusedVariables false

def I64 (x : Int) : Prop := -9223372036854775808 ≤ x ∧ x ≤ 9223372036854775807
abbrev ik (n : Int) : Lit := .int .i64 n
theorem i64_wf {n : Int} (h : I64 n) : (ik n).wf = true := by
  unfold I64 at h
  simp [Lit.wf, IntKind.min, IntKind.max, IntKind.signed, IntKind.bits]
  omega
theorem intKey : Keyed Tryz.prog 3 := int_keyed Tryz.underlying3
theorem ikey {n : Int} (h : I64 n) : keyOf Tryz.prog 3 (.int .i64 n) = some (ik n) := keyOf_int_mk Tryz.underlying3 (i64_wf h)
/-- A pointer to a block's beginning, or none. -/
def pv : Option Nat → Value
  | none => .pointer none
  | some b => .pointer (some ⟨b, 0, none⟩)
def cod : Option Nat → Int
  | none => 0
  | some b => b + 1
theorem cod_inj {a b : Option Nat} (h : cod a = cod b) : a = b := by
  cases a <;> cases b <;> simp [cod] at h ⊢ <;> omega
def pel : Value → Option (DataW Unit × List MemPlace)
  | .pointer none => some (.lit (.int .i64 0), [])
  | .pointer (some ⟨b, 0, none⟩) => some (.lit (.int .i64 (b + 1)), [])
  | _ => none
theorem pel_pv (o : Option Nat) : pel (pv o) = some (.lit (ik (cod o)), []) := by cases o <;> rfl
theorem pel_inv {v : Value} {o : Option Nat} {ps : List MemPlace} (h : pel v = some (.lit (ik (cod o)), ps)) : v = pv o := by
  unfold pel at h
  split at h
  · injection h with h; injection h with h _; injection h with h; injection h with _ h
    have : o = none := cod_inj (a := o) (b := none) (by rw [← h]; rfl)
    rw [this]; rfl
  · rename_i b
    injection h with h; injection h with h _; injection h with h; injection h with _ h
    have : o = some b := cod_inj (a := o) (b := some b) (by rw [← h]; rfl)
    rw [this]; rfl
  · cases h
abbrev Owns (w : World) (b n : Nat) (D : DataW Unit) : Prop := w.ownsMap (H := Unit) Tryz.prog 3 pel b n D
theorem owns_block {w w' : World} {b n : Nat} {D : DataW Unit} (h : Owns w b n D) (e : w'.heap[b]? = w.heap[b]?) : Owns w' b n D := by
  obtain ⟨es, clock, hb, r⟩ := h
  exact ⟨es, clock, e.trans hb, r⟩
def mapD (b n : Nat) (D : DataW Unit) : Hp := ex fun o : Obj => fact (∀ w : World, w.heap[b]? = some o → Owns w b n D) * pts b o
theorem mapD_out {w : World} {b n : Nat} {D : DataW Unit} {S : Hp} (h : Sat w (mapD b n D * S)) : Owns w b n D ∧ ∃ o, Sat w (pts b o * S) := by
  unfold mapD at h
  obtain ⟨o, h⟩ := h.ex_out
  rw [sep_assoc] at h
  obtain ⟨hf, h⟩ := h.fact_out
  exact ⟨hf w h.get, o, h⟩
theorem mapD_in {w : World} {b n : Nat} {D : DataW Unit} {S : Hp} {o : Obj} (h : Sat w (pts b o * S)) (hO : Owns w b n D) : Sat w (mapD b n D * S) := by
  unfold mapD
  refine Sat.ex_in o ?_
  rw [sep_assoc]
  exact h.fact_in fun w' hw' => owns_block hO (hw'.trans h.get.symm)
theorem mapD_turned {w w' : World} {b n n' : Nat} {D D' : DataW Unit} {S : Hp} (h : Sat w (mapD b n D * S)) (ht : w.grownBy w' (some b)) (hO : Owns w' b n' D') : Sat w' (mapD b n' D' * S) := by
  obtain ⟨_, o, hs⟩ := mapD_out h
  obtain ⟨es, clock, hb, r⟩ := hO
  exact mapD_in (hs.put hb fun k hk hne => ht.block k hk (fun e => hne (by simpa using e))) ⟨es, clock, hb, r⟩
/-- What the datum says of each number. -/
structure Reads (D : DataW Unit) (M : Int → Option Nat) (sz : Nat) : Prop where
  ism : IsMap D
  has : ∀ k : Int, Maps.has D (ik k) = (M k).isSome
  val : ∀ k : Int, D.atKey (ik k) (.lit (ik 0)) = .lit (ik (cod (M k)))
  size : Maps.size D = sz
/-- A map of at most n entries ever; sz there are. -/
def pmap (b : Nat) (M : Int → Option Nat) (sz n : Nat) : Hp := ex fun D : DataW Unit => fact (Reads D M sz) * mapD b n D
def putP (M : Int → Option Nat) (k : Int) (b : Nat) : Int → Option Nat := fun t => if t = k then some b else M t
def delP (M : Int → Option Nat) (k : Int) : Int → Option Nat := fun t => if t = k then none else M t
theorem ik_ne {a b : Int} (h : a ≠ b) : ik a ≠ ik b := fun e => h (by injection e)
theorem reads_put {D : DataW Unit} {M : Int → Option Nat} {sz : Nat} (h : Reads D M sz) (ht : Tidy D) (k : Int) (hM : M k = none) (b : Nat) : Reads (D.put (ik k) (.lit (ik (cod (some b))))) (putP M k b) (sz + 1) where
  ism := h.ism.put _ _
  has t := by
    unfold putP
    by_cases e : t = k
    · subst e; rw [if_pos rfl]; exact has_put_same h.ism (show WideAt.IsKeyLit (ik t) from trivial) _
    · rw [if_neg e, has_put_other (ik_ne e)]; exact h.has t
  val t := by
    unfold putP
    by_cases e : t = k
    · subst e; rw [if_pos rfl]; exact atKey_put_same h.ism (show WideAt.IsKeyLit (ik t) from trivial) _ _
    · rw [if_neg e, atKey_put_other (ik_ne e)]; exact h.val t
  size := by
    rw [size_put ht, h.has, hM, h.size]
    rfl
theorem reads_del {D : DataW Unit} {M : Int → Option Nat} {sz : Nat} (h : Reads D M (sz + 1)) (ht : Tidy D) (k : Int) (hM : (M k).isSome = true) : Reads (D.del (ik k)) (delP M k) sz where
  ism := h.ism.del _
  has t := by
    unfold delP
    by_cases e : t = k
    · subst e; rw [if_pos rfl]; exact has_del_same
    · rw [if_neg e, has_del_other (ik_ne e)]; exact h.has t
  val t := by
    unfold delP
    by_cases e : t = k
    · subst e; rw [if_pos rfl]; exact atKey_del_same _
    · rw [if_neg e, atKey_del_other (ik_ne e)]; exact h.val t
  size := by
    have := size_del (k := ik k) ht
    rw [h.has, hM, h.size] at this
    simp at this
    omega
theorem pmap_out {w : World} {b sz n : Nat} {M : Int → Option Nat} {S : Hp} (h : Sat w (pmap b M sz n * S)) : ∃ D, Reads D M sz ∧ Sat w (mapD b n D * S) := by
  unfold pmap at h
  obtain ⟨D, h⟩ := h.ex_out
  rw [sep_assoc] at h
  obtain ⟨hf, h⟩ := h.fact_out
  exact ⟨D, hf, h⟩
theorem pmap_in {w : World} {b sz n : Nat} {M : Int → Option Nat} {S : Hp} {D : DataW Unit} (h : Sat w (mapD b n D * S)) (hR : Reads D M sz) : Sat w (pmap b M sz n * S) := by
  unfold pmap
  refine Sat.ex_in D ?_
  rw [sep_assoc]
  exact h.fact_in hR
theorem pmap_le {w : World} {b sz n : Nat} {M : Int → Option Nat} {S : Hp} (h : Sat w (pmap b M sz n * S)) : sz ≤ n := by
  obtain ⟨D, hR, h⟩ := pmap_out h
  obtain ⟨hO, _⟩ := mapD_out h
  rw [← hR.size]
  exact hO.size_le
variable {t e : TypeId}
/-- m[k] -/
theorem pmap_look (ht : Tryz.prog.underlying t = some (.map 3 e)) (hz : ∀ w, (zeroValue e).run Tryz.prog w = .ok (.pointer none) w) {w : World} {b sz n : Nat} {M : Int → Option Nat} {S : Hp} (h : Sat w (pmap b M sz n * S)) (k : Int) (hk : I64 k) :
    (Instr.lookup t (.map (some b)) (.int .i64 k) false).run Tryz.prog w = .ok (pv (M k)) w := by
  obtain ⟨D, hR, h⟩ := pmap_out h
  obtain ⟨hO, _⟩ := mapD_out h
  obtain ⟨v, ps, hrun, hv⟩ := hO.lookup intKey ht (hz w) (zd := .lit (ik 0)) (zp := []) rfl (ikey hk)
  rw [hR.val] at hv
  rw [hrun, pel_inv hv]
/-- m[k] = v, where nothing was -/
theorem pmap_put (ht : Tryz.prog.underlying t = some (.map 3 e)) {w : World} {b sz n : Nat} {M : Int → Option Nat} {S : Hp} (h : Sat w (pmap b M sz n * S)) (hn : n < maxLen) (k : Int) (hk : I64 k) (hM : M k = none) (c : Nat) :
    ∃ w', (Instr.mapUpdate t (.map (some b)) (.int .i64 k) (.pointer (some ⟨c, 0, none⟩))).run Tryz.prog w = .ok () w' ∧ Sat w' (pmap b (putP M k c) (sz + 1) (n + 1) * S) ∧ Ran w w' := by
  obtain ⟨D, hR, h⟩ := pmap_out h
  obtain ⟨hO, _⟩ := mapD_out h
  obtain ⟨w', hrun, hO', ht2⟩ := hO.store intKey ht hn (ikey hk) (pel_pv (some c))
  exact ⟨w', hrun, pmap_in (mapD_turned h ht2.grown hO') (reads_put hR (hO.tidy intKey) k hM c), ⟨ht2.grown.os, ht2.grown.tape, ht2.grown.output, ht2.grown.size, fun k hk => absurd hk (Nat.not_lt_zero _)⟩⟩
/-- delete(m, k) -/
theorem pmap_del (ht : Tryz.prog.underlying t = some (.map 3 e)) {w : World} {b sz n : Nat} {M : Int → Option Nat} {S : Hp} (h : Sat w (pmap b M (sz + 1) n * S)) (k : Int) (hk : I64 k) (hM : (M k).isSome = true) (ty : TypeId) :
    ∃ w', (Builtin.delete_ #[t, 3] ty #[.map (some b), .int .i64 k]).run Tryz.prog w = .ok (.tuple #[]) w' ∧ Sat w' (pmap b (delP M k) sz n * S) ∧ Ran w w' := by
  obtain ⟨D, hR, h⟩ := pmap_out h
  obtain ⟨hO, _⟩ := mapD_out h
  obtain ⟨w', hrun, hO', ht2⟩ := hO.drop intKey ht (ikey hk) ty
  exact ⟨w', hrun, pmap_in (mapD_turned h ht2.grown hO') (reads_del hR (hO.tidy intKey) k hM), ⟨ht2.grown.os, ht2.grown.tape, ht2.grown.output, ht2.grown.size, fun k hk => absurd hk (Nat.not_lt_zero _)⟩⟩
/-- len(m) -/
theorem pmap_len (ht : Tryz.prog.underlying t = some (.map 3 e)) {w : World} {b sz n : Nat} {M : Int → Option Nat} {S : Hp} (h : Sat w (pmap b M sz n * S)) (ty : TypeId) :
    (Builtin.len_ #[t] ty #[.map (some b)]).run Tryz.prog w = .ok (.int .i64 (sz : Int)) w := by
  obtain ⟨D, hR, h⟩ := pmap_out h
  obtain ⟨hO, _⟩ := mapD_out h
  rw [hO.len ht ty, hR.size]
theorem pmap_made {w : World} {S : Hp} (h : Sat w S) : Sat (w.alloc (.map #[] 0)) (pmap w.heap.size (fun _ => none) 0 0 * S) :=
  pmap_in (mapD_in (h.alloc _) (World.ownsMap_made w _ _ _)) ⟨isMap_empty, fun s => rfl, fun s => rfl, rfl⟩
theorem zeroNode (w : World) : (zeroValue 112).run Tryz.prog w = .ok (.pointer none) w := by kernel_rfl
theorem zeroHandle (w : World) : (zeroValue 102).run Tryz.prog w = .ok (.pointer none) w := by kernel_rfl
end Go.Proofs.YteienbdbhnikbaaGreatDoor.Hd

