/- HandlesPlays, part 4 of 18: the texts PrF PrG PrH PrI PrFu PrJ HdA HdK, joined by a program. -/
import Derived.Test.YteienbdbhnikbaaGreatDoorPn3
import Derived.Test.YteienbdbhnikbaaGreatDoorPn1
import Derived.Test.YteienbdbhnikbaaGreatDoorRows
import Derived.Maps.OwnSet
import Derived.StringKeys
namespace Go.Proofs.YteienbdbhnikbaaGreatDoor.Pr
open Go.RowKit Go.Proofs.YteienbdbhnikbaaGreatDoor Go.Proofs.YteienbdbhnikbaaGreatDoor.Hp
set_option linter.unusedVariables false
attribute [local go_sem] Oper.semAt_some
attribute [local go_sem] run_store_func

/-- A slot turned whole. -/
def Pc.slot (p : Pc) (i : Nat) (s : Sl) : Pc := { p with fds := p.fds.set i s }
theorem flat_slot (a b : Value) (s : Sl) : ∀ (l : List Sl) (i : Nat), i < l.length → ((l.flatMap (slC a b)).set (i * 4) (.int .i64 s.has)).set (i * 4 + 1) (.int .i64 s.mark) = (l.set i s).flatMap (slC a b)
  | [], i, h => by simp at h
  | x :: l, 0, _ => rfl
  | x :: l, i + 1, h => by
    rw [List.flatMap_cons, List.set_append_right _ _ (by show 4 ≤ _; omega), List.set_append_right _ _ (by show 4 ≤ _; omega)]
    rw [show (i + 1) * 4 - (slC a b x).length = i * 4 by show (i + 1) * 4 - 4 = _; omega, show (i + 1) * 4 + 1 - (slC a b x).length = i * 4 + 1 by show (i + 1) * 4 + 1 - 4 = _; omega]
    rw [flat_slot a b s l i (by simpa using h)]
    rfl
theorem pcL_slot (p : Pc) (i : Nat) (s : Sl) (hi : i < p.fds.length) : ((pcL p).set (3 + i * 4) (.int .i64 s.has)).set (3 + i * 4 + 1) (.int .i64 s.mark) = pcL (p.slot i s) := by
  unfold pcL
  rw [List.set_append_right _ _ (by show 3 ≤ _; omega), List.set_append_right _ _ (by show 3 ≤ _; omega)]
  rw [show 3 + i * 4 - [pp p.fb, pp p.tb, pp p.lb].length = i * 4 by show 3 + i * 4 - 3 = _; omega, show 3 + i * 4 + 1 - [pp p.fb, pp p.tb, pp p.lb].length = i * 4 + 1 by show 3 + i * 4 + 1 - 3 = _; omega]
  rw [List.set_append_left _ _ (by rw [sl_flat]; omega), List.set_append_left _ _ (by rw [List.length_set, sl_flat]; omega), flat_slot _ _ s p.fds i hi]
  rfl
theorem pc_slot {w : World} {p : Pc} {S : Hp} (h : Sat w (pcHp p * S)) (i : Nat) (s : Sl) (hi : i < p.fds.length) : Sat ((w.setCell ⟨p.pb, 3 + i * 4, none⟩ (.int .i64 s.has)).setCell ⟨p.pb, 3 + i * 4 + 1, none⟩ (.int .i64 s.mark)) (pcHp (p.slot i s) * S) := by
  have h1 := ((h.perm (show _ = pts p.pb (.cells (pcL p).toArray 89 (0, 0)) * ((pts p.fx (.cells #[pp p.fb] 26 (0, 0)) * pts p.tx (.cells #[pp p.tb] 28 (0, 0))) * S) by unfold pcHp pcO; ac_rfl)).setL (i := 3 + i * 4) (.int .i64 s.has)).setL (i := 3 + i * 4 + 1) (.int .i64 s.mark)
  rw [pcL_slot p i s hi] at h1
  exact h1.perm (by unfold pcHp pcO; show pts p.pb (.cells (pcL (p.slot i s)).toArray 89 (0, 0)) * _ = pts p.pb (.cells (pcL (p.slot i s)).toArray 89 (0, 0)) * (pts p.fx (.cells #[pp p.fb] 26 (0, 0)) * pts p.tx (.cells #[pp p.tb] 28 (0, 0))) * S; ac_rfl)
/-- A slot that a note keeps. -/
abbrev wasO (s : Sl) (tx : Nat) : Obj := .cells #[.int .i64 s.has, .int .i64 s.mark, .func (.func 49) #[] #[pp tx], .func (.func 51) #[] #[pp tx]] 86 (0, 0)
/-- What a note of an fd's slot owns: the box of the slot's pointer, the slot as it was. -/
def noteHp (pb i tx sb wb : Nat) (s : Sl) : Hp := pts sb (.cells #[slP pb i] 90 (0, 0)) * pts wb (wasO s tx)
def fBack (sb wb : Nat) : Value := .func (.func 76) #[] #[pp sb, pp wb]
set_option maxRecDepth 100000 in
set_option maxHeartbeats 4000000 in
theorem set_noted (p : Pc) (i : Nat) (n m : Int) (A : Hp) (B C : Nat → Nat → Hp) (w : World) (R : Hp) (hi : i < 16) (h16 : p.fds.length = 16) (hm : (p.fds[i]'(by omega)).mark < m)
    (HMk : ∀ W S, Sat W (A * S) → Calls Tryz.prog 17 #[pp p.lb] W fun e w' => e = .returned (.int .i64 m) ∧ W = w')
    (HN : ∀ sb wb W S, Sat W (A * S) → Calls Tryz.prog 75 #[pp p.lb, .func (.func 76) #[] #[pp sb, pp wb]] W fun e w' => e = .returned (.int .i64 0) ∧ (Sat w' (B sb wb * S) ∧ Ran W w'))
    (HT : ∀ sb wb W S, Sat W (B sb wb * (pcHp p * S)) → Calls Tryz.prog 49 #[.int .i64 n, pp p.tx] W fun e w' => e = .returned (.tuple #[]) ∧ (Sat w' (C sb wb * (pcHp p * S)) ∧ Ran W w'))
    (h : Sat w (A * (pcHp p * R))) :
    Calls Tryz.prog 56 #[pp p.pb, slP p.pb i, .int .i64 n] w fun e w' => (e = .returned (.int .i64 0) ∧ ∃ sb wb, Sat w' (C sb wb * (noteHp p.pb i p.tx sb wb (p.fds[i]'(by omega)) * (pcHp (p.slot i ⟨n, m⟩) * R)))) ∧ Ran w w' := by
  have S1 := h.alloc (.cells #[slP p.pb i] 90 (0, 0))
  have R1 := Ran.new (Below.refl 0 w) (.cells #[slP p.pb i] 90 (0, 0))
  obtain ⟨sb, hsb⟩ : ∃ x, x = w.heap.size := ⟨_, rfl⟩
  obtain ⟨w1, hw1⟩ : ∃ w1, w1 = w.alloc (.cells #[slP p.pb i] 90 (0, 0)) := ⟨_, rfl⟩
  rw [← hw1, ← hsb] at S1
  rw [← hw1] at R1
  obtain ⟨sl, hsl⟩ : ∃ s, s = p.fds[i]'(by omega) := ⟨_, rfl⟩
  rw [← hsl] at hm ⊢
  have HC := Lib.hid (fun (W : World) (X : Hp) (hW : Sat W (pts sb (.cells #[slP p.pb i] 90 (0, 0)) * (X * (pcHp p * R)))) => (by
    have h2 := hW.perm (show _ = pcHp p * (pts sb (.cells #[slP p.pb i] 90 (0, 0)) * (X * R)) by ac_rfl)
    obtain ⟨c0, c1, c2, c3⟩ := pc_fd h2 i (by omega)
    obtain ⟨a0, a1, a2⟩ := pc_heads h2
    rw [← hsl] at c0 c1
    exact ⟨by rw [cell_at hW.get]; rfl, c0, c1, c2, c3, a2, fun k => pc_free h2 k⟩ : W.cell? ⟨sb, 0, none⟩ = some (slP p.pb i) ∧ W.cell? ⟨p.pb, 3 + i * 4, none⟩ = some (.int .i64 sl.has) ∧ W.cell? ⟨p.pb, 3 + i * 4 + 1, none⟩ = some (.int .i64 sl.mark) ∧ W.cell? ⟨p.pb, 3 + i * 4 + 2, none⟩ = some (.func (.func 49) #[] #[pp p.tx]) ∧ W.cell? ⟨p.pb, 3 + i * 4 + 3, none⟩ = some (.func (.func 51) #[] #[pp p.tx]) ∧ W.cell? ⟨p.pb, 2, none⟩ = some (pp p.lb) ∧ ∀ k, W.frozen? ⟨p.pb, k, none⟩ = false))
  obtain ⟨sh, sm⟩ := sl
  dsimp only at hm HC
  obtain ⟨z0, c0, c1, c2, c3, a2, -⟩ := HC.out w1 A S1
  have HMw := Lib.hid (HMk w1 _ (S1.perm (show _ = A * (pts sb (.cells #[slP p.pb i] 90 (0, 0)) * (pcHp p * R)) by ac_rfl)))
  have S2 := S1.alloc (wasO ⟨sh, sm⟩ p.tx)
  have R2 := Ran.new R1 (wasO ⟨sh, sm⟩ p.tx)
  obtain ⟨wb, hwb⟩ : ∃ x, x = w1.heap.size := ⟨_, rfl⟩
  obtain ⟨w2, hw2⟩ : ∃ w2, w2 = w1.alloc (wasO ⟨sh, sm⟩ p.tx) := ⟨_, rfl⟩
  rw [← hw2, ← hwb] at S2
  rw [← hw2] at R2
  obtain ⟨y0, d0, d1, d2, d3, b2, -⟩ := HC.out w2 (A * pts wb (wasO ⟨sh, sm⟩ p.tx)) (S2.perm (by ac_rfl))
  have HNw := Lib.hid (HN sb wb w2 _ (S2.perm (show _ = A * (pts wb (wasO ⟨sh, sm⟩ p.tx) * (pts sb (.cells #[slP p.pb i] 90 (0, 0)) * (pcHp p * R))) by ac_rfl)))
  have HTh := Lib.hid (HT sb wb)
  have R2 := Lib.hid R2
  have hil : i < p.fds.length := by omega
  have Hsl := Lib.hid hsl
  clear h S1 HMk HT HN S2 R1 hsl
  go_enter Tryz.func56, Tryz.ntmps56
  go_upto_region 1 with fail
  rw [← hw1, ← hsb]
  clear hw1 hsb
  go_wp2_with fail
  refine HMw.out.mono ?_
  rintro e w3 ⟨rfl, rfl⟩
  clear HMw
  go_upto_region 8 with fail
  rw [← hw2, ← hwb]
  clear hw2 hwb z0 c0 c1 c2 c3 a2
  go_wp2_with fail
  refine HNw.out.mono ?_
  rintro e w4 ⟨rfl, S4, R4⟩
  clear y0 d0 d1 d2 d3 b2
  obtain ⟨z0, c0, c1, c2, c3, a2, -⟩ := HC.out w4 (B sb wb * pts wb (wasO ⟨sh, sm⟩ p.tx)) (S4.perm (by ac_rfl))
  have HTw := Lib.hid (HTh.out w4 _ (S4.perm (show _ = B sb wb * (pcHp p * (pts wb (wasO ⟨sh, sm⟩ p.tx) * (pts sb (.cells #[slP p.pb i] 90 (0, 0)) * R))) by ac_rfl)))
  have R4 := Lib.hid (Below.trans R2.out R4)
  clear S4 HNw HTh R2
  go_wp2_with fail
  refine HTw.out.mono ?_
  rintro e w5 ⟨rfl, S5, R5⟩
  clear z0 c0 c1 c2 c3 a2
  obtain ⟨z0, c0, c1, -, -, -, fz⟩ := HC.out w5.drew (C sb wb * pts wb (wasO ⟨sh, sm⟩ p.tx)) (S5.drew.perm (by ac_rfl))
  have fz0 := fz (3 + i * 4)
  have fz1 := fz (3 + i * 4 + 1)
  have e0 : w5.cell? ⟨p.pb, 3 + i * 4, none⟩ = some (.int .i64 sh) := c0
  have e1 : w5.cell? ⟨p.pb, 3 + i * 4 + 1, none⟩ = some (.int .i64 sm) := c1
  have gz0 : w5.frozen? ⟨p.pb, 3 + i * 4, none⟩ = false := fz0
  have gz1 : w5.frozen? ⟨p.pb, 3 + i * 4 + 1, none⟩ = false := fz1
  have S6 := pc_slot (S5.drew.perm (show _ = pcHp p * (C sb wb * (pts wb (wasO ⟨sh, sm⟩ p.tx) * (pts sb (.cells #[slP p.pb i] 90 (0, 0)) * R))) by ac_rfl)) i ⟨n, m⟩ hil
  have S6 := S6.perm (show _ = C sb wb * (noteHp p.pb i p.tx sb wb ⟨sh, sm⟩ * (pcHp (p.slot i ⟨n, m⟩) * R)) by unfold noteHp; ac_rfl)
  have R6 := Ran.set (Ran.set (Below.drew (Below.trans R4.out R5)) ⟨p.pb, 3 + i * 4, none⟩ (.int .i64 n)) ⟨p.pb, 3 + i * 4 + 1, none⟩ (.int .i64 m)
  have y1 : (w5.drew.setCell ⟨p.pb, 3 + i * 4, none⟩ (.int .i64 n)).cell? ⟨sb, 0, none⟩ = some (slP p.pb i) := by
    have h7 := (pc_has (S5.drew.perm (show _ = pcHp p * (C sb wb * (pts wb (wasO ⟨sh, sm⟩ p.tx) * (pts sb (.cells #[slP p.pb i] 90 (0, 0)) * R))) by ac_rfl)) i n hil).perm (show _ = pts sb (.cells #[slP p.pb i] 90 (0, 0)) * (C sb wb * (pts wb (wasO ⟨sh, sm⟩ p.tx) * (pcHp (p.has i n) * R))) by ac_rfl)
    rw [cell_at h7.get]; rfl
  have y2 : ((w5.drew.setCell ⟨p.pb, 3 + i * 4, none⟩ (.int .i64 n)).setCell ⟨p.pb, 3 + i * 4 + 1, none⟩ (.int .i64 m)).cell? ⟨sb, 0, none⟩ = some (slP p.pb i) := by
    have h7 := S6.perm (show _ = pts sb (.cells #[slP p.pb i] 90 (0, 0)) * (C sb wb * (pts wb (wasO ⟨sh, sm⟩ p.tx) * (pcHp (p.slot i ⟨n, m⟩) * R))) by unfold noteHp; ac_rfl)
    rw [cell_at h7.get]; rfl
  have hA := Lib.hid (And.intro S6 R6)
  clear S5 R5 R4 S6 R6 HTw fz
  go_upto_region 12 with fail
  refine region_plan (S := (fun w' => w'.cell? ⟨sb, 0, none⟩ = some (slP p.pb i))) [(0, true), (1, true), (2, true), (3, true), (4, true), (5, true), (6, false), (7, true), (8, true), (9, false)] (by kernel_rfl) (by kernel_rfl) (by kernel_rfl) ?_ ?_
  · ((try dsimp only); (first | done | (first | exact z0 | exact y1 | exact y2)))
  simp only [planOps, List.map_cons, List.map_nil, List.getElem?_toArray, List.getElem?_cons_zero, List.getElem?_cons_succ]
  repeat (first
    | ((refine plan_yes (v := ?_) (by rfl) ?_ ?_); rotate_left; (focus (intro w hSw; (try dsimp only at hSw); go_simp; try (with_reducible rfl))); (try simp only [Act.put, List.setIfInBounds_toArray, List.set_cons_zero, List.set_cons_succ]))
    | ((refine plan_no (by rfl) ?_); (try simp only [Act.put, List.setIfInBounds_toArray, List.set_cons_zero, List.set_cons_succ]))
    | ((refine plan_step (fun K hK => ?_)); (first | (fail) | (go_simp; (fail); (try go_wp2_with fail)) | go_simp); (refine hK.out _ _ ?_ (fun hHeld => ?_)); (focus ((try dsimp only); (first | done | (first | exact z0 | exact y1 | exact y2)))); clear hK K; (try simp only [Act.put, List.setIfInBounds_toArray, List.set_cons_zero, List.set_cons_succ])))
  refine plan_done ?_
  go_wp2_with fail
  go_ret
  exact ⟨⟨rfl, sb, wb, hA.out.1⟩, hA.out.2⟩
end Go.Proofs.YteienbdbhnikbaaGreatDoor.Pr

namespace Go.Proofs.YteienbdbhnikbaaGreatDoor.Pr
open Go.RowKit Go.Proofs.YteienbdbhnikbaaGreatDoor Go.Proofs.YteienbdbhnikbaaGreatDoor.Hp
set_option linter.unusedVariables false
attribute [local go_sem] Oper.semAt_some
attribute [local go_sem] run_store_func

theorem pc_same {w : World} {p : Pc} {S : Hp} (h : Sat w (pcHp p * S)) (k : Nat) (v : Value) (hv : w.cell? ⟨p.pb, k, none⟩ = some v) : Sat (w.setCell ⟨p.pb, k, none⟩ v) (pcHp p * S) := by
  rw [pc_at h] at hv
  have h1 := (h.perm (show _ = pts p.pb (.cells (pcL p).toArray 89 (0, 0)) * ((pts p.fx (.cells #[pp p.fb] 26 (0, 0)) * pts p.tx (.cells #[pp p.tb] 28 (0, 0))) * S) by unfold pcHp pcO; ac_rfl)).setL (i := k) v
  have e : (pcL p).set k v = pcL p := by
    obtain ⟨hk, he⟩ := List.getElem?_eq_some_iff.1 hv
    rw [← he]
    exact List.set_getElem_self hk
  rw [e] at h1
  exact h1.perm (by unfold pcHp pcO; ac_rfl)
theorem slot_len (p : Pc) (i : Nat) (s : Sl) : (p.slot i s).fds.length = p.fds.length := List.length_set ..
set_option maxRecDepth 100000 in
set_option maxHeartbeats 4000000 in
theorem back_calls (p : Pc) (i sb wb : Nat) (s : Sl) (D E : Hp) (w : World) (R : Hp) (hi : i < 16) (h16 : p.fds.length = 16)
    (HD : ∀ W S, Sat W (D * (pcHp p * S)) → Calls Tryz.prog 51 #[.int .i64 (p.fds[i]'(by omega)).has, pp p.tx] W fun e w' => e = .returned (.tuple #[]) ∧ (Sat w' (E * (pcHp p * S)) ∧ Ran W w'))
    (h : Sat w (D * (noteHp p.pb i p.tx sb wb s * (pcHp p * R)))) :
    Calls Tryz.prog 76 #[pp sb, pp wb] w fun e w' => (e = .returned (.tuple #[]) ∧ Sat w' (E * (noteHp p.pb i p.tx sb wb s * (pcHp (p.slot i s) * R)))) ∧ Ran w w' := by
  obtain ⟨x, hx⟩ : ∃ x, x = (p.fds[i]'(by omega)).has := ⟨_, rfl⟩
  rw [← hx] at HD
  have HC := Lib.hid (fun (W : World) (X : Hp) (hW : Sat W (X * (noteHp p.pb i p.tx sb wb s * (pcHp p * R)))) => (by
    have h2 := hW.perm (show _ = pcHp p * (X * (noteHp p.pb i p.tx sb wb s * R)) by ac_rfl)
    have h3 := hW.perm (show _ = pts sb (.cells #[slP p.pb i] 90 (0, 0)) * (pts wb (wasO s p.tx) * (X * (pcHp p * R))) by unfold noteHp; ac_rfl)
    obtain ⟨c0, c1, c2, c3⟩ := pc_fd h2 i (by omega)
    rw [← hx] at c0
    exact ⟨by rw [cell_at h3.get]; rfl, c0, c1, c2, c3, fun k => pc_free h2 k, by rw [cell_at h3.right.get]; rfl, by rw [cell_at h3.right.get]; rfl, by rw [cell_at h3.right.get]; rfl, by rw [cell_at h3.right.get]; rfl⟩ : W.cell? ⟨sb, 0, none⟩ = some (slP p.pb i) ∧ W.cell? ⟨p.pb, 3 + i * 4, none⟩ = some (.int .i64 x) ∧ W.cell? ⟨p.pb, 3 + i * 4 + 1, none⟩ = some (.int .i64 (p.fds[i]'(by omega)).mark) ∧ W.cell? ⟨p.pb, 3 + i * 4 + 2, none⟩ = some (.func (.func 49) #[] #[pp p.tx]) ∧ W.cell? ⟨p.pb, 3 + i * 4 + 3, none⟩ = some (.func (.func 51) #[] #[pp p.tx]) ∧ (∀ k, W.frozen? ⟨p.pb, k, none⟩ = false) ∧ W.cell? ⟨wb, 0, none⟩ = some (.int .i64 s.has) ∧ W.cell? ⟨wb, 1, none⟩ = some (.int .i64 s.mark) ∧ W.cell? ⟨wb, 2, none⟩ = some (.func (.func 49) #[] #[pp p.tx]) ∧ W.cell? ⟨wb, 3, none⟩ = some (.func (.func 51) #[] #[pp p.tx])))
  have hil : i < p.fds.length := by omega
  obtain ⟨mk, hmk⟩ : ∃ k, k = (p.fds[i]'(by omega)).mark := ⟨_, rfl⟩
  rw [← hmk] at HC
  obtain ⟨z0, c0, c1, c2, c3, -, -⟩ := HC.out w.drew D h.drew
  have HDw := Lib.hid (HD w.drew _ (h.drew.perm (show _ = D * (pcHp p * (noteHp p.pb i p.tx sb wb s * R)) by ac_rfl)))
  have R0 := Lib.hid (Below.drew (Below.refl 0 w) : Ran w w.drew)
  clear h HD hx hmk
  go_enter Tryz.func76, Tryz.ntmps76
  go_upto_region 0 with fail
  refine region_plan (S := (fun w' => w'.cell? ⟨sb, 0, none⟩ = some (slP p.pb i) ∧ w'.cell? ⟨p.pb, 3 + i * 4, none⟩ = some (.int .i64 x) ∧ w'.cell? ⟨p.pb, 3 + i * 4 + 3, none⟩ = some (.func (.func 51) #[] #[pp p.tx]))) [(0, true), (1, true), (2, true), (3, true), (4, true), (5, true), (6, true), (7, true), (8, false)] (by kernel_rfl) (by kernel_rfl) (by kernel_rfl) ?_ ?_
  · ((try dsimp only); (first | done | (first | exact ⟨z0, c0, c3⟩ | exact ⟨y0, d0, d3⟩)))
  simp only [planOps, List.map_cons, List.map_nil, List.getElem?_toArray, List.getElem?_cons_zero, List.getElem?_cons_succ]
  repeat (first
    | ((refine plan_yes (v := ?_) (by rfl) ?_ ?_); rotate_left; (focus (intro w hSw; (try dsimp only at hSw); go_simp; try (with_reducible rfl))); (try simp only [Act.put, List.setIfInBounds_toArray, List.set_cons_zero, List.set_cons_succ]))
    | ((refine plan_no (by rfl) ?_); (try simp only [Act.put, List.setIfInBounds_toArray, List.set_cons_zero, List.set_cons_succ]))
    | ((refine plan_step (fun K hK => ?_)); (first | ((refine HDw.out.mono ?_; rintro e w4 ⟨rfl, S4, R4⟩; have hS4 := S4.perm (show _ = E * (noteHp p.pb i p.tx sb wb s * (pcHp p * R)) by ac_rfl); obtain ⟨y0, d0, d1, d2, d3, fz, n0, n1, n2, n3⟩ := HC.out w4 E hS4; have S5 := Lib.hid S4; have R5 := Lib.hid (Below.trans R0.out R4); clear S4 hS4 R4)) | (go_simp; ((refine HDw.out.mono ?_; rintro e w4 ⟨rfl, S4, R4⟩; have hS4 := S4.perm (show _ = E * (noteHp p.pb i p.tx sb wb s * (pcHp p * R)) by ac_rfl); obtain ⟨y0, d0, d1, d2, d3, fz, n0, n1, n2, n3⟩ := HC.out w4 E hS4; have S5 := Lib.hid S4; have R5 := Lib.hid (Below.trans R0.out R4); clear S4 hS4 R4)); (try go_wp2_with fail)) | go_simp); (refine hK.out _ _ ?_ (fun hHeld => ?_)); (focus ((try dsimp only); (first | done | (first | exact ⟨z0, c0, c3⟩ | exact ⟨y0, d0, d3⟩)))); clear hK K; (try simp only [Act.put, List.setIfInBounds_toArray, List.set_cons_zero, List.set_cons_succ])))
  refine plan_done ?_
  have f0 := fz (3 + i * 4)
  have f1 := fz (3 + i * 4 + 1)
  have f2 := fz (3 + i * 4 + 2)
  have f3 := fz (3 + i * 4 + 3)
  have h6 := pc_slot (S5.out.perm (show _ = pcHp p * (E * (noteHp p.pb i p.tx sb wb s * R)) by ac_rfl)) i s hil
  obtain ⟨-, -, g2, -⟩ := pc_fd h6 i (by rw [slot_len]; exact hil)
  have h7 := pc_same h6 (3 + i * 4 + 2) _ g2
  obtain ⟨-, -, -, g3⟩ := pc_fd h7 i (by rw [slot_len]; exact hil)
  have h8 := (pc_same h7 (3 + i * 4 + 3) _ g3).perm (show _ = E * (noteHp p.pb i p.tx sb wb s * (pcHp (p.slot i s) * R)) by ac_rfl)
  have R8 := Ran.set (Ran.set (Ran.set (Ran.set R5.out ⟨p.pb, 3 + i * 4, none⟩ (.int .i64 s.has)) ⟨p.pb, 3 + i * 4 + 1, none⟩ (.int .i64 s.mark)) ⟨p.pb, 3 + i * 4 + 2, none⟩ (fRef p.tx)) ⟨p.pb, 3 + i * 4 + 3, none⟩ (fUnref p.tx)
  have hA := Lib.hid (And.intro h8 R8)
  clear S5 R5 h6 g2 h7 g3 h8 R8 fz z0 c0 c1 c2 c3
  go_wp2_with fail
  go_end0
  exact ⟨⟨rfl, hA.out.1⟩, hA.out.2⟩
end Go.Proofs.YteienbdbhnikbaaGreatDoor.Pr

namespace Go.Proofs.YteienbdbhnikbaaGreatDoor.Pr
open Go.RowKit Go.Proofs.YteienbdbhnikbaaGreatDoor Go.Proofs.YteienbdbhnikbaaGreatDoor.Hp
set_option linter.unusedVariables false
attribute [local go_sem] Oper.semAt_some
attribute [local go_sem] run_store_func

abbrev slD (pb : Nat) : Value := .pointer (some ⟨pb, 67, none⟩)
def Pc.dirSlot (p : Pc) (s : Sl) : Pc := { p with dir := s }
abbrev wasD (s : Sl) (fx : Nat) : Obj := .cells #[.int .i64 s.has, .int .i64 s.mark, .func (.func 45) #[] #[pp fx], .func (.func 47) #[] #[pp fx]] 86 (0, 0)
def noteD (pb fx sb wb : Nat) (s : Sl) : Hp := pts sb (.cells #[slD pb] 90 (0, 0)) * pts wb (wasD s fx)
end Go.Proofs.YteienbdbhnikbaaGreatDoor.Pr

namespace Go.Proofs.YteienbdbhnikbaaGreatDoor.Pr
open Go.RowKit Go.Proofs.YteienbdbhnikbaaGreatDoor Go.Proofs.YteienbdbhnikbaaGreatDoor.Hp
set_option linter.unusedVariables false
attribute [local go_sem] Oper.semAt_some
attribute [local go_sem] run_store_func

abbrev slM (pb : Nat) : Value := .pointer (some ⟨pb, 71, none⟩)
def Pc.maskSlot (p : Pc) (s : Sl) : Pc := { p with mask := s }
abbrev wasM (s : Sl) (fx : Nat) : Obj := .cells #[.int .i64 s.has, .int .i64 s.mark, .func (.func 44) #[] #[], .func (.func 44) #[] #[]] 86 (0, 0)
def noteM (pb fx sb wb : Nat) (s : Sl) : Hp := pts sb (.cells #[slM pb] 90 (0, 0)) * pts wb (wasM s fx)
end Go.Proofs.YteienbdbhnikbaaGreatDoor.Pr

namespace Go.Proofs.YteienbdbhnikbaaGreatDoor.Pr
open Go.RowKit Go.Proofs.YteienbdbhnikbaaGreatDoor Go.Proofs.YteienbdbhnikbaaGreatDoor.Hp
set_option linter.unusedVariables false
attribute [local go_sem] Oper.semAt_some
attribute [local go_sem] run_store_func

end Go.Proofs.YteienbdbhnikbaaGreatDoor.Pr

namespace Go.Proofs.YteienbdbhnikbaaGreatDoor.Undo
open Go.RowKit Go.Proofs.YteienbdbhnikbaaGreatDoor Go.Proofs.YteienbdbhnikbaaGreatDoor.Hp
set_option linter.unusedVariables false
attribute [local go_sem] Oper.semAt_some

theorem marks_calls (lb : Nat) (most nest : Int) (fs : List Value) (ms : List Nat) (w : World) (R : Hp) (h : LogAt w lb most nest fs ms R) :
    Calls Tryz.prog 17 #[.pointer (some ⟨lb, 0, none⟩)] w fun e w' => e = .returned (.int .i64 (ms.length : Int)) ∧ w = w' := by
  obtain ⟨np, nc, mp, mc, HS⟩ := h
  obtain ⟨c0, c1, c2, c3, cz⟩ := log_cells HS.get
  clear HS
  go_enter Tryz.func17, Tryz.ntmps17
  go_wp2_with fail
  go_ret
  exact ⟨rfl, rfl⟩
/-- A log with its notes and marks. -/
def logHp (lb : Nat) (most nest : Int) (fs : List Value) (ms : List Nat) : Hp := ex fun np : Option Addr => ex fun nc : Nat => ex fun mp : Option Addr => ex fun mc : Nat => pts lb (logO most nest np fs.length nc mp ms.length mc) * (notes np fs.length nc fs * marksA mp mc ms)
theorem log_out {w : World} {lb : Nat} {most nest : Int} {fs : List Value} {ms : List Nat} {R : Hp} (h : Sat w (logHp lb most nest fs ms * R)) : LogAt w lb most nest fs ms R := by
  unfold logHp at h
  obtain ⟨np, h⟩ := h.ex_out
  obtain ⟨nc, h⟩ := h.ex_out
  obtain ⟨mp, h⟩ := h.ex_out
  obtain ⟨mc, h⟩ := h.ex_out
  exact ⟨np, nc, mp, mc, h.perm (by ac_rfl)⟩
theorem log_in {w : World} {lb : Nat} {most nest : Int} {fs : List Value} {ms : List Nat} {R : Hp} (h : LogAt w lb most nest fs ms R) : Sat w (logHp lb most nest fs ms * R) := by
  obtain ⟨np, nc, mp, mc, h⟩ := h
  unfold logHp
  refine Sat.ex_in np ?_
  refine Sat.ex_in nc ?_
  refine Sat.ex_in mp ?_
  refine Sat.ex_in mc ?_
  exact h.perm (by ac_rfl)
end Go.Proofs.YteienbdbhnikbaaGreatDoor.Undo

namespace Go.Proofs.YteienbdbhnikbaaGreatDoor.Hd
open Go.RowKit Go.Maps Go.Proofs.YteienbdbhnikbaaGreatDoor Go.Proofs.YteienbdbhnikbaaGreatDoor.Hp
set_option linter.unusedVariables false

def I64 (x : Int) : Prop := -9223372036854775808 ≤ x ∧ x ≤ 9223372036854775807
abbrev ik (n : Int) : Lit := .int .i64 n
theorem i64_wf {n : Int} (h : I64 n) : (ik n).wf = true := by
  unfold I64 at h
  simp [Lit.wf, IntKind.min, IntKind.max, IntKind.signed, IntKind.bits]
  omega
theorem intKey : Keyed Tryz.prog 3 := int_keyed Tryz.underlying3
theorem ikey {n : Int} (h : I64 n) : keyOf Tryz.prog 3 (.int .i64 n) = some (ik n) := keyOf_int_mk Tryz.underlying3 (i64_wf h)
/-- A pointer to a block's beginning, or none. -/
def pv : Option Nat → Value
  | none => .pointer none
  | some b => .pointer (some ⟨b, 0, none⟩)
def cod : Option Nat → Int
  | none => 0
  | some b => b + 1
theorem cod_inj {a b : Option Nat} (h : cod a = cod b) : a = b := by
  cases a <;> cases b <;> simp [cod] at h ⊢ <;> omega
def pel : Value → Option (DataW Unit × List MemPlace)
  | .pointer none => some (.lit (.int .i64 0), [])
  | .pointer (some ⟨b, 0, none⟩) => some (.lit (.int .i64 (b + 1)), [])
  | _ => none
theorem pel_pv (o : Option Nat) : pel (pv o) = some (.lit (ik (cod o)), []) := by cases o <;> rfl
theorem pel_inv {v : Value} {o : Option Nat} {ps : List MemPlace} (h : pel v = some (.lit (ik (cod o)), ps)) : v = pv o := by
  unfold pel at h
  split at h
  · injection h with h; injection h with h _; injection h with h; injection h with _ h
    have : o = none := cod_inj (a := o) (b := none) (by rw [← h]; rfl)
    rw [this]; rfl
  · rename_i b
    injection h with h; injection h with h _; injection h with h; injection h with _ h
    have : o = some b := cod_inj (a := o) (b := some b) (by rw [← h]; rfl)
    rw [this]; rfl
  · cases h
abbrev Owns (w : World) (b n : Nat) (D : DataW Unit) : Prop := w.ownsMap (H := Unit) Tryz.prog 3 pel b n D
theorem owns_block {w w' : World} {b n : Nat} {D : DataW Unit} (h : Owns w b n D) (e : w'.heap[b]? = w.heap[b]?) : Owns w' b n D := by
  obtain ⟨es, clock, hb, r⟩ := h
  exact ⟨es, clock, e.trans hb, r⟩
def mapD (b n : Nat) (D : DataW Unit) : Hp := ex fun o : Obj => fact (∀ w : World, w.heap[b]? = some o → Owns w b n D) * pts b o
theorem mapD_out {w : World} {b n : Nat} {D : DataW Unit} {S : Hp} (h : Sat w (mapD b n D * S)) : Owns w b n D ∧ ∃ o, Sat w (pts b o * S) := by
  unfold mapD at h
  obtain ⟨o, h⟩ := h.ex_out
  rw [sep_assoc] at h
  obtain ⟨hf, h⟩ := h.fact_out
  exact ⟨hf w h.get, o, h⟩
theorem mapD_in {w : World} {b n : Nat} {D : DataW Unit} {S : Hp} {o : Obj} (h : Sat w (pts b o * S)) (hO : Owns w b n D) : Sat w (mapD b n D * S) := by
  unfold mapD
  refine Sat.ex_in o ?_
  rw [sep_assoc]
  exact h.fact_in fun w' hw' => owns_block hO (hw'.trans h.get.symm)
theorem mapD_turned {w w' : World} {b n n' : Nat} {D D' : DataW Unit} {S : Hp} (h : Sat w (mapD b n D * S)) (ht : w.grownBy w' (some b)) (hO : Owns w' b n' D') : Sat w' (mapD b n' D' * S) := by
  obtain ⟨_, o, hs⟩ := mapD_out h
  obtain ⟨es, clock, hb, r⟩ := hO
  exact mapD_in (hs.put hb fun k hk hne => ht.block k hk (fun e => hne (by simpa using e))) ⟨es, clock, hb, r⟩
/-- What the datum says of each number. -/
structure Reads (D : DataW Unit) (M : Int → Option Nat) (sz : Nat) : Prop where
  ism : IsMap D
  has : ∀ k : Int, Maps.has D (ik k) = (M k).isSome
  val : ∀ k : Int, D.atKey (ik k) (.lit (ik 0)) = .lit (ik (cod (M k)))
  size : Maps.size D = sz
/-- A map of at most n entries ever; sz there are. -/
def pmap (b : Nat) (M : Int → Option Nat) (sz n : Nat) : Hp := ex fun D : DataW Unit => fact (Reads D M sz) * mapD b n D
def putP (M : Int → Option Nat) (k : Int) (b : Nat) : Int → Option Nat := fun t => if t = k then some b else M t
def delP (M : Int → Option Nat) (k : Int) : Int → Option Nat := fun t => if t = k then none else M t
theorem ik_ne {a b : Int} (h : a ≠ b) : ik a ≠ ik b := fun e => h (by injection e)
theorem reads_put {D : DataW Unit} {M : Int → Option Nat} {sz : Nat} (h : Reads D M sz) (ht : Tidy D) (k : Int) (hM : M k = none) (b : Nat) : Reads (D.put (ik k) (.lit (ik (cod (some b))))) (putP M k b) (sz + 1) where
  ism := h.ism.put _ _
  has t := by
    unfold putP
    by_cases e : t = k
    · subst e; rw [if_pos rfl]; exact has_put_same h.ism (show WideAt.IsKeyLit (ik t) from trivial) _
    · rw [if_neg e, has_put_other (ik_ne e)]; exact h.has t
  val t := by
    unfold putP
    by_cases e : t = k
    · subst e; rw [if_pos rfl]; exact atKey_put_same h.ism (show WideAt.IsKeyLit (ik t) from trivial) _ _
    · rw [if_neg e, atKey_put_other (ik_ne e)]; exact h.val t
  size := by
    rw [size_put ht, h.has, hM, h.size]
    rfl
theorem reads_del {D : DataW Unit} {M : Int → Option Nat} {sz : Nat} (h : Reads D M (sz + 1)) (ht : Tidy D) (k : Int) (hM : (M k).isSome = true) : Reads (D.del (ik k)) (delP M k) sz where
  ism := h.ism.del _
  has t := by
    unfold delP
    by_cases e : t = k
    · subst e; rw [if_pos rfl]; exact has_del_same
    · rw [if_neg e, has_del_other (ik_ne e)]; exact h.has t
  val t := by
    unfold delP
    by_cases e : t = k
    · subst e; rw [if_pos rfl]; exact atKey_del_same _
    · rw [if_neg e, atKey_del_other (ik_ne e)]; exact h.val t
  size := by
    have := size_del (k := ik k) ht
    rw [h.has, hM, h.size] at this
    simp at this
    omega
theorem pmap_out {w : World} {b sz n : Nat} {M : Int → Option Nat} {S : Hp} (h : Sat w (pmap b M sz n * S)) : ∃ D, Reads D M sz ∧ Sat w (mapD b n D * S) := by
  unfold pmap at h
  obtain ⟨D, h⟩ := h.ex_out
  rw [sep_assoc] at h
  obtain ⟨hf, h⟩ := h.fact_out
  exact ⟨D, hf, h⟩
theorem pmap_in {w : World} {b sz n : Nat} {M : Int → Option Nat} {S : Hp} {D : DataW Unit} (h : Sat w (mapD b n D * S)) (hR : Reads D M sz) : Sat w (pmap b M sz n * S) := by
  unfold pmap
  refine Sat.ex_in D ?_
  rw [sep_assoc]
  exact h.fact_in hR
theorem pmap_le {w : World} {b sz n : Nat} {M : Int → Option Nat} {S : Hp} (h : Sat w (pmap b M sz n * S)) : sz ≤ n := by
  obtain ⟨D, hR, h⟩ := pmap_out h
  obtain ⟨hO, _⟩ := mapD_out h
  rw [← hR.size]
  exact hO.size_le
variable {t e : TypeId}
/-- m[k] -/
theorem pmap_look (ht : Tryz.prog.underlying t = some (.map 3 e)) (hz : ∀ w, (zeroValue e).run Tryz.prog w = .ok (.pointer none) w) {w : World} {b sz n : Nat} {M : Int → Option Nat} {S : Hp} (h : Sat w (pmap b M sz n * S)) (k : Int) (hk : I64 k) :
    (Instr.lookup t (.map (some b)) (.int .i64 k) false).run Tryz.prog w = .ok (pv (M k)) w := by
  obtain ⟨D, hR, h⟩ := pmap_out h
  obtain ⟨hO, _⟩ := mapD_out h
  obtain ⟨v, ps, hrun, hv⟩ := hO.lookup intKey ht (hz w) (zd := .lit (ik 0)) (zp := []) rfl (ikey hk)
  rw [hR.val] at hv
  rw [hrun, pel_inv hv]
/-- m[k] = v, where nothing was -/
theorem pmap_put (ht : Tryz.prog.underlying t = some (.map 3 e)) {w : World} {b sz n : Nat} {M : Int → Option Nat} {S : Hp} (h : Sat w (pmap b M sz n * S)) (hn : n < maxLen) (k : Int) (hk : I64 k) (hM : M k = none) (c : Nat) :
    ∃ w', (Instr.mapUpdate t (.map (some b)) (.int .i64 k) (.pointer (some ⟨c, 0, none⟩))).run Tryz.prog w = .ok () w' ∧ Sat w' (pmap b (putP M k c) (sz + 1) (n + 1) * S) ∧ Ran w w' := by
  obtain ⟨D, hR, h⟩ := pmap_out h
  obtain ⟨hO, _⟩ := mapD_out h
  obtain ⟨w', hrun, hO', ht2⟩ := hO.store intKey ht hn (ikey hk) (pel_pv (some c))
  exact ⟨w', hrun, pmap_in (mapD_turned h ht2.grown hO') (reads_put hR (hO.tidy intKey) k hM c), ⟨ht2.grown.os, ht2.grown.tape, ht2.grown.output, ht2.grown.size, fun k hk => absurd hk (Nat.not_lt_zero _)⟩⟩
/-- delete(m, k) -/
theorem pmap_del (ht : Tryz.prog.underlying t = some (.map 3 e)) {w : World} {b sz n : Nat} {M : Int → Option Nat} {S : Hp} (h : Sat w (pmap b M (sz + 1) n * S)) (k : Int) (hk : I64 k) (hM : (M k).isSome = true) (ty : TypeId) :
    ∃ w', (Builtin.delete_ #[t, 3] ty #[.map (some b), .int .i64 k]).run Tryz.prog w = .ok (.tuple #[]) w' ∧ Sat w' (pmap b (delP M k) sz n * S) ∧ Ran w w' := by
  obtain ⟨D, hR, h⟩ := pmap_out h
  obtain ⟨hO, _⟩ := mapD_out h
  obtain ⟨w', hrun, hO', ht2⟩ := hO.drop intKey ht (ikey hk) ty
  exact ⟨w', hrun, pmap_in (mapD_turned h ht2.grown hO') (reads_del hR (hO.tidy intKey) k hM), ⟨ht2.grown.os, ht2.grown.tape, ht2.grown.output, ht2.grown.size, fun k hk => absurd hk (Nat.not_lt_zero _)⟩⟩
/-- len(m) -/
theorem pmap_len (ht : Tryz.prog.underlying t = some (.map 3 e)) {w : World} {b sz n : Nat} {M : Int → Option Nat} {S : Hp} (h : Sat w (pmap b M sz n * S)) (ty : TypeId) :
    (Builtin.len_ #[t] ty #[.map (some b)]).run Tryz.prog w = .ok (.int .i64 (sz : Int)) w := by
  obtain ⟨D, hR, h⟩ := pmap_out h
  obtain ⟨hO, _⟩ := mapD_out h
  rw [hO.len ht ty, hR.size]
theorem pmap_made {w : World} {S : Hp} (h : Sat w S) : Sat (w.alloc (.map #[] 0)) (pmap w.heap.size (fun _ => none) 0 0 * S) :=
  pmap_in (mapD_in (h.alloc _) (World.ownsMap_made w _ _ _)) ⟨isMap_empty, fun s => rfl, fun s => rfl, rfl⟩
theorem zeroNode (w : World) : (zeroValue 112).run Tryz.prog w = .ok (.pointer none) w := by kernel_rfl
theorem zeroHandle (w : World) : (zeroValue 102).run Tryz.prog w = .ok (.pointer none) w := by kernel_rfl
end Go.Proofs.YteienbdbhnikbaaGreatDoor.Hd

namespace Go.Proofs.YteienbdbhnikbaaGreatDoor.Hd.K
open Go.RowKit Go.Maps Go.Proofs.YteienbdbhnikbaaGreatDoor Go.Proofs.YteienbdbhnikbaaGreatDoor.Hp
set_option linter.unusedVariables false

theorem strKey : Keyed Tryz.prog 9 := string_keyed Tryz.underlying9
theorem zeroInt (w : World) : (zeroValue 3).run Tryz.prog w = .ok (.int .i64 0) w := by kernel_rfl
abbrev kl (s : ByteArray) : Lit := .string s.data.toList
theorem key_of {s : ByteArray} (h : s.size ≤ maxLen) : keyOf Tryz.prog 9 (.string s) = some (kl s) := Go.WideMaps.keyOf_string_mk Tryz.underlying9 h
abbrev Owns (w : World) (b n : Nat) (D : DataW Unit) : Prop := w.ownsMap (H := Unit) Tryz.prog 9 (plainElem Tryz.prog 3) b n D
theorem owns_block {w w' : World} {b n : Nat} {D : DataW Unit} (h : Owns w b n D) (e : w'.heap[b]? = w.heap[b]?) : Owns w' b n D := by
  obtain ⟨es, clock, hb, r⟩ := h
  exact ⟨es, clock, e.trans hb, r⟩
def mapD (b n : Nat) (D : DataW Unit) : Hp := ex fun o : Obj => fact (∀ w : World, w.heap[b]? = some o → Owns w b n D) * pts b o
theorem mapD_out {w : World} {b n : Nat} {D : DataW Unit} {S : Hp} (h : Sat w (mapD b n D * S)) : Owns w b n D ∧ ∃ o, Sat w (pts b o * S) := by
  unfold mapD at h
  obtain ⟨o, h⟩ := h.ex_out
  rw [sep_assoc] at h
  obtain ⟨hf, h⟩ := h.fact_out
  exact ⟨hf w h.get, o, h⟩
theorem mapD_in {w : World} {b n : Nat} {D : DataW Unit} {S : Hp} {o : Obj} (h : Sat w (pts b o * S)) (hO : Owns w b n D) : Sat w (mapD b n D * S) := by
  unfold mapD
  refine Sat.ex_in o ?_
  rw [sep_assoc]
  exact h.fact_in fun w' hw' => owns_block hO (hw'.trans h.get.symm)
theorem mapD_turned {w w' : World} {b n n' : Nat} {D D' : DataW Unit} {S : Hp} (h : Sat w (mapD b n D * S)) (ht : w.grownBy w' (some b)) (hO : Owns w' b n' D') : Sat w' (mapD b n' D' * S) := by
  obtain ⟨_, o, hs⟩ := mapD_out h
  obtain ⟨es, clock, hb, r⟩ := hO
  exact mapD_in (hs.put hb fun k hk hne => ht.block k hk (fun e => hne (by simpa using e))) ⟨es, clock, hb, r⟩
abbrev SM := ByteArray → Option Int
structure Reads (D : DataW Unit) (M : SM) (sz : Nat) : Prop where
  ism : IsMap D
  has : ∀ k : ByteArray, Maps.has D (kl k) = (M k).isSome
  val : ∀ k : ByteArray, D.atKey (kl k) (.lit (.int .i64 0)) = .lit (.int .i64 ((M k).getD 0))
  size : Maps.size D = sz
def smap (b : Nat) (M : SM) (sz n : Nat) : Hp := ex fun D : DataW Unit => fact (Reads D M sz) * mapD b n D
def putM (M : SM) (k : ByteArray) (c : Int) : SM := fun t => if t = k then some c else M t
def delM (M : SM) (k : ByteArray) : SM := fun t => if t = k then none else M t
theorem kl_ne {s t : ByteArray} (h : t ≠ s) : kl t ≠ kl s := by
  intro e
  apply h
  simp only [Lit.string.injEq] at e
  cases t; cases s
  simp at e
  rw [e]
theorem reads_put {D : DataW Unit} {M : SM} {sz : Nat} (h : Reads D M sz) (ht : Tidy D) (k : ByteArray) (hM : M k = none) (c : Int) : Reads (D.put (kl k) (.lit (.int .i64 c))) (putM M k c) (sz + 1) where
  ism := h.ism.put _ _
  has t := by
    unfold putM
    by_cases e : t = k
    · subst e; rw [if_pos rfl]; exact has_put_same h.ism (show WideAt.IsKeyLit (kl t) from trivial) _
    · rw [if_neg e, has_put_other (kl_ne e)]; exact h.has t
  val t := by
    unfold putM
    by_cases e : t = k
    · subst e; rw [if_pos rfl]; exact atKey_put_same h.ism (show WideAt.IsKeyLit (kl t) from trivial) _ _
    · rw [if_neg e, atKey_put_other (kl_ne e)]; exact h.val t
  size := by
    rw [size_put ht, h.has, hM, h.size]
    rfl
theorem reads_del {D : DataW Unit} {M : SM} {sz : Nat} (h : Reads D M (sz + 1)) (ht : Tidy D) (k : ByteArray) (hM : (M k).isSome = true) : Reads (D.del (kl k)) (delM M k) sz where
  ism := h.ism.del _
  has t := by
    unfold delM
    by_cases e : t = k
    · subst e; rw [if_pos rfl]; exact has_del_same
    · rw [if_neg e, has_del_other (kl_ne e)]; exact h.has t
  val t := by
    unfold delM
    by_cases e : t = k
    · subst e; rw [if_pos rfl]; exact atKey_del_same _
    · rw [if_neg e, atKey_del_other (kl_ne e)]; exact h.val t
  size := by
    have := size_del (k := kl k) ht
    rw [h.has, hM, h.size] at this
    simp at this
    omega
theorem smap_out {w : World} {b sz n : Nat} {M : SM} {S : Hp} (h : Sat w (smap b M sz n * S)) : ∃ D, Reads D M sz ∧ Sat w (mapD b n D * S) := by
  unfold smap at h
  obtain ⟨D, h⟩ := h.ex_out
  rw [sep_assoc] at h
  obtain ⟨hf, h⟩ := h.fact_out
  exact ⟨D, hf, h⟩
theorem smap_in {w : World} {b sz n : Nat} {M : SM} {S : Hp} {D : DataW Unit} (h : Sat w (mapD b n D * S)) (hR : Reads D M sz) : Sat w (smap b M sz n * S) := by
  unfold smap
  refine Sat.ex_in D ?_
  rw [sep_assoc]
  exact h.fact_in hR
/-- m[k] -/
theorem smap_look {w : World} {b sz n : Nat} {M : SM} {S : Hp} (h : Sat w (smap b M sz n * S)) (k : ByteArray) (hk : k.size ≤ maxLen) :
    (Instr.lookup 116 (.map (some b)) (.string k) false).run Tryz.prog w = .ok (.int .i64 ((M k).getD 0)) w := by
  obtain ⟨D, hR, h⟩ := smap_out h
  obtain ⟨hO, _⟩ := mapD_out h
  obtain ⟨c, hrun, hv, _⟩ := hO.lookup_int strKey Tryz.underlying116 Tryz.underlying3 (zeroInt w) (key_of hk)
  rw [hR.val] at hv
  simp only [DataW.lit.injEq, Lit.int.injEq, true_and] at hv
  rw [hrun, ← hv]
/-- m[k] = v, where nothing was -/
theorem smap_put {w : World} {b sz n : Nat} {M : SM} {S : Hp} (h : Sat w (smap b M sz n * S)) (hn : n < maxLen) (k : ByteArray) (hk : k.size ≤ maxLen) (hM : M k = none) (c : Int) (hc : I64 c) :
    ∃ w', (Instr.mapUpdate 116 (.map (some b)) (.string k) (.int .i64 c)).run Tryz.prog w = .ok () w' ∧ Sat w' (smap b (putM M k c) (sz + 1) (n + 1) * S) ∧ Ran w w' := by
  obtain ⟨D, hR, h⟩ := smap_out h
  obtain ⟨hO, _⟩ := mapD_out h
  obtain ⟨w', hrun, hO', ht2⟩ := hO.store strKey Tryz.underlying116 hn (key_of hk) (plainElem_int Tryz.underlying3 (i64_wf hc))
  exact ⟨w', hrun, smap_in (mapD_turned h ht2.grown hO') (reads_put hR (hO.tidy strKey) k hM c), ⟨ht2.grown.os, ht2.grown.tape, ht2.grown.output, ht2.grown.size, fun k hk => absurd hk (Nat.not_lt_zero _)⟩⟩
/-- len(m) -/
theorem smap_len {w : World} {b sz n : Nat} {M : SM} {S : Hp} (h : Sat w (smap b M sz n * S)) (ty : TypeId) :
    (Builtin.len_ #[116] ty #[.map (some b)]).run Tryz.prog w = .ok (.int .i64 (sz : Int)) w := by
  obtain ⟨D, hR, h⟩ := smap_out h
  obtain ⟨hO, _⟩ := mapD_out h
  rw [hO.len Tryz.underlying116 ty, hR.size]
theorem smap_nil (w : World) (ty : TypeId) : (Builtin.len_ #[116] ty #[.map none]).run Tryz.prog w = .ok (.int .i64 0) w := Maps.len_nil Tryz.underlying116 ty
theorem smap_made {w : World} {S : Hp} (h : Sat w S) : Sat (w.alloc (.map #[] 0)) (smap w.heap.size (fun _ => none) 0 0 * S) :=
  smap_in (mapD_in (h.alloc _) (World.ownsMap_made w _ _ _)) ⟨isMap_empty, fun s => rfl, fun s => rfl, rfl⟩
end Go.Proofs.YteienbdbhnikbaaGreatDoor.Hd.K

