/- Shift, Cursor, SetCursor walked. -/
import Derived.Test.YtlmjidandjemjaaGreatDoorStTh
import Derived.Test.YtlmjidandjemjaaGreatDoorUnZ
namespace Go.Proofs.YtlmjidandjemjaaGreatDoor.State
open Go.RowKit Go.Proofs.YtlmjidandjemjaaGreatDoor Go.Proofs.YtlmjidandjemjaaGreatDoor.Hp Go.Proofs.YtlmjidandjemjaaGreatDoor.Undo
set_option linter.unusedVariables false
attribute [local go_sem] Oper.semAt_some

theorem infoStr : (Tryz.prog.info? 9).map (fun i => (i.zero, i.size, i.bytes)) = some (some (.string ⟨#[]⟩), 1, 16) := by kernel_rfl
theorem str_from (ao : Option Addr) (len cap n : Nat) (hn : n ≤ len) (w : World) : (Instr.slice 22 (.slice ao len cap) (some (.int .i64 n)) none none).run Tryz.prog w = .ok (.slice (tailA ao n cap 1) (len - n) (cap - n)) w := by
  obtain ⟨i0, hi, hz0, hz1, hz2⟩ := info_parts infoStr
  exact run_slice_from _ _ i0 1 Tryz.underlying22 hi hz1 ao len cap n hn w
def cut (g : GC.Giv) (k : Nat) : GC.Giv := ⟨tailA g.p k g.cap 1, g.n - k, g.cap - k, g.here, g.within, g.l.drop k⟩
theorem GOk.cut {rws : List Row1} {g : GC.Giv} {k : Nat} (h : GOk rws g) (hk : k ≤ g.n) : GOk rws (cut g k) := by
  obtain ⟨h1, h2, h3⟩ := h
  refine ⟨by show g.n - k = (g.l.drop k).length; rw [List.length_drop, h1], by show g.n - k ≤ g.cap - k; omega, ?_⟩
  rcases h3 with h3 | ⟨x, hx, b, o, j, hp, hq, hl⟩
  · left; show g.l.drop k = []; rw [h3]; simp
  · by_cases hc : g.cap = k
    · left
      show g.l.drop k = []
      rw [List.drop_eq_nil_iff]; omega
    · right
      refine ⟨x, hx, b, o, j + k, hp, ?_, ?_⟩
      · show tailA g.p k g.cap 1 = _
        unfold tailA
        rw [if_neg hc, hq]
        simp [Addr.add, Nat.add_assoc]
      · show g.l.drop k = _
        rw [hl, List.drop_drop]
theorem gO_eq {b : Nat} {g : GC.Giv} : GC.gO g = .cells #[.slice g.p g.n g.cap, .int .i64 g.here, .int .i64 g.within] 83 (0, 0) := rfl
set_option maxRecDepth 100000 in
set_option maxHeartbeats 8000000 in
theorem Shift_calls (K : Ctx) (n : Now) (k : Int) (w : World) (R : Hp) (hl : n.s.l.length ≤ 1000000) (hN : n.N ≤ 1000000) (hms : n.ms.length ≤ 1000000) (h : SAt K w n R) :
    Calls Tryz.prog 36 #[pp K.sb, .int .i64 k] w (Lays K w R (n.shiftP K.most k)) := by
  obtain ⟨r, hr⟩ : ∃ r, r = n.shiftP K.most k := ⟨_, rfl⟩
  rw [← hr]
  unfold Now.shiftP at hr
  have Hr := Lib.hid hr
  obtain ⟨g, rws, hG⟩ := h.args
  have HV := Lib.hid (given_calls K n g rws w R hG)
  have H0 := Lib.hid hG
  have hgn : g.n = n.s.l.length := by rw [hG.facts.1.1, hG.facts.2.1]
  have Hgn := Lib.hid hgn
  have HF := Lib.hid (And.intro hN (And.intro hms hl))
  clear h hG hr hgn hN hms hl
  go_enter Tryz.func36, Tryz.ntmps36
  go_wp2_with fail
  refine HV.out.mono ?_
  rintro e w1 ⟨rfl, hB⟩
  have S1 := (H0.out.below hB).alloc (GC.gO g)
  have R1 : Ran w (w1.alloc (GC.gO g)) := Ran.new (hB.mono (Nat.zero_le _)) _
  obtain ⟨w2, hw2⟩ : ∃ w2, w2 = w1.alloc (GC.gO g) := ⟨_, rfl⟩
  obtain ⟨xb, hxb⟩ : ∃ b, b = w1.heap.size := ⟨_, rfl⟩
  rw [← hw2, ← hxb] at S1
  rw [← hw2] at R1
  obtain ⟨e0, e1, e2⟩ := GC.g_cells S1.shut.rest
  have ez : ∀ i, w2.frozen? ⟨xb, i, none⟩ = false := fun i => free_at S1.shut.rest.get i
  obtain ⟨c0, c1, c2, c3, c4, c5, c6, cz⟩ := S1.shut.cells
  have S2 := Lib.hid S1
  have R2 := Lib.hid R1
  clear H0 HV hB S1 R1
  go_upto_region 2 with fail
  rw [← hw2, ← hxb]
  clear hw2 hxb
  have hr := Hr.out
  have hgn := Hgn.out
  by_cases hk0 : k < 0
  · rw [if_pos (Or.inl hk0)] at hr
    subst hr
    clear Hr HF hgn
    go_wp2_with fail
    go_ret
    exact Lays.same S2.out.shut.right R2.out
  · by_cases hk1 : (n.s.l.length : Int) < k
    · rw [if_pos (Or.inr hk1)] at hr
      subst hr
      have hk2 : (g.n : Int) < k := by omega
      have hk3 : 0 ≤ k := by omega
      clear Hr HF hgn hk1
      go_wp2_with fail
      go_ret
      exact Lays.same S2.out.shut.right R2.out
    · rw [if_neg (by omega)] at hr
      subst hr
      have hk2 : ¬ ((g.n : Int) < k) := by omega
      have hk4 : k ≤ g.n := by omega
      have hk3 : 0 ≤ k := by omega
      obtain ⟨j, hj⟩ : ∃ j : Nat, k = j := ⟨k.toNat, by omega⟩
      subst hj
      have hsl := fun W => str_from g.p g.n g.cap j (by omega) W
      have hjn : j ≤ g.n := by omega
      have Hj := Lib.hid hjn
      clear Hr hgn hk1 hk0 hjn
      go_upto_region 7 with fail
      have HS3 : SGt K (w2.setCell ⟨xb, 0, none⟩ (.slice (tailA g.p j g.cap 1) (g.n - j) (g.cap - j))) n g rws (pts xb (GC.gO (cut g j)) * R) := by
        obtain ⟨X, hX1, hX2⟩ := S2.out.frame
        refine hX2 _ _ ?_
        have := (hX1.perm (show _ = pts xb (GC.gO g) * (X * (all row1 rws * R)) by ac_rfl)).set (i := 0) (.slice (tailA g.p j g.cap 1) (g.n - j) (g.cap - j))
        exact this.perm (by show pts xb (GC.gO (cut g j)) * _ = _; ac_rfl)
      obtain ⟨w3, hw3⟩ : ∃ w3, w3 = w2.setCell ⟨xb, 0, none⟩ (.slice (tailA g.p j g.cap 1) (g.n - j) (g.cap - j)) := ⟨_, rfl⟩
      have R3 : Ran w w3 := by rw [hw3]; exact Ran.set R2.out _ _
      rw [← hw3] at HS3 ⊢
      have hok := (S2.out.facts.1).cut Hj.out
      have hfa := S2.out.facts
      clear hw3 S2 R2 e0 e1 e2 c0 c1 c2 c3 c4 c5 c6 cz ez
      obtain ⟨y, hy⟩ : ∃ y, y = cut g j := ⟨_, rfl⟩
      have hyl : y.l = n.s.l.drop j ∧ y.here = n.s.here ∧ y.within = n.s.within := by rw [hy]; exact ⟨by show g.l.drop j = _; rw [hfa.2.1], hfa.2.2.1, hfa.2.2.2⟩
      rw [← hy] at HS3 hok
      obtain ⟨e0, e1, e2⟩ := GC.g_cells HS3.shut.rest
      obtain ⟨c0, c1, c2, c3, c4, c5, c6, cz⟩ := HS3.shut.cells
      have HSt := Lib.hid (SGt.cset K w3.drew n g rws _ y hok HF.out.1 HF.out.2.1 (by
        obtain ⟨X, hX1, hX2⟩ := HS3.frame
        exact hX2 _ _ hX1.drew))
      have R3 := Lib.hid R3
      have Hyl := Lib.hid hyl
      clear HS3 hy hok hfa hyl hsl hk2 hk3 hk4
      go_wp2_with fail
      refine Go.Proofs.YtlmjidandjemjaaGreatDoor.region_plan (S := (fun w' => w'.cell? ⟨K.sb, 5, none⟩ = some (pp K.P.gb) ∧ w'.cell? ⟨xb, 0, none⟩ = some (.slice y.p y.n y.cap) ∧ w'.cell? ⟨xb, 1, none⟩ = some (.int .i64 y.here) ∧ w'.cell? ⟨xb, 2, none⟩ = some (.int .i64 y.within))) [(0, true), (1, true), (2, true), (3, true), (4, true), (5, false), (6, true)] (by kernel_rfl) (by kernel_rfl) (by kernel_rfl) ?_ ?_
      · ((try dsimp only); (first | done | (first | exact ⟨c5, e0, e1, e2⟩ | exact ⟨hz5, hz2⟩)))
      simp only [Go.Proofs.YtlmjidandjemjaaGreatDoor.planOps, List.map_cons, List.map_nil, List.getElem?_toArray, List.getElem?_cons_zero, List.getElem?_cons_succ]
      repeat (first
        | ((refine Go.Proofs.YtlmjidandjemjaaGreatDoor.plan_yes (v := ?_) (by rfl) ?_ ?_); rotate_left; (focus (intro w hSw; (try dsimp only at hSw); go_simp; try (with_reducible rfl))); (try simp only [Act.put, List.setIfInBounds_toArray, List.set_cons_zero, List.set_cons_succ]))
        | ((refine Go.Proofs.YtlmjidandjemjaaGreatDoor.plan_no (by rfl) ?_); (try simp only [Act.put, List.setIfInBounds_toArray, List.set_cons_zero, List.set_cons_succ]))
        | ((refine Go.Proofs.YtlmjidandjemjaaGreatDoor.plan_step (fun K hK => ?_)); (first | (go_at_call 42; refine HSt.out.mono ?_; rintro e w4 ⟨⟨rfl, hS⟩, hR⟩; obtain ⟨-, -, -, -, -, hz5, -, -⟩ := hS.cells; have hz2 := GC.g_cells hS.rest; have HS := Lib.hid hS; have HRn := Lib.hid hR; clear hS hR) | (go_simp; (go_at_call 42; refine HSt.out.mono ?_; rintro e w4 ⟨⟨rfl, hS⟩, hR⟩; obtain ⟨-, -, -, -, -, hz5, -, -⟩ := hS.cells; have hz2 := GC.g_cells hS.rest; have HS := Lib.hid hS; have HRn := Lib.hid hR; clear hS hR); (try go_wp2_with fail)) | go_simp); (refine hK.out _ _ ?_ (fun hHeld => ?_)); (focus ((try dsimp only); (first | done | (first | exact ⟨c5, e0, e1, e2⟩ | exact ⟨hz5, hz2⟩)))); clear hK K; (try simp only [Act.put, List.setIfInBounds_toArray, List.set_cons_zero, List.set_cons_succ])))
      refine Go.Proofs.YtlmjidandjemjaaGreatDoor.plan_done ?_
      go_wp2_with fail
      go_ret
      have heq : ({ n.s with l := y.l, here := y.here, within := y.within } : Pst) = { n.s with l := n.s.l.drop (j : Int).toNat } := by rw [Hyl.out.1, Hyl.out.2.1, Hyl.out.2.2]; rfl
      have hS := HS.out.right
      rw [heq] at hS
      exact ⟨⟨by rw [← heq]; rfl, hS⟩, Below.trans (Below.drew R3.out) HRn.out⟩
set_option maxRecDepth 100000 in
set_option maxHeartbeats 8000000 in
theorem SetCursor_calls (K : Ctx) (n : Now) (a i : Int) (w : World) (R : Hp) (hN : n.N ≤ 1000000) (hms : n.ms.length ≤ 1000000) (h : SAt K w n R) :
    Calls Tryz.prog 57 #[pp K.sb, .int .i64 a, .int .i64 i] w (Lays K w R (n.setC K.most a i)) := by
  obtain ⟨r, hr⟩ : ∃ r, r = n.setC K.most a i := ⟨_, rfl⟩
  rw [← hr]
  unfold Now.setC at hr
  by_cases hbad : a < 0 ∨ i < 0
  · rw [if_pos hbad] at hr
    subst hr
    have H0 := Lib.hid h
    clear h hN hms
    by_cases ha : a < 0
    · clear hbad
      go_enter Tryz.func57, Tryz.ntmps57
      go_wp2_with fail
      go_ret
      exact Lays.same H0.out (Below.refl 0 w)
    · have hi : i < 0 := by omega
      have ha2 : 0 ≤ a := by omega
      clear hbad
      go_enter Tryz.func57, Tryz.ntmps57
      go_wp2_with fail
      go_ret
      exact Lays.same H0.out (Below.refl 0 w)
  · rw [if_neg hbad] at hr
    subst hr
    have ha2 : ¬ (a < 0) := by omega
    have hi2 : ¬ (i < 0) := by omega
    have ha : 0 ≤ a := by omega
    have hi : 0 ≤ i := by omega
    obtain ⟨g, rws, hG⟩ := h.args
    have HV := Lib.hid (given_calls K n g rws w R hG)
    have H0 := Lib.hid hG
    have HF := Lib.hid (And.intro hN hms)
    clear h hG hbad hN hms
    go_enter Tryz.func57, Tryz.ntmps57
    go_wp2_with fail
    refine HV.out.mono ?_
    rintro e w1 ⟨rfl, hB⟩
    have S1 := (H0.out.below hB).alloc (GC.gO ⟨g.p, g.n, g.cap, a, i, g.l⟩)
    have R1 : Ran w (w1.alloc (GC.gO ⟨g.p, g.n, g.cap, a, i, g.l⟩)) := Ran.new (hB.mono (Nat.zero_le _)) _
    have hok : GOk rws ⟨g.p, g.n, g.cap, a, i, g.l⟩ := (H0.out.facts).1
    have hgl := H0.out.facts.2.1
    go_upto_region 7 with fail
    obtain ⟨y, hy⟩ : ∃ y : GC.Giv, y = ⟨g.p, g.n, g.cap, a, i, g.l⟩ := ⟨_, rfl⟩
    obtain ⟨w3, hw3⟩ : ∃ w3, w3 = w1.alloc (GC.gO y) := ⟨_, rfl⟩
    obtain ⟨xb, hxb⟩ : ∃ b, b = w1.heap.size := ⟨_, rfl⟩
    rw [← hy] at S1 R1 hok
    rw [← hw3, ← hxb] at S1
    rw [← hw3] at R1
    have hyl : y.l = n.s.l ∧ y.here = a ∧ y.within = i := by rw [hy]; exact ⟨hgl, rfl, rfl⟩
    rw [show w1.alloc (Obj.cells #[.slice g.p g.n g.cap, .int .i64 a, .int .i64 i] 83 (0, 0)) = w3 by rw [hw3, hy], ← hxb]
    obtain ⟨e0, e1, e2⟩ := GC.g_cells S1.shut.rest
    obtain ⟨c0, c1, c2, c3, c4, c5, c6, cz⟩ := S1.shut.cells
    have HSt := Lib.hid (SGt.cset K w3.drew n g rws _ y hok HF.out.1 HF.out.2 (by
      obtain ⟨X, hX1, hX2⟩ := S1.frame
      exact hX2 _ _ hX1.drew))
    have R3 := Lib.hid R1
    have Hyl := Lib.hid hyl
    clear S1 hy hok hyl ha hi ha2 hi2 hgl hw3 hxb hB R1 H0 HV
    go_wp2_with fail
    refine Go.Proofs.YtlmjidandjemjaaGreatDoor.region_plan (S := (fun w' => w'.cell? ⟨K.sb, 5, none⟩ = some (pp K.P.gb) ∧ w'.cell? ⟨xb, 0, none⟩ = some (.slice y.p y.n y.cap) ∧ w'.cell? ⟨xb, 1, none⟩ = some (.int .i64 y.here) ∧ w'.cell? ⟨xb, 2, none⟩ = some (.int .i64 y.within))) [(0, true), (1, true), (2, true), (3, true), (4, true), (5, false), (6, true)] (by kernel_rfl) (by kernel_rfl) (by kernel_rfl) ?_ ?_
    · ((try dsimp only); (first | done | (first | exact ⟨c5, e0, e1, e2⟩ | exact ⟨hz5, hz2⟩)))
    simp only [Go.Proofs.YtlmjidandjemjaaGreatDoor.planOps, List.map_cons, List.map_nil, List.getElem?_toArray, List.getElem?_cons_zero, List.getElem?_cons_succ]
    repeat (first
      | ((refine Go.Proofs.YtlmjidandjemjaaGreatDoor.plan_yes (v := ?_) (by rfl) ?_ ?_); rotate_left; (focus (intro w hSw; (try dsimp only at hSw); go_simp; try (with_reducible rfl))); (try simp only [Act.put, List.setIfInBounds_toArray, List.set_cons_zero, List.set_cons_succ]))
      | ((refine Go.Proofs.YtlmjidandjemjaaGreatDoor.plan_no (by rfl) ?_); (try simp only [Act.put, List.setIfInBounds_toArray, List.set_cons_zero, List.set_cons_succ]))
      | ((refine Go.Proofs.YtlmjidandjemjaaGreatDoor.plan_step (fun K hK => ?_)); (first | (go_at_call 42; refine HSt.out.mono ?_; rintro e w4 ⟨⟨rfl, hS⟩, hR⟩; obtain ⟨-, -, -, -, -, hz5, -, -⟩ := hS.cells; have hz2 := GC.g_cells hS.rest; have HS := Lib.hid hS; have HRn := Lib.hid hR; clear hS hR) | (go_simp; (go_at_call 42; refine HSt.out.mono ?_; rintro e w4 ⟨⟨rfl, hS⟩, hR⟩; obtain ⟨-, -, -, -, -, hz5, -, -⟩ := hS.cells; have hz2 := GC.g_cells hS.rest; have HS := Lib.hid hS; have HRn := Lib.hid hR; clear hS hR); (try go_wp2_with fail)) | go_simp); (refine hK.out _ _ ?_ (fun hHeld => ?_)); (focus ((try dsimp only); (first | done | (first | exact ⟨c5, e0, e1, e2⟩ | exact ⟨hz5, hz2⟩)))); clear hK K; (try simp only [Act.put, List.setIfInBounds_toArray, List.set_cons_zero, List.set_cons_succ])))
    refine Go.Proofs.YtlmjidandjemjaaGreatDoor.plan_done ?_
    go_wp2_with fail
    go_ret
    have heq : ({ n.s with l := y.l, here := y.here, within := y.within } : Pst) = { n.s with here := a, within := i } := by rw [Hyl.out.1, Hyl.out.2.1, Hyl.out.2.2]
    have hS := HS.out.right
    rw [heq] at hS
    exact ⟨⟨by rw [← heq]; rfl, hS⟩, Below.trans (Below.drew R3.out) HRn.out⟩
set_option maxRecDepth 100000 in
set_option maxHeartbeats 8000000 in
theorem Cursor_calls (K : Ctx) (n : Now) (w : World) (R : Hp) (h : SAt K w n R) :
    Calls Tryz.prog 22 #[pp K.sb] w fun e w' => e = .returned (.tuple #[.int .i64 n.s.here, .int .i64 n.s.within]) ∧ Below w.heap.size w w' := by
  obtain ⟨g, rws, hG⟩ := h.args
  have HV := Lib.hid (given_calls K n g rws w R hG)
  have H0 := Lib.hid hG
  obtain ⟨_, _, hh, hi⟩ := hG.facts
  rw [← hh, ← hi]
  clear h hG hh hi
  go_enter Tryz.func22, Tryz.ntmps22
  go_wp2_with fail
  refine HV.out.mono ?_
  rintro e w1 ⟨rfl, hB⟩
  have S1 := (H0.out.below hB).alloc (GC.gO g)
  have hB2 := hB.alloc hB.size (GC.gO g)
  obtain ⟨w2, hw2⟩ : ∃ w2, w2 = w1.alloc (GC.gO g) := ⟨_, rfl⟩
  obtain ⟨xb, hxb⟩ : ∃ b, b = w1.heap.size := ⟨_, rfl⟩
  rw [← hw2, ← hxb] at S1
  rw [← hw2] at hB2
  obtain ⟨e0, e1, e2⟩ := GC.g_cells S1.shut.rest
  have HB2 := Lib.hid hB2
  clear H0 HV hB S1 hB2
  go_upto_region 2 with fail
  rw [← hw2, ← hxb]
  clear hw2 hxb
  go_wp2_with fail
  go_quiet (fail)
  go_wp2_with fail
  go_ret2
  exact ⟨rfl, below_drewN HB2.out _⟩
end Go.Proofs.YtlmjidandjemjaaGreatDoor.State
