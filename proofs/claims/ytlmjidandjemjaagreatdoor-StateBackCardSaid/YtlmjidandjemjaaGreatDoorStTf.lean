/- Get, Put, the arguments of a state walked. (printed by gen_stte.py) -/
import Derived.Test.YtlmjidandjemjaaGreatDoorStTc
import Derived.Test.YtlmjidandjemjaaGreatDoorStTd
import Derived.Test.YtlmjidandjemjaaGreatDoorShf
namespace Go.Proofs.YtlmjidandjemjaaGreatDoor.State
open Go.RowKit Go.Proofs.YtlmjidandjemjaaGreatDoor Go.Proofs.YtlmjidandjemjaaGreatDoor.Hp Go.Proofs.YtlmjidandjemjaaGreatDoor.Undo
set_option linter.unusedVariables false
attribute [local go_sem] Oper.semAt_some

theorem below_drewN {B : Nat} {a w : World} (h : Below B a w) (n : Nat) : Below B a (w.drewN n) := h.trans ⟨rfl, rfl, rfl, Nat.le_refl _, fun _ _ => rfl⟩
set_option maxRecDepth 100000 in
set_option maxHeartbeats 8000000 in
theorem Get_calls (K : Ctx) (n : Now) (k : ByteArray) (w : World) (R : Hp) (hk : k.size ≤ maxLen) (h : SAt K w n R) :
    Calls Tryz.prog 92 #[pp K.sb, .string k] w fun e w' => e = .returned (.tuple #[.string (n.s.var k).val, .bool (n.s.var k).set]) ∧ Below w.heap.size w w' := by
  have HV := Lib.hid (Var_calls K n k w R hk h)
  obtain ⟨x, hx⟩ : ∃ x, x = n.s.var k := ⟨_, rfl⟩
  rw [← hx] at HV ⊢
  have H0 := Lib.hid h
  clear h hx
  go_enter Tryz.func92, Tryz.ntmps92
  go_wp2_with fail
  refine HV.out.mono ?_
  rintro e w1 ⟨rfl, hB⟩
  have S1 := (H0.out.below hB).alloc (VM.boxO x)
  have hB2 := hB.alloc hB.size (VM.boxO x)
  obtain ⟨w2, hw2⟩ : ∃ w2, w2 = w1.alloc (VM.boxO x) := ⟨_, rfl⟩
  obtain ⟨xb, hxb⟩ : ∃ b, b = w1.heap.size := ⟨_, rfl⟩
  rw [← hw2, ← hxb] at S1
  rw [← hw2] at hB2
  obtain ⟨e0, e1, e2, e3⟩ := VM.box_cells S1.rest
  have HB2 := Lib.hid hB2
  clear H0 HV hB S1 hB2
  go_upto_region 2 with fail
  rw [← hw2, ← hxb]
  clear hw2 hxb
  go_wp2_with fail
  go_quiet (fail)
  go_wp2_with fail
  go_ret2
  exact ⟨rfl, below_drewN HB2.out _⟩
set_option maxRecDepth 100000 in
set_option maxHeartbeats 8000000 in
theorem Put_calls (K : Ctx) (n : Now) (k : ByteArray) (v : VM.T) (w : World) (R : Hp) (hk : k.size ≤ maxLen) (hN : n.N ≤ 1000000) (hms : n.ms.length ≤ 1000000) (h : SAt K w n R) :
    Calls Tryz.prog 71 #[pp K.sb, .string k, .agg #[.string v.val, .bool v.set, .bool v.exp, .bool v.fix]] w (Lays K w R (n.putP K.most k v)) := by
  obtain ⟨r, hr⟩ : ∃ r, r = n.putP K.most k v := ⟨_, rfl⟩
  rw [← hr]
  have HNm := Lib.hid (fun w => named_calls K.sb k w hk)
  obtain ⟨en, hen⟩ : ∃ en, en = errName k := ⟨_, rfl⟩
  rw [← hen] at HNm
  unfold errName at hen
  unfold Now.putP at hr
  have Hr := Lib.hid hr
  clear hr
  have S1 := h.alloc (VM.boxO v)
  have R1 : Ran w (w.alloc (VM.boxO v)) := Ran.new (Below.refl 0 w) _
  obtain ⟨w2, hw2⟩ : ∃ w2, w2 = w.alloc (VM.boxO v) := ⟨_, rfl⟩
  obtain ⟨xb, hxb⟩ : ∃ b, b = w.heap.size := ⟨_, rfl⟩
  rw [← hw2, ← hxb] at S1
  rw [← hw2] at R1
  have S2 := Lib.hid S1
  have R2 := Lib.hid R1
  clear h R1
  cases hn : isName k with
  | false =>
    have hr := Hr.out
    rw [if_pos hn] at hr hen
    subst hr hen
    clear hn S1 Hr hN hms
    go_enter Tryz.func71, Tryz.ntmps71
    go_upto_region 1 with fail
    rw [← hw2, ← hxb]
    clear hw2 hxb
    go_wp2_with fail
    refine (HNm.out w2).mono ?_
    rintro e w3 ⟨rfl, rfl⟩
    go_wp2_with fail
    go_ret
    exact Lays.same S2.out.right R2.out
  | true =>
    have hr := Hr.out
    rw [if_neg (by rw [hn]; decide)] at hr hen
    subst hen
    dsimp only at hr
    have HrA := Lib.hid hr
    clear hn hr Hr
    obtain ⟨e0, e1, e2, e3⟩ := VM.box_cells S1.rest
    have ez : ∀ i, w2.frozen? ⟨xb, i, none⟩ = false := fun i => free_at S1.rest.get i
    clear S1
    go_enter Tryz.func71, Tryz.ntmps71
    go_upto_region 1 with fail
    rw [← hw2, ← hxb]
    clear hw2 hxb
    go_wp2_with fail
    refine (HNm.out w2).mono ?_
    rintro e w3 ⟨rfl, rfl⟩
    cases hvs : v.set with
    | true =>
      rw [hvs] at e1
      go_upto_region 6 with fail
      have hr := HrA.out
      rw [if_pos hvs] at hr
      have HS3 := S2.out
      have R3 := R2.out
      obtain ⟨w3, hw3⟩ : ∃ w3, w3 = w2 := ⟨_, rfl⟩
      obtain ⟨y, hy⟩ : ∃ y, y = v := ⟨_, rfl⟩
      rw [← hw3] at HS3 R3 ⊢
      rw [← hy] at HS3 hr
      clear hw3 hy S2 R2 e0 e1 e2 e3 ez HrA
      have R3 := Lib.hid R3
      obtain ⟨e0, e1, e2, e3⟩ := VM.box_cells HS3.rest
      obtain ⟨c0, c1, c2, c3, c4, c5, c6, cz⟩ := HS3.cells
      have hnils := nil_cases y
      cases hnv : nilVar y with
      | true =>
        rw [if_pos hnv] at hr
        unfold Now.delV at hr
        obtain ⟨h0, h1, h2, h3⟩ := hnils.1 hnv
        rw [h1] at e1
        rw [h2] at e2
        rw [h3] at e3
        clear hnv hnils h1 h2 h3
        cases hs : (n.s.V k).isSome with
        | false =>
          rw [if_pos hs] at hr
          subst hr
          have HD := Lib.hid (idleV K w3 n _ k hk hs HS3)
          have HS3 := Lib.hid HS3
          clear hs hN hms
          go_wp2_with fail
          refine HD.out.mono ?_
          rintro e w4 ⟨rfl, hB4⟩
          have S4 := Lib.hid (HS3.out.below hB4)
          have R4 := Lib.hid (Below.trans R3.out (hB4.mono (Nat.zero_le _)))
          clear hB4
          go_wp2_with fail
          go_ret
          exact Lays.same S4.out.right R4.out
        | true =>
          rw [if_neg (by rw [hs]; decide)] at hr
          subst hr
          have HD := Lib.hid (ndelV K w3 n _ k hk hN hms hs HS3)
          clear hs hN hms HS3
          go_wp2_with fail
          refine HD.out.mono ?_
          rintro e w4 ⟨⟨rfl, S4⟩, R4⟩
          have S4 := Lib.hid S4
          have R4 := Lib.hid (Below.trans R3.out R4)
          go_wp2_with fail
          go_ret
          exact ⟨⟨rfl, S4.out.right⟩, R4.out⟩
      | false =>
        rw [if_neg (by rw [hnv]; decide)] at hr
        subst hr
        have HSt := Lib.hid (nsetV K w3.drew n _ k y hk hN hms HS3.drew)
        have hns := hnils.2 hnv
        clear hnv hnils HS3
        rcases hns with h0 | ⟨h0, h1⟩ | ⟨h0, h1, h2⟩ | ⟨h0, h1, h2, h3⟩
        all_goals
          have He1 := Lib.hid e1
          have He2 := Lib.hid e2
          have He3 := Lib.hid e3
          try rw [h1] at e1
          try rw [h2] at e2
          try rw [h3] at e3
          go_wp2_with fail
          clear e1 e2 e3
          have e1 := He1.out
          have e2 := He2.out
          have e3 := He3.out
          clear h0
          try clear h1
          try clear h2
          try clear h3
          refine Go.Proofs.YtlmjidandjemjaaGreatDoor.region_plan (S := (fun w' => w'.cell? ⟨K.sb, 0, none⟩ = some (pp K.P.vb) ∧ w'.cell? ⟨xb, 0, none⟩ = some (.string y.val) ∧ w'.cell? ⟨xb, 1, none⟩ = some (.bool y.set) ∧ w'.cell? ⟨xb, 2, none⟩ = some (.bool y.exp) ∧ w'.cell? ⟨xb, 3, none⟩ = some (.bool y.fix))) [(0, true), (1, true), (2, true), (3, true), (4, true), (5, true), (6, false), (7, true)] (by kernel_rfl) (by kernel_rfl) (by kernel_rfl) ?_ ?_
          · ((try dsimp only); (first | done | (first | exact ⟨c0, e0, e1, e2, e3⟩ | exact ⟨hz0, hz2⟩)))
          simp only [Go.Proofs.YtlmjidandjemjaaGreatDoor.planOps, List.map_cons, List.map_nil, List.getElem?_toArray, List.getElem?_cons_zero, List.getElem?_cons_succ]
          repeat (first
            | ((refine Go.Proofs.YtlmjidandjemjaaGreatDoor.plan_yes (v := ?_) (by rfl) ?_ ?_); rotate_left; (focus (intro w hSw; (try dsimp only at hSw); go_simp; try (with_reducible rfl))); (try simp only [Act.put, List.setIfInBounds_toArray, List.set_cons_zero, List.set_cons_succ]))
            | ((refine Go.Proofs.YtlmjidandjemjaaGreatDoor.plan_no (by rfl) ?_); (try simp only [Act.put, List.setIfInBounds_toArray, List.set_cons_zero, List.set_cons_succ]))
            | ((refine Go.Proofs.YtlmjidandjemjaaGreatDoor.plan_step (fun K hK => ?_)); (first | (go_at_call 46; refine HSt.out.mono ?_; rintro e w4 ⟨⟨rfl, hS⟩, hR⟩; obtain ⟨hz0, -⟩ := hS.cells; have hz2 := VM.box_cells hS.rest; have HS := Lib.hid hS; have HRn := Lib.hid hR; clear hS hR) | (go_simp; (go_at_call 46; refine HSt.out.mono ?_; rintro e w4 ⟨⟨rfl, hS⟩, hR⟩; obtain ⟨hz0, -⟩ := hS.cells; have hz2 := VM.box_cells hS.rest; have HS := Lib.hid hS; have HRn := Lib.hid hR; clear hS hR); (try go_wp2_with fail)) | go_simp); (refine hK.out _ _ ?_ (fun hHeld => ?_)); (focus ((try dsimp only); (first | done | (first | exact ⟨c0, e0, e1, e2, e3⟩ | exact ⟨hz0, hz2⟩)))); clear hK K; (try simp only [Act.put, List.setIfInBounds_toArray, List.set_cons_zero, List.set_cons_succ])))
          refine Go.Proofs.YtlmjidandjemjaaGreatDoor.plan_done ?_
          go_wp2_with fail
          go_ret
          exact ⟨⟨rfl, HS.out.right⟩, Below.trans (Below.drew R3.out) HRn.out⟩
    | false =>
      rw [hvs] at e1
      go_upto_region 6 with fail
      have hr := HrA.out
      have hv1 : ¬ (v.set = true) := by rw [hvs]; decide
      rw [if_neg hv1] at hr
      clear hv1
      have HS3 : SAt K (w2.setCell ⟨xb, 0, none⟩ (.string ⟨#[]⟩)) n (pts xb (VM.boxO ⟨⟨#[]⟩, v.set, v.exp, v.fix⟩) * R) := by
        obtain ⟨X, hX1, hX2⟩ := S2.out.frame
        refine hX2 _ _ ?_
        have := (hX1.perm (show _ = pts xb (VM.boxO v) * (X * R) by ac_rfl)).set (i := 0) (.string ⟨#[]⟩)
        exact this.perm (by show pts xb (VM.boxO ⟨⟨#[]⟩, v.set, v.exp, v.fix⟩) * _ = _; ac_rfl)
      obtain ⟨w3, hw3⟩ : ∃ w3, w3 = w2.setCell ⟨xb, 0, none⟩ (.string ⟨#[]⟩) := ⟨_, rfl⟩
      have R3 : Ran w w3 := by rw [hw3]; exact Ran.set R2.out _ _
      obtain ⟨y, hy⟩ : ∃ y, y = (⟨⟨#[]⟩, v.set, v.exp, v.fix⟩ : VM.T) := ⟨_, rfl⟩
      rw [← hw3] at HS3 ⊢
      rw [← hy] at HS3 hr
      clear hw3 hy S2 R2 e0 e1 e2 e3 ez HrA
      have R3 := Lib.hid R3
      obtain ⟨e0, e1, e2, e3⟩ := VM.box_cells HS3.rest
      obtain ⟨c0, c1, c2, c3, c4, c5, c6, cz⟩ := HS3.cells
      have hnils := nil_cases y
      cases hnv : nilVar y with
      | true =>
        rw [if_pos hnv] at hr
        unfold Now.delV at hr
        obtain ⟨h0, h1, h2, h3⟩ := hnils.1 hnv
        rw [h1] at e1
        rw [h2] at e2
        rw [h3] at e3
        clear hnv hnils h1 h2 h3
        cases hs : (n.s.V k).isSome with
        | false =>
          rw [if_pos hs] at hr
          subst hr
          have HD := Lib.hid (idleV K w3 n _ k hk hs HS3)
          have HS3 := Lib.hid HS3
          clear hs hN hms
          go_wp2_with fail
          refine HD.out.mono ?_
          rintro e w4 ⟨rfl, hB4⟩
          have S4 := Lib.hid (HS3.out.below hB4)
          have R4 := Lib.hid (Below.trans R3.out (hB4.mono (Nat.zero_le _)))
          clear hB4
          go_wp2_with fail
          go_ret
          exact Lays.same S4.out.right R4.out
        | true =>
          rw [if_neg (by rw [hs]; decide)] at hr
          subst hr
          have HD := Lib.hid (ndelV K w3 n _ k hk hN hms hs HS3)
          clear hs hN hms HS3
          go_wp2_with fail
          refine HD.out.mono ?_
          rintro e w4 ⟨⟨rfl, S4⟩, R4⟩
          have S4 := Lib.hid S4
          have R4 := Lib.hid (Below.trans R3.out R4)
          go_wp2_with fail
          go_ret
          exact ⟨⟨rfl, S4.out.right⟩, R4.out⟩
      | false =>
        rw [if_neg (by rw [hnv]; decide)] at hr
        subst hr
        have HSt := Lib.hid (nsetV K w3.drew n _ k y hk hN hms HS3.drew)
        have hns := hnils.2 hnv
        clear hnv hnils HS3
        rcases hns with h0 | ⟨h0, h1⟩ | ⟨h0, h1, h2⟩ | ⟨h0, h1, h2, h3⟩
        all_goals
          have He1 := Lib.hid e1
          have He2 := Lib.hid e2
          have He3 := Lib.hid e3
          try rw [h1] at e1
          try rw [h2] at e2
          try rw [h3] at e3
          go_wp2_with fail
          clear e1 e2 e3
          have e1 := He1.out
          have e2 := He2.out
          have e3 := He3.out
          clear h0
          try clear h1
          try clear h2
          try clear h3
          refine Go.Proofs.YtlmjidandjemjaaGreatDoor.region_plan (S := (fun w' => w'.cell? ⟨K.sb, 0, none⟩ = some (pp K.P.vb) ∧ w'.cell? ⟨xb, 0, none⟩ = some (.string y.val) ∧ w'.cell? ⟨xb, 1, none⟩ = some (.bool y.set) ∧ w'.cell? ⟨xb, 2, none⟩ = some (.bool y.exp) ∧ w'.cell? ⟨xb, 3, none⟩ = some (.bool y.fix))) [(0, true), (1, true), (2, true), (3, true), (4, true), (5, true), (6, false), (7, true)] (by kernel_rfl) (by kernel_rfl) (by kernel_rfl) ?_ ?_
          · ((try dsimp only); (first | done | (first | exact ⟨c0, e0, e1, e2, e3⟩ | exact ⟨hz0, hz2⟩)))
          simp only [Go.Proofs.YtlmjidandjemjaaGreatDoor.planOps, List.map_cons, List.map_nil, List.getElem?_toArray, List.getElem?_cons_zero, List.getElem?_cons_succ]
          repeat (first
            | ((refine Go.Proofs.YtlmjidandjemjaaGreatDoor.plan_yes (v := ?_) (by rfl) ?_ ?_); rotate_left; (focus (intro w hSw; (try dsimp only at hSw); go_simp; try (with_reducible rfl))); (try simp only [Act.put, List.setIfInBounds_toArray, List.set_cons_zero, List.set_cons_succ]))
            | ((refine Go.Proofs.YtlmjidandjemjaaGreatDoor.plan_no (by rfl) ?_); (try simp only [Act.put, List.setIfInBounds_toArray, List.set_cons_zero, List.set_cons_succ]))
            | ((refine Go.Proofs.YtlmjidandjemjaaGreatDoor.plan_step (fun K hK => ?_)); (first | (go_at_call 46; refine HSt.out.mono ?_; rintro e w4 ⟨⟨rfl, hS⟩, hR⟩; obtain ⟨hz0, -⟩ := hS.cells; have hz2 := VM.box_cells hS.rest; have HS := Lib.hid hS; have HRn := Lib.hid hR; clear hS hR) | (go_simp; (go_at_call 46; refine HSt.out.mono ?_; rintro e w4 ⟨⟨rfl, hS⟩, hR⟩; obtain ⟨hz0, -⟩ := hS.cells; have hz2 := VM.box_cells hS.rest; have HS := Lib.hid hS; have HRn := Lib.hid hR; clear hS hR); (try go_wp2_with fail)) | go_simp); (refine hK.out _ _ ?_ (fun hHeld => ?_)); (focus ((try dsimp only); (first | done | (first | exact ⟨c0, e0, e1, e2, e3⟩ | exact ⟨hz0, hz2⟩)))); clear hK K; (try simp only [Act.put, List.setIfInBounds_toArray, List.set_cons_zero, List.set_cons_succ])))
          refine Go.Proofs.YtlmjidandjemjaaGreatDoor.plan_done ?_
          go_wp2_with fail
          go_ret
          exact ⟨⟨rfl, HS.out.right⟩, Below.trans (Below.drew R3.out) HRn.out⟩
end Go.Proofs.YtlmjidandjemjaaGreatDoor.State
