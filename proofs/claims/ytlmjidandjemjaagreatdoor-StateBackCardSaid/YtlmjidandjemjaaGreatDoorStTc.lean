/- Unset, Mark, Put, Get of a variable walked. (printed by gen_sttc.py) -/
import Derived.Test.YtlmjidandjemjaaGreatDoorStTb
import Derived.Test.YtlmjidandjemjaaGreatDoorStEq
namespace Go.Proofs.YtlmjidandjemjaaGreatDoor.State
open Go.RowKit Go.Proofs.YtlmjidandjemjaaGreatDoor Go.Proofs.YtlmjidandjemjaaGreatDoor.Hp Go.Proofs.YtlmjidandjemjaaGreatDoor.Undo
set_option linter.unusedVariables false
attribute [local go_sem] Oper.semAt_some

theorem nil_cases (y : VM.T) : (nilVar y = true → y.val.toList = [] ∧ y.set = false ∧ y.exp = false ∧ y.fix = false) ∧ (nilVar y = false → (¬ y.val.toList = []) ∨ (y.val.toList = [] ∧ y.set = true) ∨ (y.val.toList = [] ∧ y.set = false ∧ y.exp = true) ∨ (y.val.toList = [] ∧ y.set = false ∧ y.exp = false ∧ y.fix = true)) := by
  have h0 : decide (y.val.size = 0) = decide (y.val.toList = []) := by
    rw [← beq_nil]; cases y.val.toList <;> rfl
  unfold nilVar
  rw [h0]
  obtain ⟨a, b, c, d⟩ := y
  by_cases q : a.toList = [] <;> cases b <;> cases c <;> cases d <;> simp [q]
theorem field_fix (a : ByteArray) (b c d : Bool) (W : World) : (Instr.field 44 (.agg #[.string a, .bool b, .bool c, .bool d]) 3).run Tryz.prog W = .ok (.bool d) W := by kernel_rfl
set_option maxRecDepth 100000 in
set_option maxHeartbeats 8000000 in
theorem Unset_calls (K : Ctx) (n : Now) (k : ByteArray) (w : World) (R : Hp) (hk : k.size ≤ maxLen) (hN : n.N ≤ 1000000) (hms : n.ms.length ≤ 1000000) (h : SAt K w n R) :
    Calls Tryz.prog 17 #[pp K.sb, .string k] w (Lays K w R (n.unsetP K.most k)) := by
  have HNm := Lib.hid (fun w => named_calls K.sb k w hk)
  obtain ⟨r, hr⟩ : ∃ r, r = n.unsetP K.most k := ⟨_, rfl⟩
  rw [← hr]
  obtain ⟨en, hen⟩ : ∃ en, en = errName k := ⟨_, rfl⟩
  rw [← hen] at HNm
  unfold errName at hen
  unfold Now.unsetP at hr
  have H0 := Lib.hid h
  obtain ⟨c0, c1, c2, c3, c4, c5, c6, cz⟩ := h.cells
  have HV := Lib.hid (Var_calls K n k w R hk h)
  obtain ⟨x, hx⟩ : ∃ x, x = n.s.var k := ⟨_, rfl⟩
  rw [← hx] at HV hr
  have Hr := Lib.hid hr
  clear h hx hr
  cases hn : isName k with
  | false =>
    have hr := Hr.out
    rw [if_pos hn] at hr hen
    subst hr hen
    clear hn
    go_enter Tryz.func17, Tryz.ntmps17
    go_wp2_with fail
    refine (HNm.out w).mono ?_
    rintro e w3 ⟨rfl, rfl⟩
    go_wp2_with fail
    go_ret
    exact Lays.same H0.out (Below.refl 0 w)
  | true =>
    have hr := Hr.out
    rw [if_neg (by rw [hn]; decide)] at hr hen
    subst hen
    have Hr := Lib.hid hr
    clear hn hr
    go_enter Tryz.func17, Tryz.ntmps17
    go_wp2_with fail
    refine (HNm.out w).mono ?_
    rintro e w3 ⟨rfl, rfl⟩
    go_wp2_with fail
    refine HV.out.mono ?_
    rintro e w1 ⟨rfl, hB⟩
    have S1 := H0.out.below hB
    have R1 : Ran w w1 := hB.mono (Nat.zero_le _)
    clear c0 c1 c2 c3 c4 c5 c6 cz
    obtain ⟨c0, c1, c2, c3, c4, c5, c6, cz⟩ := S1.cells
    have R1 := Lib.hid R1
    have hr := Hr.out
    have hfd := field_fix
    cases hf : x.fix with
    | true =>
      rw [if_pos hf] at hr
      subst hr
      have S1 := Lib.hid S1
      clear hB HV H0
      go_wp2_with fail
      go_ret
      exact Lays.same S1.out R1.out
    | false =>
      rw [if_neg (by rw [hf]; decide)] at hr
      unfold Now.delV at hr
      cases hs : (n.s.V k).isSome with
      | false =>
        rw [if_pos hs] at hr
        subst hr
        have HD := Lib.hid (idleV K w1 n R k hk hs S1)
        have S1 := Lib.hid S1
        clear hB HV H0 hs
        go_wp2_with fail
        refine HD.out.mono ?_
        rintro e w4 ⟨rfl, hB4⟩
        have S4 := Lib.hid (S1.out.below hB4)
        have R4 := Lib.hid (Below.trans R1.out (hB4.mono (Nat.zero_le _)))
        clear hB4
        go_wp2_with fail
        go_ret
        exact Lays.same S4.out R4.out
      | true =>
        rw [if_neg (by rw [hs]; decide)] at hr
        subst hr
        have HD := Lib.hid (ndelV K w1 n R k hk hN hms hs S1)
        clear hB HV H0 hs S1
        go_wp2_with fail
        refine HD.out.mono ?_
        rintro e w4 ⟨⟨rfl, S4⟩, R4⟩
        have S4 := Lib.hid S4
        have R4 := Lib.hid (Below.trans R1.out R4)
        go_wp2_with fail
        go_ret
        exact ⟨⟨rfl, S4.out⟩, R4.out⟩
set_option maxRecDepth 100000 in
set_option maxHeartbeats 8000000 in
theorem Mark_calls (K : Ctx) (n : Now) (k : ByteArray) (ex fx : Bool) (w : World) (R : Hp) (hk : k.size ≤ maxLen) (hN : n.N ≤ 1000000) (hms : n.ms.length ≤ 1000000) (h : SAt K w n R) :
    Calls Tryz.prog 16 #[pp K.sb, .string k, .bool ex, .bool fx] w (Lays K w R (n.markP K.most k ex fx)) := by
  have HNm := Lib.hid (fun w => named_calls K.sb k w hk)
  obtain ⟨r, hr⟩ : ∃ r, r = n.markP K.most k ex fx := ⟨_, rfl⟩
  rw [← hr]
  obtain ⟨en, hen⟩ : ∃ en, en = errName k := ⟨_, rfl⟩
  rw [← hen] at HNm
  unfold errName at hen
  unfold Now.markP at hr
  have H0 := Lib.hid h
  have HV := Lib.hid (Var_calls K n k w R hk h)
  obtain ⟨x, hx⟩ : ∃ x, x = n.s.var k := ⟨_, rfl⟩
  rw [← hx] at HV hr
  have Hr := Lib.hid hr
  clear h hx hr
  cases hn : isName k with
  | false =>
    have hr := Hr.out
    rw [if_pos hn] at hr hen
    subst hr hen
    clear hn
    go_enter Tryz.func16, Tryz.ntmps16
    go_wp2_with fail
    refine (HNm.out w).mono ?_
    rintro e w3 ⟨rfl, rfl⟩
    go_wp2_with fail
    go_ret
    exact Lays.same H0.out (Below.refl 0 w)
  | true =>
    have hr := Hr.out
    rw [if_neg (by rw [hn]; decide)] at hr hen
    subst hen
    have Hr := Lib.hid hr
    clear hn hr
    go_enter Tryz.func16, Tryz.ntmps16
    go_wp2_with fail
    refine (HNm.out w).mono ?_
    rintro e w3 ⟨rfl, rfl⟩
    go_wp2_with fail
    refine HV.out.mono ?_
    rintro e w1 ⟨rfl, hB⟩
    have S1 := (H0.out.below hB).alloc (VM.boxO x)
    have R1 : Ran w (w1.alloc (VM.boxO x)) := Ran.new (hB.mono (Nat.zero_le _)) _
    obtain ⟨w2, hw2⟩ : ∃ w2, w2 = w1.alloc (VM.boxO x) := ⟨_, rfl⟩
    obtain ⟨xb, hxb⟩ : ∃ b, b = w1.heap.size := ⟨_, rfl⟩
    rw [← hw2, ← hxb] at S1
    rw [← hw2] at R1
    obtain ⟨e0, e1, e2, e3⟩ := VM.box_cells S1.rest
    have ez : ∀ i, w2.frozen? ⟨xb, i, none⟩ = false := fun i => free_at S1.rest.get i
    obtain ⟨c0, c1, c2, c3, c4, c5, c6, cz⟩ := S1.cells
    have S2 := Lib.hid S1
    have R2 := Lib.hid R1
    clear H0 HV hB S1 R1
    go_upto_region 5 with fail
    rw [← hw2, ← hxb]
    clear hw2 hxb
    have hr := Hr.out
    cases hxe : x.exp with
    | true =>
      rw [hxe] at e2
      rw [hxe, Bool.true_or] at hr
      cases hxf : x.fix with
      | true =>
        rw [hxf] at e3
        rw [hxf, Bool.true_or] at hr
        have Hr := Lib.hid hr
        clear hr
        go_upto_region 6 with fail
        have HS3 : SAt K ((w2.setCell ⟨xb, 2, none⟩ (.bool true)).setCell ⟨xb, 3, none⟩ (.bool true)) n (pts xb (VM.boxO (⟨x.val, x.set, true, true⟩ : VM.T)) * R) := by
          obtain ⟨X, hX1, hX2⟩ := S2.out.frame
          refine hX2 _ _ ?_
          have := ((hX1.perm (show _ = pts xb (VM.boxO x) * (X * R) by ac_rfl)).set (i := 2) (.bool true)).set (i := 3) (.bool true)
          exact this.perm (by show pts xb (VM.boxO (⟨x.val, x.set, true, true⟩ : VM.T)) * _ = _; ac_rfl)
        obtain ⟨w3, hw3⟩ : ∃ w3, w3 = (w2.setCell ⟨xb, 2, none⟩ (.bool true)).setCell ⟨xb, 3, none⟩ (.bool true) := ⟨_, rfl⟩
        have R3 : Ran w w3 := by rw [hw3]; exact Ran.set (Ran.set R2.out _ _) _ _
        rw [← hw3] at HS3 ⊢
        clear hw3 S2 R2 e0 e1 e2 e3 c0 c1 c2 c3 c4 c5 c6 cz
        obtain ⟨y, hy⟩ : ∃ y, y = (⟨x.val, x.set, true, true⟩ : VM.T) := ⟨_, rfl⟩
        have hr := Hr.out
        rw [← hy] at HS3 hr
        obtain ⟨e0, e1, e2, e3⟩ := VM.box_cells HS3.rest
        obtain ⟨c0, c1, c2, c3, c4, c5, c6, cz⟩ := HS3.cells
        clear hy Hr
        have R3 := Lib.hid R3
        have hnils := nil_cases y
        cases hnv : nilVar y with
        | true =>
          rw [if_pos hnv] at hr
          subst hr
          obtain ⟨h0, h1, h2, h3⟩ := hnils.1 hnv
          rw [h1] at e1
          rw [h2] at e2
          rw [h3] at e3
          have HS3 := Lib.hid HS3
          clear hnv hnils h1 h2 h3
          go_wp2_with fail
          go_ret
          exact Lays.same HS3.out.right R3.out
        | false =>
          rw [if_neg (by rw [hnv]; decide)] at hr
          subst hr
          have HSt := Lib.hid (nsetV K w3.drew n _ k y hk hN hms HS3.drew)
          have hns := hnils.2 hnv
          have Hy : Hid (VM.enc y = .agg #[.string y.val, .bool y.set, .bool y.exp, .bool y.fix]) := Lib.hid rfl
          clear hnv hnils HS3
          rcases hns with h0 | ⟨h0, h1⟩ | ⟨h0, h1, h2⟩ | ⟨h0, h1, h2, h3⟩
          all_goals
            have He1 := Lib.hid e1
            have He2 := Lib.hid e2
            have He3 := Lib.hid e3
            try rw [h1] at e1
            try rw [h2] at e2
            try rw [h3] at e3
            go_wp2_with fail
            clear e1 e2 e3
            have e1 := He1.out
            have e2 := He2.out
            have e3 := He3.out
            clear h0
            try clear h1
            try clear h2
            try clear h3
            refine Go.Proofs.YtlmjidandjemjaaGreatDoor.region_plan (S := (fun w' => w'.cell? ⟨K.sb, 0, none⟩ = some (pp K.P.vb) ∧ w'.cell? ⟨xb, 0, none⟩ = some (.string y.val) ∧ w'.cell? ⟨xb, 1, none⟩ = some (.bool y.set) ∧ w'.cell? ⟨xb, 2, none⟩ = some (.bool y.exp) ∧ w'.cell? ⟨xb, 3, none⟩ = some (.bool y.fix))) [(0, true), (1, true), (2, true), (3, true), (4, true), (5, true), (6, false), (7, true)] (by kernel_rfl) (by kernel_rfl) (by kernel_rfl) ?_ ?_
            · ((try dsimp only); (first | done | (first | exact ⟨c0, e0, e1, e2, e3⟩ | exact ⟨hz0, hz2⟩)))
            simp only [Go.Proofs.YtlmjidandjemjaaGreatDoor.planOps, List.map_cons, List.map_nil, List.getElem?_toArray, List.getElem?_cons_zero, List.getElem?_cons_succ]
            repeat (first
              | ((refine Go.Proofs.YtlmjidandjemjaaGreatDoor.plan_yes (v := ?_) (by rfl) ?_ ?_); rotate_left; (focus (intro w hSw; (try dsimp only at hSw); go_simp; try (with_reducible rfl))); (try simp only [Act.put, List.setIfInBounds_toArray, List.set_cons_zero, List.set_cons_succ]))
              | ((refine Go.Proofs.YtlmjidandjemjaaGreatDoor.plan_no (by rfl) ?_); (try simp only [Act.put, List.setIfInBounds_toArray, List.set_cons_zero, List.set_cons_succ]))
              | ((refine Go.Proofs.YtlmjidandjemjaaGreatDoor.plan_step (fun K hK => ?_)); (first | (go_at_call 46; refine HSt.out.mono ?_; rintro e w4 ⟨⟨rfl, hS⟩, hR⟩; obtain ⟨hz0, -⟩ := hS.cells; have hz2 := VM.box_cells hS.rest; have HS := Lib.hid hS; have HRn := Lib.hid hR; clear hS hR) | (go_simp; (go_at_call 46; refine HSt.out.mono ?_; rintro e w4 ⟨⟨rfl, hS⟩, hR⟩; obtain ⟨hz0, -⟩ := hS.cells; have hz2 := VM.box_cells hS.rest; have HS := Lib.hid hS; have HRn := Lib.hid hR; clear hS hR); (try go_wp2_with fail)) | go_simp); (refine hK.out _ _ ?_ (fun hHeld => ?_)); (focus ((try dsimp only); (first | done | (first | exact ⟨c0, e0, e1, e2, e3⟩ | exact ⟨hz0, hz2⟩)))); clear hK K; (try simp only [Act.put, List.setIfInBounds_toArray, List.set_cons_zero, List.set_cons_succ])))
            refine Go.Proofs.YtlmjidandjemjaaGreatDoor.plan_done ?_
            go_wp2_with fail
            go_ret
            exact ⟨⟨rfl, HS.out.right⟩, Below.trans (Below.drew R3.out) HRn.out⟩
      | false =>
        rw [hxf] at e3
        rw [hxf, Bool.false_or] at hr
        have Hr := Lib.hid hr
        clear hr
        go_upto_region 6 with fail
        have HS3 : SAt K ((w2.setCell ⟨xb, 2, none⟩ (.bool true)).setCell ⟨xb, 3, none⟩ (.bool fx)) n (pts xb (VM.boxO (⟨x.val, x.set, true, fx⟩ : VM.T)) * R) := by
          obtain ⟨X, hX1, hX2⟩ := S2.out.frame
          refine hX2 _ _ ?_
          have := ((hX1.perm (show _ = pts xb (VM.boxO x) * (X * R) by ac_rfl)).set (i := 2) (.bool true)).set (i := 3) (.bool fx)
          exact this.perm (by show pts xb (VM.boxO (⟨x.val, x.set, true, fx⟩ : VM.T)) * _ = _; ac_rfl)
        obtain ⟨w3, hw3⟩ : ∃ w3, w3 = (w2.setCell ⟨xb, 2, none⟩ (.bool true)).setCell ⟨xb, 3, none⟩ (.bool fx) := ⟨_, rfl⟩
        have R3 : Ran w w3 := by rw [hw3]; exact Ran.set (Ran.set R2.out _ _) _ _
        rw [← hw3] at HS3 ⊢
        clear hw3 S2 R2 e0 e1 e2 e3 c0 c1 c2 c3 c4 c5 c6 cz
        obtain ⟨y, hy⟩ : ∃ y, y = (⟨x.val, x.set, true, fx⟩ : VM.T) := ⟨_, rfl⟩
        have hr := Hr.out
        rw [← hy] at HS3 hr
        obtain ⟨e0, e1, e2, e3⟩ := VM.box_cells HS3.rest
        obtain ⟨c0, c1, c2, c3, c4, c5, c6, cz⟩ := HS3.cells
        clear hy Hr
        have R3 := Lib.hid R3
        have hnils := nil_cases y
        cases hnv : nilVar y with
        | true =>
          rw [if_pos hnv] at hr
          subst hr
          obtain ⟨h0, h1, h2, h3⟩ := hnils.1 hnv
          rw [h1] at e1
          rw [h2] at e2
          rw [h3] at e3
          have HS3 := Lib.hid HS3
          clear hnv hnils h1 h2 h3
          go_wp2_with fail
          go_ret
          exact Lays.same HS3.out.right R3.out
        | false =>
          rw [if_neg (by rw [hnv]; decide)] at hr
          subst hr
          have HSt := Lib.hid (nsetV K w3.drew n _ k y hk hN hms HS3.drew)
          have hns := hnils.2 hnv
          have Hy : Hid (VM.enc y = .agg #[.string y.val, .bool y.set, .bool y.exp, .bool y.fix]) := Lib.hid rfl
          clear hnv hnils HS3
          rcases hns with h0 | ⟨h0, h1⟩ | ⟨h0, h1, h2⟩ | ⟨h0, h1, h2, h3⟩
          all_goals
            have He1 := Lib.hid e1
            have He2 := Lib.hid e2
            have He3 := Lib.hid e3
            try rw [h1] at e1
            try rw [h2] at e2
            try rw [h3] at e3
            go_wp2_with fail
            clear e1 e2 e3
            have e1 := He1.out
            have e2 := He2.out
            have e3 := He3.out
            clear h0
            try clear h1
            try clear h2
            try clear h3
            refine Go.Proofs.YtlmjidandjemjaaGreatDoor.region_plan (S := (fun w' => w'.cell? ⟨K.sb, 0, none⟩ = some (pp K.P.vb) ∧ w'.cell? ⟨xb, 0, none⟩ = some (.string y.val) ∧ w'.cell? ⟨xb, 1, none⟩ = some (.bool y.set) ∧ w'.cell? ⟨xb, 2, none⟩ = some (.bool y.exp) ∧ w'.cell? ⟨xb, 3, none⟩ = some (.bool y.fix))) [(0, true), (1, true), (2, true), (3, true), (4, true), (5, true), (6, false), (7, true)] (by kernel_rfl) (by kernel_rfl) (by kernel_rfl) ?_ ?_
            · ((try dsimp only); (first | done | (first | exact ⟨c0, e0, e1, e2, e3⟩ | exact ⟨hz0, hz2⟩)))
            simp only [Go.Proofs.YtlmjidandjemjaaGreatDoor.planOps, List.map_cons, List.map_nil, List.getElem?_toArray, List.getElem?_cons_zero, List.getElem?_cons_succ]
            repeat (first
              | ((refine Go.Proofs.YtlmjidandjemjaaGreatDoor.plan_yes (v := ?_) (by rfl) ?_ ?_); rotate_left; (focus (intro w hSw; (try dsimp only at hSw); go_simp; try (with_reducible rfl))); (try simp only [Act.put, List.setIfInBounds_toArray, List.set_cons_zero, List.set_cons_succ]))
              | ((refine Go.Proofs.YtlmjidandjemjaaGreatDoor.plan_no (by rfl) ?_); (try simp only [Act.put, List.setIfInBounds_toArray, List.set_cons_zero, List.set_cons_succ]))
              | ((refine Go.Proofs.YtlmjidandjemjaaGreatDoor.plan_step (fun K hK => ?_)); (first | (go_at_call 46; refine HSt.out.mono ?_; rintro e w4 ⟨⟨rfl, hS⟩, hR⟩; obtain ⟨hz0, -⟩ := hS.cells; have hz2 := VM.box_cells hS.rest; have HS := Lib.hid hS; have HRn := Lib.hid hR; clear hS hR) | (go_simp; (go_at_call 46; refine HSt.out.mono ?_; rintro e w4 ⟨⟨rfl, hS⟩, hR⟩; obtain ⟨hz0, -⟩ := hS.cells; have hz2 := VM.box_cells hS.rest; have HS := Lib.hid hS; have HRn := Lib.hid hR; clear hS hR); (try go_wp2_with fail)) | go_simp); (refine hK.out _ _ ?_ (fun hHeld => ?_)); (focus ((try dsimp only); (first | done | (first | exact ⟨c0, e0, e1, e2, e3⟩ | exact ⟨hz0, hz2⟩)))); clear hK K; (try simp only [Act.put, List.setIfInBounds_toArray, List.set_cons_zero, List.set_cons_succ])))
            refine Go.Proofs.YtlmjidandjemjaaGreatDoor.plan_done ?_
            go_wp2_with fail
            go_ret
            exact ⟨⟨rfl, HS.out.right⟩, Below.trans (Below.drew R3.out) HRn.out⟩
    | false =>
      rw [hxe] at e2
      rw [hxe, Bool.false_or] at hr
      cases hxf : x.fix with
      | true =>
        rw [hxf] at e3
        rw [hxf, Bool.true_or] at hr
        have Hr := Lib.hid hr
        clear hr
        go_upto_region 6 with fail
        have HS3 : SAt K ((w2.setCell ⟨xb, 2, none⟩ (.bool ex)).setCell ⟨xb, 3, none⟩ (.bool true)) n (pts xb (VM.boxO (⟨x.val, x.set, ex, true⟩ : VM.T)) * R) := by
          obtain ⟨X, hX1, hX2⟩ := S2.out.frame
          refine hX2 _ _ ?_
          have := ((hX1.perm (show _ = pts xb (VM.boxO x) * (X * R) by ac_rfl)).set (i := 2) (.bool ex)).set (i := 3) (.bool true)
          exact this.perm (by show pts xb (VM.boxO (⟨x.val, x.set, ex, true⟩ : VM.T)) * _ = _; ac_rfl)
        obtain ⟨w3, hw3⟩ : ∃ w3, w3 = (w2.setCell ⟨xb, 2, none⟩ (.bool ex)).setCell ⟨xb, 3, none⟩ (.bool true) := ⟨_, rfl⟩
        have R3 : Ran w w3 := by rw [hw3]; exact Ran.set (Ran.set R2.out _ _) _ _
        rw [← hw3] at HS3 ⊢
        clear hw3 S2 R2 e0 e1 e2 e3 c0 c1 c2 c3 c4 c5 c6 cz
        obtain ⟨y, hy⟩ : ∃ y, y = (⟨x.val, x.set, ex, true⟩ : VM.T) := ⟨_, rfl⟩
        have hr := Hr.out
        rw [← hy] at HS3 hr
        obtain ⟨e0, e1, e2, e3⟩ := VM.box_cells HS3.rest
        obtain ⟨c0, c1, c2, c3, c4, c5, c6, cz⟩ := HS3.cells
        clear hy Hr
        have R3 := Lib.hid R3
        have hnils := nil_cases y
        cases hnv : nilVar y with
        | true =>
          rw [if_pos hnv] at hr
          subst hr
          obtain ⟨h0, h1, h2, h3⟩ := hnils.1 hnv
          rw [h1] at e1
          rw [h2] at e2
          rw [h3] at e3
          have HS3 := Lib.hid HS3
          clear hnv hnils h1 h2 h3
          go_wp2_with fail
          go_ret
          exact Lays.same HS3.out.right R3.out
        | false =>
          rw [if_neg (by rw [hnv]; decide)] at hr
          subst hr
          have HSt := Lib.hid (nsetV K w3.drew n _ k y hk hN hms HS3.drew)
          have hns := hnils.2 hnv
          have Hy : Hid (VM.enc y = .agg #[.string y.val, .bool y.set, .bool y.exp, .bool y.fix]) := Lib.hid rfl
          clear hnv hnils HS3
          rcases hns with h0 | ⟨h0, h1⟩ | ⟨h0, h1, h2⟩ | ⟨h0, h1, h2, h3⟩
          all_goals
            have He1 := Lib.hid e1
            have He2 := Lib.hid e2
            have He3 := Lib.hid e3
            try rw [h1] at e1
            try rw [h2] at e2
            try rw [h3] at e3
            go_wp2_with fail
            clear e1 e2 e3
            have e1 := He1.out
            have e2 := He2.out
            have e3 := He3.out
            clear h0
            try clear h1
            try clear h2
            try clear h3
            refine Go.Proofs.YtlmjidandjemjaaGreatDoor.region_plan (S := (fun w' => w'.cell? ⟨K.sb, 0, none⟩ = some (pp K.P.vb) ∧ w'.cell? ⟨xb, 0, none⟩ = some (.string y.val) ∧ w'.cell? ⟨xb, 1, none⟩ = some (.bool y.set) ∧ w'.cell? ⟨xb, 2, none⟩ = some (.bool y.exp) ∧ w'.cell? ⟨xb, 3, none⟩ = some (.bool y.fix))) [(0, true), (1, true), (2, true), (3, true), (4, true), (5, true), (6, false), (7, true)] (by kernel_rfl) (by kernel_rfl) (by kernel_rfl) ?_ ?_
            · ((try dsimp only); (first | done | (first | exact ⟨c0, e0, e1, e2, e3⟩ | exact ⟨hz0, hz2⟩)))
            simp only [Go.Proofs.YtlmjidandjemjaaGreatDoor.planOps, List.map_cons, List.map_nil, List.getElem?_toArray, List.getElem?_cons_zero, List.getElem?_cons_succ]
            repeat (first
              | ((refine Go.Proofs.YtlmjidandjemjaaGreatDoor.plan_yes (v := ?_) (by rfl) ?_ ?_); rotate_left; (focus (intro w hSw; (try dsimp only at hSw); go_simp; try (with_reducible rfl))); (try simp only [Act.put, List.setIfInBounds_toArray, List.set_cons_zero, List.set_cons_succ]))
              | ((refine Go.Proofs.YtlmjidandjemjaaGreatDoor.plan_no (by rfl) ?_); (try simp only [Act.put, List.setIfInBounds_toArray, List.set_cons_zero, List.set_cons_succ]))
              | ((refine Go.Proofs.YtlmjidandjemjaaGreatDoor.plan_step (fun K hK => ?_)); (first | (go_at_call 46; refine HSt.out.mono ?_; rintro e w4 ⟨⟨rfl, hS⟩, hR⟩; obtain ⟨hz0, -⟩ := hS.cells; have hz2 := VM.box_cells hS.rest; have HS := Lib.hid hS; have HRn := Lib.hid hR; clear hS hR) | (go_simp; (go_at_call 46; refine HSt.out.mono ?_; rintro e w4 ⟨⟨rfl, hS⟩, hR⟩; obtain ⟨hz0, -⟩ := hS.cells; have hz2 := VM.box_cells hS.rest; have HS := Lib.hid hS; have HRn := Lib.hid hR; clear hS hR); (try go_wp2_with fail)) | go_simp); (refine hK.out _ _ ?_ (fun hHeld => ?_)); (focus ((try dsimp only); (first | done | (first | exact ⟨c0, e0, e1, e2, e3⟩ | exact ⟨hz0, hz2⟩)))); clear hK K; (try simp only [Act.put, List.setIfInBounds_toArray, List.set_cons_zero, List.set_cons_succ])))
            refine Go.Proofs.YtlmjidandjemjaaGreatDoor.plan_done ?_
            go_wp2_with fail
            go_ret
            exact ⟨⟨rfl, HS.out.right⟩, Below.trans (Below.drew R3.out) HRn.out⟩
      | false =>
        rw [hxf] at e3
        rw [hxf, Bool.false_or] at hr
        have Hr := Lib.hid hr
        clear hr
        go_upto_region 6 with fail
        have HS3 : SAt K ((w2.setCell ⟨xb, 2, none⟩ (.bool ex)).setCell ⟨xb, 3, none⟩ (.bool fx)) n (pts xb (VM.boxO (⟨x.val, x.set, ex, fx⟩ : VM.T)) * R) := by
          obtain ⟨X, hX1, hX2⟩ := S2.out.frame
          refine hX2 _ _ ?_
          have := ((hX1.perm (show _ = pts xb (VM.boxO x) * (X * R) by ac_rfl)).set (i := 2) (.bool ex)).set (i := 3) (.bool fx)
          exact this.perm (by show pts xb (VM.boxO (⟨x.val, x.set, ex, fx⟩ : VM.T)) * _ = _; ac_rfl)
        obtain ⟨w3, hw3⟩ : ∃ w3, w3 = (w2.setCell ⟨xb, 2, none⟩ (.bool ex)).setCell ⟨xb, 3, none⟩ (.bool fx) := ⟨_, rfl⟩
        have R3 : Ran w w3 := by rw [hw3]; exact Ran.set (Ran.set R2.out _ _) _ _
        rw [← hw3] at HS3 ⊢
        clear hw3 S2 R2 e0 e1 e2 e3 c0 c1 c2 c3 c4 c5 c6 cz
        obtain ⟨y, hy⟩ : ∃ y, y = (⟨x.val, x.set, ex, fx⟩ : VM.T) := ⟨_, rfl⟩
        have hr := Hr.out
        rw [← hy] at HS3 hr
        obtain ⟨e0, e1, e2, e3⟩ := VM.box_cells HS3.rest
        obtain ⟨c0, c1, c2, c3, c4, c5, c6, cz⟩ := HS3.cells
        clear hy Hr
        have R3 := Lib.hid R3
        have hnils := nil_cases y
        cases hnv : nilVar y with
        | true =>
          rw [if_pos hnv] at hr
          subst hr
          obtain ⟨h0, h1, h2, h3⟩ := hnils.1 hnv
          rw [h1] at e1
          rw [h2] at e2
          rw [h3] at e3
          have HS3 := Lib.hid HS3
          clear hnv hnils h1 h2 h3
          go_wp2_with fail
          go_ret
          exact Lays.same HS3.out.right R3.out
        | false =>
          rw [if_neg (by rw [hnv]; decide)] at hr
          subst hr
          have HSt := Lib.hid (nsetV K w3.drew n _ k y hk hN hms HS3.drew)
          have hns := hnils.2 hnv
          have Hy : Hid (VM.enc y = .agg #[.string y.val, .bool y.set, .bool y.exp, .bool y.fix]) := Lib.hid rfl
          clear hnv hnils HS3
          rcases hns with h0 | ⟨h0, h1⟩ | ⟨h0, h1, h2⟩ | ⟨h0, h1, h2, h3⟩
          all_goals
            have He1 := Lib.hid e1
            have He2 := Lib.hid e2
            have He3 := Lib.hid e3
            try rw [h1] at e1
            try rw [h2] at e2
            try rw [h3] at e3
            go_wp2_with fail
            clear e1 e2 e3
            have e1 := He1.out
            have e2 := He2.out
            have e3 := He3.out
            clear h0
            try clear h1
            try clear h2
            try clear h3
            refine Go.Proofs.YtlmjidandjemjaaGreatDoor.region_plan (S := (fun w' => w'.cell? ⟨K.sb, 0, none⟩ = some (pp K.P.vb) ∧ w'.cell? ⟨xb, 0, none⟩ = some (.string y.val) ∧ w'.cell? ⟨xb, 1, none⟩ = some (.bool y.set) ∧ w'.cell? ⟨xb, 2, none⟩ = some (.bool y.exp) ∧ w'.cell? ⟨xb, 3, none⟩ = some (.bool y.fix))) [(0, true), (1, true), (2, true), (3, true), (4, true), (5, true), (6, false), (7, true)] (by kernel_rfl) (by kernel_rfl) (by kernel_rfl) ?_ ?_
            · ((try dsimp only); (first | done | (first | exact ⟨c0, e0, e1, e2, e3⟩ | exact ⟨hz0, hz2⟩)))
            simp only [Go.Proofs.YtlmjidandjemjaaGreatDoor.planOps, List.map_cons, List.map_nil, List.getElem?_toArray, List.getElem?_cons_zero, List.getElem?_cons_succ]
            repeat (first
              | ((refine Go.Proofs.YtlmjidandjemjaaGreatDoor.plan_yes (v := ?_) (by rfl) ?_ ?_); rotate_left; (focus (intro w hSw; (try dsimp only at hSw); go_simp; try (with_reducible rfl))); (try simp only [Act.put, List.setIfInBounds_toArray, List.set_cons_zero, List.set_cons_succ]))
              | ((refine Go.Proofs.YtlmjidandjemjaaGreatDoor.plan_no (by rfl) ?_); (try simp only [Act.put, List.setIfInBounds_toArray, List.set_cons_zero, List.set_cons_succ]))
              | ((refine Go.Proofs.YtlmjidandjemjaaGreatDoor.plan_step (fun K hK => ?_)); (first | (go_at_call 46; refine HSt.out.mono ?_; rintro e w4 ⟨⟨rfl, hS⟩, hR⟩; obtain ⟨hz0, -⟩ := hS.cells; have hz2 := VM.box_cells hS.rest; have HS := Lib.hid hS; have HRn := Lib.hid hR; clear hS hR) | (go_simp; (go_at_call 46; refine HSt.out.mono ?_; rintro e w4 ⟨⟨rfl, hS⟩, hR⟩; obtain ⟨hz0, -⟩ := hS.cells; have hz2 := VM.box_cells hS.rest; have HS := Lib.hid hS; have HRn := Lib.hid hR; clear hS hR); (try go_wp2_with fail)) | go_simp); (refine hK.out _ _ ?_ (fun hHeld => ?_)); (focus ((try dsimp only); (first | done | (first | exact ⟨c0, e0, e1, e2, e3⟩ | exact ⟨hz0, hz2⟩)))); clear hK K; (try simp only [Act.put, List.setIfInBounds_toArray, List.set_cons_zero, List.set_cons_succ])))
            refine Go.Proofs.YtlmjidandjemjaaGreatDoor.plan_done ?_
            go_wp2_with fail
            go_ret
            exact ⟨⟨rfl, HS.out.right⟩, Below.trans (Below.drew R3.out) HRn.out⟩
end Go.Proofs.YtlmjidandjemjaaGreatDoor.State
