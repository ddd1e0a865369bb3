/- HandlesPlays, part 12 of 29: the texts StTc StTf SvG, joined by a program. -/
import Derived.Test.YtlmjidandjemjaaGreatDoorSp10
import Derived.Test.YtlmjidandjemjaaGreatDoorSp11
import Derived.Test.YtlmjidandjemjaaGreatDoorShf
namespace Go.Proofs.YtlmjidandjemjaaGreatDoor.State
open Go.RowKit Go.Proofs.YtlmjidandjemjaaGreatDoor Go.Proofs.YtlmjidandjemjaaGreatDoor.Hp Go.Proofs.YtlmjidandjemjaaGreatDoor.Undo
set_option linter.unusedVariables false
attribute [local go_sem] Oper.semAt_some

theorem nil_cases (y : VM.T) : (nilVar y = true → y.val.toList = [] ∧ y.set = false ∧ y.exp = false ∧ y.fix = false) ∧ (nilVar y = false → (¬ y.val.toList = []) ∨ (y.val.toList = [] ∧ y.set = true) ∨ (y.val.toList = [] ∧ y.set = false ∧ y.exp = true) ∨ (y.val.toList = [] ∧ y.set = false ∧ y.exp = false ∧ y.fix = true)) := by
  have h0 : decide (y.val.size = 0) = decide (y.val.toList = []) := by
    rw [← beq_nil]; cases y.val.toList <;> rfl
  unfold nilVar
  rw [h0]
  obtain ⟨a, b, c, d⟩ := y
  by_cases q : a.toList = [] <;> cases b <;> cases c <;> cases d <;> simp [q]
theorem field_fix (a : ByteArray) (b c d : Bool) (W : World) : (Instr.field 44 (.agg #[.string a, .bool b, .bool c, .bool d]) 3).run Tryz.prog W = .ok (.bool d) W := by kernel_rfl
set_option maxRecDepth 100000 in
set_option maxHeartbeats 8000000 in
theorem Unset_calls (K : Ctx) (n : Now) (k : ByteArray) (w : World) (R : Hp) (hk : k.size ≤ maxLen) (hN : n.N ≤ 1000000) (hms : n.ms.length ≤ 1000000) (h : SAt K w n R) :
    Calls Tryz.prog 17 #[pp K.sb, .string k] w (Lays K w R (n.unsetP K.most k)) := by
  have HNm := Lib.hid (fun w => named_calls K.sb k w hk)
  obtain ⟨r, hr⟩ : ∃ r, r = n.unsetP K.most k := ⟨_, rfl⟩
  rw [← hr]
  obtain ⟨en, hen⟩ : ∃ en, en = errName k := ⟨_, rfl⟩
  rw [← hen] at HNm
  unfold errName at hen
  unfold Now.unsetP at hr
  have H0 := Lib.hid h
  obtain ⟨c0, c1, c2, c3, c4, c5, c6, cz⟩ := h.cells
  have HV := Lib.hid (Var_calls K n k w R hk h)
  obtain ⟨x, hx⟩ : ∃ x, x = n.s.var k := ⟨_, rfl⟩
  rw [← hx] at HV hr
  have Hr := Lib.hid hr
  clear h hx hr
  cases hn : isName k with
  | false =>
    have hr := Hr.out
    rw [if_pos hn] at hr hen
    subst hr hen
    clear hn
    go_enter Tryz.func17, Tryz.ntmps17
    go_wp2_with fail
    refine (HNm.out w).mono ?_
    rintro e w3 ⟨rfl, rfl⟩
    go_wp2_with fail
    go_ret
    exact Lays.same H0.out (Below.refl 0 w)
  | true =>
    have hr := Hr.out
    rw [if_neg (by rw [hn]; decide)] at hr hen
    subst hen
    have Hr := Lib.hid hr
    clear hn hr
    go_enter Tryz.func17, Tryz.ntmps17
    go_wp2_with fail
    refine (HNm.out w).mono ?_
    rintro e w3 ⟨rfl, rfl⟩
    go_wp2_with fail
    refine HV.out.mono ?_
    rintro e w1 ⟨rfl, hB⟩
    have S1 := H0.out.below hB
    have R1 : Ran w w1 := hB.mono (Nat.zero_le _)
    clear c0 c1 c2 c3 c4 c5 c6 cz
    obtain ⟨c0, c1, c2, c3, c4, c5, c6, cz⟩ := S1.cells
    have R1 := Lib.hid R1
    have hr := Hr.out
    have hfd := field_fix
    cases hf : x.fix with
    | true =>
      rw [if_pos hf] at hr
      subst hr
      have S1 := Lib.hid S1
      clear hB HV H0
      go_wp2_with fail
      go_ret
      exact Lays.same S1.out R1.out
    | false =>
      rw [if_neg (by rw [hf]; decide)] at hr
      unfold Now.delV at hr
      cases hs : (n.s.V k).isSome with
      | false =>
        rw [if_pos hs] at hr
        subst hr
        have HD := Lib.hid (idleV K w1 n R k hk hs S1)
        have S1 := Lib.hid S1
        clear hB HV H0 hs
        go_wp2_with fail
        refine HD.out.mono ?_
        rintro e w4 ⟨rfl, hB4⟩
        have S4 := Lib.hid (S1.out.below hB4)
        have R4 := Lib.hid (Below.trans R1.out (hB4.mono (Nat.zero_le _)))
        clear hB4
        go_wp2_with fail
        go_ret
        exact Lays.same S4.out R4.out
      | true =>
        rw [if_neg (by rw [hs]; decide)] at hr
        subst hr
        have HD := Lib.hid (ndelV K w1 n R k hk hN hms hs S1)
        clear hB HV H0 hs S1
        go_wp2_with fail
        refine HD.out.mono ?_
        rintro e w4 ⟨⟨rfl, S4⟩, R4⟩
        have S4 := Lib.hid S4
        have R4 := Lib.hid (Below.trans R1.out R4)
        go_wp2_with fail
        go_ret
        exact ⟨⟨rfl, S4.out⟩, R4.out⟩
set_option maxRecDepth 100000 in
set_option maxHeartbeats 8000000 in
theorem Mark_calls (K : Ctx) (n : Now) (k : ByteArray) (ex fx : Bool) (w : World) (R : Hp) (hk : k.size ≤ maxLen) (hN : n.N ≤ 1000000) (hms : n.ms.length ≤ 1000000) (h : SAt K w n R) :
    Calls Tryz.prog 16 #[pp K.sb, .string k, .bool ex, .bool fx] w (Lays K w R (n.markP K.most k ex fx)) := by
  have HNm := Lib.hid (fun w => named_calls K.sb k w hk)
  obtain ⟨r, hr⟩ : ∃ r, r = n.markP K.most k ex fx := ⟨_, rfl⟩
  rw [← hr]
  obtain ⟨en, hen⟩ : ∃ en, en = errName k := ⟨_, rfl⟩
  rw [← hen] at HNm
  unfold errName at hen
  unfold Now.markP at hr
  have H0 := Lib.hid h
  have HV := Lib.hid (Var_calls K n k w R hk h)
  obtain ⟨x, hx⟩ : ∃ x, x = n.s.var k := ⟨_, rfl⟩
  rw [← hx] at HV hr
  have Hr := Lib.hid hr
  clear h hx hr
  cases hn : isName k with
  | false =>
    have hr := Hr.out
    rw [if_pos hn] at hr hen
    subst hr hen
    clear hn
    go_enter Tryz.func16, Tryz.ntmps16
    go_wp2_with fail
    refine (HNm.out w).mono ?_
    rintro e w3 ⟨rfl, rfl⟩
    go_wp2_with fail
    go_ret
    exact Lays.same H0.out (Below.refl 0 w)
  | true =>
    have hr := Hr.out
    rw [if_neg (by rw [hn]; decide)] at hr hen
    subst hen
    have Hr := Lib.hid hr
    clear hn hr
    go_enter Tryz.func16, Tryz.ntmps16
    go_wp2_with fail
    refine (HNm.out w).mono ?_
    rintro e w3 ⟨rfl, rfl⟩
    go_wp2_with fail
    refine HV.out.mono ?_
    rintro e w1 ⟨rfl, hB⟩
    have S1 := (H0.out.below hB).alloc (VM.boxO x)
    have R1 : Ran w (w1.alloc (VM.boxO x)) := Ran.new (hB.mono (Nat.zero_le _)) _
    obtain ⟨w2, hw2⟩ : ∃ w2, w2 = w1.alloc (VM.boxO x) := ⟨_, rfl⟩
    obtain ⟨xb, hxb⟩ : ∃ b, b = w1.heap.size := ⟨_, rfl⟩
    rw [← hw2, ← hxb] at S1
    rw [← hw2] at R1
    obtain ⟨e0, e1, e2, e3⟩ := VM.box_cells S1.rest
    have ez : ∀ i, w2.frozen? ⟨xb, i, none⟩ = false := fun i => free_at S1.rest.get i
    obtain ⟨c0, c1, c2, c3, c4, c5, c6, cz⟩ := S1.cells
    have S2 := Lib.hid S1
    have R2 := Lib.hid R1
    clear H0 HV hB S1 R1
    go_upto_region 5 with fail
    rw [← hw2, ← hxb]
    clear hw2 hxb
    have hr := Hr.out
    cases hxe : x.exp with
    | true =>
      rw [hxe] at e2
      rw [hxe, Bool.true_or] at hr
      cases hxf : x.fix with
      | true =>
        rw [hxf] at e3
        rw [hxf, Bool.true_or] at hr
        have Hr := Lib.hid hr
        clear hr
        go_upto_region 6 with fail
        have HS3 : SAt K ((w2.setCell ⟨xb, 2, none⟩ (.bool true)).setCell ⟨xb, 3, none⟩ (.bool true)) n (pts xb (VM.boxO (⟨x.val, x.set, true, true⟩ : VM.T)) * R) := by
          obtain ⟨X, hX1, hX2⟩ := S2.out.frame
          refine hX2 _ _ ?_
          have := ((hX1.perm (show _ = pts xb (VM.boxO x) * (X * R) by ac_rfl)).set (i := 2) (.bool true)).set (i := 3) (.bool true)
          exact this.perm (by show pts xb (VM.boxO (⟨x.val, x.set, true, true⟩ : VM.T)) * _ = _; ac_rfl)
        obtain ⟨w3, hw3⟩ : ∃ w3, w3 = (w2.setCell ⟨xb, 2, none⟩ (.bool true)).setCell ⟨xb, 3, none⟩ (.bool true) := ⟨_, rfl⟩
        have R3 : Ran w w3 := by rw [hw3]; exact Ran.set (Ran.set R2.out _ _) _ _
        rw [← hw3] at HS3 ⊢
        clear hw3 S2 R2 e0 e1 e2 e3 c0 c1 c2 c3 c4 c5 c6 cz
        obtain ⟨y, hy⟩ : ∃ y, y = (⟨x.val, x.set, true, true⟩ : VM.T) := ⟨_, rfl⟩
        have hr := Hr.out
        rw [← hy] at HS3 hr
        obtain ⟨e0, e1, e2, e3⟩ := VM.box_cells HS3.rest
        obtain ⟨c0, c1, c2, c3, c4, c5, c6, cz⟩ := HS3.cells
        clear hy Hr
        have R3 := Lib.hid R3
        have hnils := nil_cases y
        cases hnv : nilVar y with
        | true =>
          rw [if_pos hnv] at hr
          subst hr
          obtain ⟨h0, h1, h2, h3⟩ := hnils.1 hnv
          rw [h1] at e1
          rw [h2] at e2
          rw [h3] at e3
          have HS3 := Lib.hid HS3
          clear hnv hnils h1 h2 h3
          go_wp2_with fail
          go_ret
          exact Lays.same HS3.out.right R3.out
        | false =>
          rw [if_neg (by rw [hnv]; decide)] at hr
          subst hr
          have HSt := Lib.hid (nsetV K w3.drew n _ k y hk hN hms HS3.drew)
          have hns := hnils.2 hnv
          have Hy : Hid (VM.enc y = .agg #[.string y.val, .bool y.set, .bool y.exp, .bool y.fix]) := Lib.hid rfl
          clear hnv hnils HS3
          rcases hns with h0 | ⟨h0, h1⟩ | ⟨h0, h1, h2⟩ | ⟨h0, h1, h2, h3⟩
          all_goals
            have He1 := Lib.hid e1
            have He2 := Lib.hid e2
            have He3 := Lib.hid e3
            try rw [h1] at e1
            try rw [h2] at e2
            try rw [h3] at e3
            go_wp2_with fail
            clear e1 e2 e3
            have e1 := He1.out
            have e2 := He2.out
            have e3 := He3.out
            clear h0
            try clear h1
            try clear h2
            try clear h3
            refine region_plan (S := (fun w' => w'.cell? ⟨K.sb, 0, none⟩ = some (pp K.P.vb) ∧ w'.cell? ⟨xb, 0, none⟩ = some (.string y.val) ∧ w'.cell? ⟨xb, 1, none⟩ = some (.bool y.set) ∧ w'.cell? ⟨xb, 2, none⟩ = some (.bool y.exp) ∧ w'.cell? ⟨xb, 3, none⟩ = some (.bool y.fix))) [(0, true), (1, true), (2, true), (3, true), (4, true), (5, true), (6, false), (7, true)] (by kernel_rfl) (by kernel_rfl) (by kernel_rfl) ?_ ?_
            · ((try dsimp only); (first | done | (first | exact ⟨c0, e0, e1, e2, e3⟩ | exact ⟨hz0, hz2⟩)))
            simp only [planOps, List.map_cons, List.map_nil, List.getElem?_toArray, List.getElem?_cons_zero, List.getElem?_cons_succ]
            repeat (first
              | ((refine plan_yes (v := ?_) (by rfl) ?_ ?_); rotate_left; (focus (intro w hSw; (try dsimp only at hSw); go_simp; try (with_reducible rfl))); (try simp only [Act.put, List.setIfInBounds_toArray, List.set_cons_zero, List.set_cons_succ]))
              | ((refine plan_no (by rfl) ?_); (try simp only [Act.put, List.setIfInBounds_toArray, List.set_cons_zero, List.set_cons_succ]))
              | ((refine plan_step (fun K hK => ?_)); (first | (go_simp; (go_at_call 46; refine HSt.out.mono ?_; rintro e w4 ⟨⟨rfl, hS⟩, hR⟩; obtain ⟨hz0, -⟩ := hS.cells; have hz2 := VM.box_cells hS.rest; have HS := Lib.hid hS; have HRn := Lib.hid hR; clear hS hR); (try go_wp2_with fail)) | go_simp); (refine hK.out _ _ ?_ (fun hHeld => ?_)); (focus ((try dsimp only); (first | done | (first | exact ⟨c0, e0, e1, e2, e3⟩ | exact ⟨hz0, hz2⟩)))); clear hK K; (try simp only [Act.put, List.setIfInBounds_toArray, List.set_cons_zero, List.set_cons_succ])))
            refine plan_done ?_
            go_wp2_with fail
            go_ret
            exact ⟨⟨rfl, HS.out.right⟩, Below.trans (Below.drew R3.out) HRn.out⟩
      | false =>
        rw [hxf] at e3
        rw [hxf, Bool.false_or] at hr
        have Hr := Lib.hid hr
        clear hr
        go_upto_region 6 with fail
        have HS3 : SAt K ((w2.setCell ⟨xb, 2, none⟩ (.bool true)).setCell ⟨xb, 3, none⟩ (.bool fx)) n (pts xb (VM.boxO (⟨x.val, x.set, true, fx⟩ : VM.T)) * R) := by
          obtain ⟨X, hX1, hX2⟩ := S2.out.frame
          refine hX2 _ _ ?_
          have := ((hX1.perm (show _ = pts xb (VM.boxO x) * (X * R) by ac_rfl)).set (i := 2) (.bool true)).set (i := 3) (.bool fx)
          exact this.perm (by show pts xb (VM.boxO (⟨x.val, x.set, true, fx⟩ : VM.T)) * _ = _; ac_rfl)
        obtain ⟨w3, hw3⟩ : ∃ w3, w3 = (w2.setCell ⟨xb, 2, none⟩ (.bool true)).setCell ⟨xb, 3, none⟩ (.bool fx) := ⟨_, rfl⟩
        have R3 : Ran w w3 := by rw [hw3]; exact Ran.set (Ran.set R2.out _ _) _ _
        rw [← hw3] at HS3 ⊢
        clear hw3 S2 R2 e0 e1 e2 e3 c0 c1 c2 c3 c4 c5 c6 cz
        obtain ⟨y, hy⟩ : ∃ y, y = (⟨x.val, x.set, true, fx⟩ : VM.T) := ⟨_, rfl⟩
        have hr := Hr.out
        rw [← hy] at HS3 hr
        obtain ⟨e0, e1, e2, e3⟩ := VM.box_cells HS3.rest
        obtain ⟨c0, c1, c2, c3, c4, c5, c6, cz⟩ := HS3.cells
        clear hy Hr
        have R3 := Lib.hid R3
        have hnils := nil_cases y
        cases hnv : nilVar y with
        | true =>
          rw [if_pos hnv] at hr
          subst hr
          obtain ⟨h0, h1, h2, h3⟩ := hnils.1 hnv
          rw [h1] at e1
          rw [h2] at e2
          rw [h3] at e3
          have HS3 := Lib.hid HS3
          clear hnv hnils h1 h2 h3
          go_wp2_with fail
          go_ret
          exact Lays.same HS3.out.right R3.out
        | false =>
          rw [if_neg (by rw [hnv]; decide)] at hr
          subst hr
          have HSt := Lib.hid (nsetV K w3.drew n _ k y hk hN hms HS3.drew)
          have hns := hnils.2 hnv
          have Hy : Hid (VM.enc y = .agg #[.string y.val, .bool y.set, .bool y.exp, .bool y.fix]) := Lib.hid rfl
          clear hnv hnils HS3
          rcases hns with h0 | ⟨h0, h1⟩ | ⟨h0, h1, h2⟩ | ⟨h0, h1, h2, h3⟩
          all_goals
            have He1 := Lib.hid e1
            have He2 := Lib.hid e2
            have He3 := Lib.hid e3
            try rw [h1] at e1
            try rw [h2] at e2
            try rw [h3] at e3
            go_wp2_with fail
            clear e1 e2 e3
            have e1 := He1.out
            have e2 := He2.out
            have e3 := He3.out
            clear h0
            try clear h1
            try clear h2
            try clear h3
            refine region_plan (S := (fun w' => w'.cell? ⟨K.sb, 0, none⟩ = some (pp K.P.vb) ∧ w'.cell? ⟨xb, 0, none⟩ = some (.string y.val) ∧ w'.cell? ⟨xb, 1, none⟩ = some (.bool y.set) ∧ w'.cell? ⟨xb, 2, none⟩ = some (.bool y.exp) ∧ w'.cell? ⟨xb, 3, none⟩ = some (.bool y.fix))) [(0, true), (1, true), (2, true), (3, true), (4, true), (5, true), (6, false), (7, true)] (by kernel_rfl) (by kernel_rfl) (by kernel_rfl) ?_ ?_
            · ((try dsimp only); (first | done | (first | exact ⟨c0, e0, e1, e2, e3⟩ | exact ⟨hz0, hz2⟩)))
            simp only [planOps, List.map_cons, List.map_nil, List.getElem?_toArray, List.getElem?_cons_zero, List.getElem?_cons_succ]
            repeat (first
              | ((refine plan_yes (v := ?_) (by rfl) ?_ ?_); rotate_left; (focus (intro w hSw; (try dsimp only at hSw); go_simp; try (with_reducible rfl))); (try simp only [Act.put, List.setIfInBounds_toArray, List.set_cons_zero, List.set_cons_succ]))
              | ((refine plan_no (by rfl) ?_); (try simp only [Act.put, List.setIfInBounds_toArray, List.set_cons_zero, List.set_cons_succ]))
              | ((refine plan_step (fun K hK => ?_)); (first | (go_simp; (go_at_call 46; refine HSt.out.mono ?_; rintro e w4 ⟨⟨rfl, hS⟩, hR⟩; obtain ⟨hz0, -⟩ := hS.cells; have hz2 := VM.box_cells hS.rest; have HS := Lib.hid hS; have HRn := Lib.hid hR; clear hS hR); (try go_wp2_with fail)) | go_simp); (refine hK.out _ _ ?_ (fun hHeld => ?_)); (focus ((try dsimp only); (first | done | (first | exact ⟨c0, e0, e1, e2, e3⟩ | exact ⟨hz0, hz2⟩)))); clear hK K; (try simp only [Act.put, List.setIfInBounds_toArray, List.set_cons_zero, List.set_cons_succ])))
            refine plan_done ?_
            go_wp2_with fail
            go_ret
            exact ⟨⟨rfl, HS.out.right⟩, Below.trans (Below.drew R3.out) HRn.out⟩
    | false =>
      rw [hxe] at e2
      rw [hxe, Bool.false_or] at hr
      cases hxf : x.fix with
      | true =>
        rw [hxf] at e3
        rw [hxf, Bool.true_or] at hr
        have Hr := Lib.hid hr
        clear hr
        go_upto_region 6 with fail
        have HS3 : SAt K ((w2.setCell ⟨xb, 2, none⟩ (.bool ex)).setCell ⟨xb, 3, none⟩ (.bool true)) n (pts xb (VM.boxO (⟨x.val, x.set, ex, true⟩ : VM.T)) * R) := by
          obtain ⟨X, hX1, hX2⟩ := S2.out.frame
          refine hX2 _ _ ?_
          have := ((hX1.perm (show _ = pts xb (VM.boxO x) * (X * R) by ac_rfl)).set (i := 2) (.bool ex)).set (i := 3) (.bool true)
          exact this.perm (by show pts xb (VM.boxO (⟨x.val, x.set, ex, true⟩ : VM.T)) * _ = _; ac_rfl)
        obtain ⟨w3, hw3⟩ : ∃ w3, w3 = (w2.setCell ⟨xb, 2, none⟩ (.bool ex)).setCell ⟨xb, 3, none⟩ (.bool true) := ⟨_, rfl⟩
        have R3 : Ran w w3 := by rw [hw3]; exact Ran.set (Ran.set R2.out _ _) _ _
        rw [← hw3] at HS3 ⊢
        clear hw3 S2 R2 e0 e1 e2 e3 c0 c1 c2 c3 c4 c5 c6 cz
        obtain ⟨y, hy⟩ : ∃ y, y = (⟨x.val, x.set, ex, true⟩ : VM.T) := ⟨_, rfl⟩
        have hr := Hr.out
        rw [← hy] at HS3 hr
        obtain ⟨e0, e1, e2, e3⟩ := VM.box_cells HS3.rest
        obtain ⟨c0, c1, c2, c3, c4, c5, c6, cz⟩ := HS3.cells
        clear hy Hr
        have R3 := Lib.hid R3
        have hnils := nil_cases y
        cases hnv : nilVar y with
        | true =>
          rw [if_pos hnv] at hr
          subst hr
          obtain ⟨h0, h1, h2, h3⟩ := hnils.1 hnv
          rw [h1] at e1
          rw [h2] at e2
          rw [h3] at e3
          have HS3 := Lib.hid HS3
          clear hnv hnils h1 h2 h3
          go_wp2_with fail
          go_ret
          exact Lays.same HS3.out.right R3.out
        | false =>
          rw [if_neg (by rw [hnv]; decide)] at hr
          subst hr
          have HSt := Lib.hid (nsetV K w3.drew n _ k y hk hN hms HS3.drew)
          have hns := hnils.2 hnv
          have Hy : Hid (VM.enc y = .agg #[.string y.val, .bool y.set, .bool y.exp, .bool y.fix]) := Lib.hid rfl
          clear hnv hnils HS3
          rcases hns with h0 | ⟨h0, h1⟩ | ⟨h0, h1, h2⟩ | ⟨h0, h1, h2, h3⟩
          all_goals
            have He1 := Lib.hid e1
            have He2 := Lib.hid e2
            have He3 := Lib.hid e3
            try rw [h1] at e1
            try rw [h2] at e2
            try rw [h3] at e3
            go_wp2_with fail
            clear e1 e2 e3
            have e1 := He1.out
            have e2 := He2.out
            have e3 := He3.out
            clear h0
            try clear h1
            try clear h2
            try clear h3
            refine region_plan (S := (fun w' => w'.cell? ⟨K.sb, 0, none⟩ = some (pp K.P.vb) ∧ w'.cell? ⟨xb, 0, none⟩ = some (.string y.val) ∧ w'.cell? ⟨xb, 1, none⟩ = some (.bool y.set) ∧ w'.cell? ⟨xb, 2, none⟩ = some (.bool y.exp) ∧ w'.cell? ⟨xb, 3, none⟩ = some (.bool y.fix))) [(0, true), (1, true), (2, true), (3, true), (4, true), (5, true), (6, false), (7, true)] (by kernel_rfl) (by kernel_rfl) (by kernel_rfl) ?_ ?_
            · ((try dsimp only); (first | done | (first | exact ⟨c0, e0, e1, e2, e3⟩ | exact ⟨hz0, hz2⟩)))
            simp only [planOps, List.map_cons, List.map_nil, List.getElem?_toArray, List.getElem?_cons_zero, List.getElem?_cons_succ]
            repeat (first
              | ((refine plan_yes (v := ?_) (by rfl) ?_ ?_); rotate_left; (focus (intro w hSw; (try dsimp only at hSw); go_simp; try (with_reducible rfl))); (try simp only [Act.put, List.setIfInBounds_toArray, List.set_cons_zero, List.set_cons_succ]))
              | ((refine plan_no (by rfl) ?_); (try simp only [Act.put, List.setIfInBounds_toArray, List.set_cons_zero, List.set_cons_succ]))
              | ((refine plan_step (fun K hK => ?_)); (first | (go_simp; (go_at_call 46; refine HSt.out.mono ?_; rintro e w4 ⟨⟨rfl, hS⟩, hR⟩; obtain ⟨hz0, -⟩ := hS.cells; have hz2 := VM.box_cells hS.rest; have HS := Lib.hid hS; have HRn := Lib.hid hR; clear hS hR); (try go_wp2_with fail)) | go_simp); (refine hK.out _ _ ?_ (fun hHeld => ?_)); (focus ((try dsimp only); (first | done | (first | exact ⟨c0, e0, e1, e2, e3⟩ | exact ⟨hz0, hz2⟩)))); clear hK K; (try simp only [Act.put, List.setIfInBounds_toArray, List.set_cons_zero, List.set_cons_succ])))
            refine plan_done ?_
            go_wp2_with fail
            go_ret
            exact ⟨⟨rfl, HS.out.right⟩, Below.trans (Below.drew R3.out) HRn.out⟩
      | false =>
        rw [hxf] at e3
        rw [hxf, Bool.false_or] at hr
        have Hr := Lib.hid hr
        clear hr
        go_upto_region 6 with fail
        have HS3 : SAt K ((w2.setCell ⟨xb, 2, none⟩ (.bool ex)).setCell ⟨xb, 3, none⟩ (.bool fx)) n (pts xb (VM.boxO (⟨x.val, x.set, ex, fx⟩ : VM.T)) * R) := by
          obtain ⟨X, hX1, hX2⟩ := S2.out.frame
          refine hX2 _ _ ?_
          have := ((hX1.perm (show _ = pts xb (VM.boxO x) * (X * R) by ac_rfl)).set (i := 2) (.bool ex)).set (i := 3) (.bool fx)
          exact this.perm (by show pts xb (VM.boxO (⟨x.val, x.set, ex, fx⟩ : VM.T)) * _ = _; ac_rfl)
        obtain ⟨w3, hw3⟩ : ∃ w3, w3 = (w2.setCell ⟨xb, 2, none⟩ (.bool ex)).setCell ⟨xb, 3, none⟩ (.bool fx) := ⟨_, rfl⟩
        have R3 : Ran w w3 := by rw [hw3]; exact Ran.set (Ran.set R2.out _ _) _ _
        rw [← hw3] at HS3 ⊢
        clear hw3 S2 R2 e0 e1 e2 e3 c0 c1 c2 c3 c4 c5 c6 cz
        obtain ⟨y, hy⟩ : ∃ y, y = (⟨x.val, x.set, ex, fx⟩ : VM.T) := ⟨_, rfl⟩
        have hr := Hr.out
        rw [← hy] at HS3 hr
        obtain ⟨e0, e1, e2, e3⟩ := VM.box_cells HS3.rest
        obtain ⟨c0, c1, c2, c3, c4, c5, c6, cz⟩ := HS3.cells
        clear hy Hr
        have R3 := Lib.hid R3
        have hnils := nil_cases y
        cases hnv : nilVar y with
        | true =>
          rw [if_pos hnv] at hr
          subst hr
          obtain ⟨h0, h1, h2, h3⟩ := hnils.1 hnv
          rw [h1] at e1
          rw [h2] at e2
          rw [h3] at e3
          have HS3 := Lib.hid HS3
          clear hnv hnils h1 h2 h3
          go_wp2_with fail
          go_ret
          exact Lays.same HS3.out.right R3.out
        | false =>
          rw [if_neg (by rw [hnv]; decide)] at hr
          subst hr
          have HSt := Lib.hid (nsetV K w3.drew n _ k y hk hN hms HS3.drew)
          have hns := hnils.2 hnv
          have Hy : Hid (VM.enc y = .agg #[.string y.val, .bool y.set, .bool y.exp, .bool y.fix]) := Lib.hid rfl
          clear hnv hnils HS3
          rcases hns with h0 | ⟨h0, h1⟩ | ⟨h0, h1, h2⟩ | ⟨h0, h1, h2, h3⟩
          all_goals
            have He1 := Lib.hid e1
            have He2 := Lib.hid e2
            have He3 := Lib.hid e3
            try rw [h1] at e1
            try rw [h2] at e2
            try rw [h3] at e3
            go_wp2_with fail
            clear e1 e2 e3
            have e1 := He1.out
            have e2 := He2.out
            have e3 := He3.out
            clear h0
            try clear h1
            try clear h2
            try clear h3
            refine region_plan (S := (fun w' => w'.cell? ⟨K.sb, 0, none⟩ = some (pp K.P.vb) ∧ w'.cell? ⟨xb, 0, none⟩ = some (.string y.val) ∧ w'.cell? ⟨xb, 1, none⟩ = some (.bool y.set) ∧ w'.cell? ⟨xb, 2, none⟩ = some (.bool y.exp) ∧ w'.cell? ⟨xb, 3, none⟩ = some (.bool y.fix))) [(0, true), (1, true), (2, true), (3, true), (4, true), (5, true), (6, false), (7, true)] (by kernel_rfl) (by kernel_rfl) (by kernel_rfl) ?_ ?_
            · ((try dsimp only); (first | done | (first | exact ⟨c0, e0, e1, e2, e3⟩ | exact ⟨hz0, hz2⟩)))
            simp only [planOps, List.map_cons, List.map_nil, List.getElem?_toArray, List.getElem?_cons_zero, List.getElem?_cons_succ]
            repeat (first
              | ((refine plan_yes (v := ?_) (by rfl) ?_ ?_); rotate_left; (focus (intro w hSw; (try dsimp only at hSw); go_simp; try (with_reducible rfl))); (try simp only [Act.put, List.setIfInBounds_toArray, List.set_cons_zero, List.set_cons_succ]))
              | ((refine plan_no (by rfl) ?_); (try simp only [Act.put, List.setIfInBounds_toArray, List.set_cons_zero, List.set_cons_succ]))
              | ((refine plan_step (fun K hK => ?_)); (first | (go_simp; (go_at_call 46; refine HSt.out.mono ?_; rintro e w4 ⟨⟨rfl, hS⟩, hR⟩; obtain ⟨hz0, -⟩ := hS.cells; have hz2 := VM.box_cells hS.rest; have HS := Lib.hid hS; have HRn := Lib.hid hR; clear hS hR); (try go_wp2_with fail)) | go_simp); (refine hK.out _ _ ?_ (fun hHeld => ?_)); (focus ((try dsimp only); (first | done | (first | exact ⟨c0, e0, e1, e2, e3⟩ | exact ⟨hz0, hz2⟩)))); clear hK K; (try simp only [Act.put, List.setIfInBounds_toArray, List.set_cons_zero, List.set_cons_succ])))
            refine plan_done ?_
            go_wp2_with fail
            go_ret
            exact ⟨⟨rfl, HS.out.right⟩, Below.trans (Below.drew R3.out) HRn.out⟩
end Go.Proofs.YtlmjidandjemjaaGreatDoor.State

namespace Go.Proofs.YtlmjidandjemjaaGreatDoor.State
open Go.RowKit Go.Proofs.YtlmjidandjemjaaGreatDoor Go.Proofs.YtlmjidandjemjaaGreatDoor.Hp Go.Proofs.YtlmjidandjemjaaGreatDoor.Undo
set_option linter.unusedVariables false
attribute [local go_sem] Oper.semAt_some

theorem below_drewN {B : Nat} {a w : World} (h : Below B a w) (n : Nat) : Below B a (w.drewN n) := h.trans ⟨rfl, rfl, rfl, Nat.le_refl _, fun _ _ => rfl⟩
set_option maxRecDepth 100000 in
set_option maxHeartbeats 8000000 in
theorem Get_calls (K : Ctx) (n : Now) (k : ByteArray) (w : World) (R : Hp) (hk : k.size ≤ maxLen) (h : SAt K w n R) :
    Calls Tryz.prog 92 #[pp K.sb, .string k] w fun e w' => e = .returned (.tuple #[.string (n.s.var k).val, .bool (n.s.var k).set]) ∧ Below w.heap.size w w' := by
  have HV := Lib.hid (Var_calls K n k w R hk h)
  obtain ⟨x, hx⟩ : ∃ x, x = n.s.var k := ⟨_, rfl⟩
  rw [← hx] at HV ⊢
  have H0 := Lib.hid h
  clear h hx
  go_enter Tryz.func92, Tryz.ntmps92
  go_wp2_with fail
  refine HV.out.mono ?_
  rintro e w1 ⟨rfl, hB⟩
  have S1 := (H0.out.below hB).alloc (VM.boxO x)
  have hB2 := hB.alloc hB.size (VM.boxO x)
  obtain ⟨w2, hw2⟩ : ∃ w2, w2 = w1.alloc (VM.boxO x) := ⟨_, rfl⟩
  obtain ⟨xb, hxb⟩ : ∃ b, b = w1.heap.size := ⟨_, rfl⟩
  rw [← hw2, ← hxb] at S1
  rw [← hw2] at hB2
  obtain ⟨e0, e1, e2, e3⟩ := VM.box_cells S1.rest
  have HB2 := Lib.hid hB2
  clear H0 HV hB S1 hB2
  go_upto_region 2 with fail
  rw [← hw2, ← hxb]
  clear hw2 hxb
  go_wp2_with fail
  go_quiet (fail)
  go_wp2_with fail
  go_ret2
  exact ⟨rfl, below_drewN HB2.out _⟩
set_option maxRecDepth 100000 in
set_option maxHeartbeats 8000000 in
theorem Put_calls (K : Ctx) (n : Now) (k : ByteArray) (v : VM.T) (w : World) (R : Hp) (hk : k.size ≤ maxLen) (hN : n.N ≤ 1000000) (hms : n.ms.length ≤ 1000000) (h : SAt K w n R) :
    Calls Tryz.prog 71 #[pp K.sb, .string k, .agg #[.string v.val, .bool v.set, .bool v.exp, .bool v.fix]] w (Lays K w R (n.putP K.most k v)) := by
  obtain ⟨r, hr⟩ : ∃ r, r = n.putP K.most k v := ⟨_, rfl⟩
  rw [← hr]
  have HNm := Lib.hid (fun w => named_calls K.sb k w hk)
  obtain ⟨en, hen⟩ : ∃ en, en = errName k := ⟨_, rfl⟩
  rw [← hen] at HNm
  unfold errName at hen
  unfold Now.putP at hr
  have Hr := Lib.hid hr
  clear hr
  have S1 := h.alloc (VM.boxO v)
  have R1 : Ran w (w.alloc (VM.boxO v)) := Ran.new (Below.refl 0 w) _
  obtain ⟨w2, hw2⟩ : ∃ w2, w2 = w.alloc (VM.boxO v) := ⟨_, rfl⟩
  obtain ⟨xb, hxb⟩ : ∃ b, b = w.heap.size := ⟨_, rfl⟩
  rw [← hw2, ← hxb] at S1
  rw [← hw2] at R1
  have S2 := Lib.hid S1
  have R2 := Lib.hid R1
  clear h R1
  cases hn : isName k with
  | false =>
    have hr := Hr.out
    rw [if_pos hn] at hr hen
    subst hr hen
    clear hn S1 Hr hN hms
    go_enter Tryz.func71, Tryz.ntmps71
    go_upto_region 1 with fail
    rw [← hw2, ← hxb]
    clear hw2 hxb
    go_wp2_with fail
    refine (HNm.out w2).mono ?_
    rintro e w3 ⟨rfl, rfl⟩
    go_wp2_with fail
    go_ret
    exact Lays.same S2.out.right R2.out
  | true =>
    have hr := Hr.out
    rw [if_neg (by rw [hn]; decide)] at hr hen
    subst hen
    dsimp only at hr
    have HrA := Lib.hid hr
    clear hn hr Hr
    obtain ⟨e0, e1, e2, e3⟩ := VM.box_cells S1.rest
    have ez : ∀ i, w2.frozen? ⟨xb, i, none⟩ = false := fun i => free_at S1.rest.get i
    clear S1
    go_enter Tryz.func71, Tryz.ntmps71
    go_upto_region 1 with fail
    rw [← hw2, ← hxb]
    clear hw2 hxb
    go_wp2_with fail
    refine (HNm.out w2).mono ?_
    rintro e w3 ⟨rfl, rfl⟩
    cases hvs : v.set with
    | true =>
      rw [hvs] at e1
      go_upto_region 6 with fail
      have hr := HrA.out
      rw [if_pos hvs] at hr
      have HS3 := S2.out
      have R3 := R2.out
      obtain ⟨w3, hw3⟩ : ∃ w3, w3 = w2 := ⟨_, rfl⟩
      obtain ⟨y, hy⟩ : ∃ y, y = v := ⟨_, rfl⟩
      rw [← hw3] at HS3 R3 ⊢
      rw [← hy] at HS3 hr
      clear hw3 hy S2 R2 e0 e1 e2 e3 ez HrA
      have R3 := Lib.hid R3
      obtain ⟨e0, e1, e2, e3⟩ := VM.box_cells HS3.rest
      obtain ⟨c0, c1, c2, c3, c4, c5, c6, cz⟩ := HS3.cells
      have hnils := nil_cases y
      cases hnv : nilVar y with
      | true =>
        rw [if_pos hnv] at hr
        unfold Now.delV at hr
        obtain ⟨h0, h1, h2, h3⟩ := hnils.1 hnv
        rw [h1] at e1
        rw [h2] at e2
        rw [h3] at e3
        clear hnv hnils h1 h2 h3
        cases hs : (n.s.V k).isSome with
        | false =>
          rw [if_pos hs] at hr
          subst hr
          have HD := Lib.hid (idleV K w3 n _ k hk hs HS3)
          have HS3 := Lib.hid HS3
          clear hs hN hms
          go_wp2_with fail
          refine HD.out.mono ?_
          rintro e w4 ⟨rfl, hB4⟩
          have S4 := Lib.hid (HS3.out.below hB4)
          have R4 := Lib.hid (Below.trans R3.out (hB4.mono (Nat.zero_le _)))
          clear hB4
          go_wp2_with fail
          go_ret
          exact Lays.same S4.out.right R4.out
        | true =>
          rw [if_neg (by rw [hs]; decide)] at hr
          subst hr
          have HD := Lib.hid (ndelV K w3 n _ k hk hN hms hs HS3)
          clear hs hN hms HS3
          go_wp2_with fail
          refine HD.out.mono ?_
          rintro e w4 ⟨⟨rfl, S4⟩, R4⟩
          have S4 := Lib.hid S4
          have R4 := Lib.hid (Below.trans R3.out R4)
          go_wp2_with fail
          go_ret
          exact ⟨⟨rfl, S4.out.right⟩, R4.out⟩
      | false =>
        rw [if_neg (by rw [hnv]; decide)] at hr
        subst hr
        have HSt := Lib.hid (nsetV K w3.drew n _ k y hk hN hms HS3.drew)
        have hns := hnils.2 hnv
        clear hnv hnils HS3
        rcases hns with h0 | ⟨h0, h1⟩ | ⟨h0, h1, h2⟩ | ⟨h0, h1, h2, h3⟩
        all_goals
          have He1 := Lib.hid e1
          have He2 := Lib.hid e2
          have He3 := Lib.hid e3
          try rw [h1] at e1
          try rw [h2] at e2
          try rw [h3] at e3
          go_wp2_with fail
          clear e1 e2 e3
          have e1 := He1.out
          have e2 := He2.out
          have e3 := He3.out
          clear h0
          try clear h1
          try clear h2
          try clear h3
          refine region_plan (S := (fun w' => w'.cell? ⟨K.sb, 0, none⟩ = some (pp K.P.vb) ∧ w'.cell? ⟨xb, 0, none⟩ = some (.string y.val) ∧ w'.cell? ⟨xb, 1, none⟩ = some (.bool y.set) ∧ w'.cell? ⟨xb, 2, none⟩ = some (.bool y.exp) ∧ w'.cell? ⟨xb, 3, none⟩ = some (.bool y.fix))) [(0, true), (1, true), (2, true), (3, true), (4, true), (5, true), (6, false), (7, true)] (by kernel_rfl) (by kernel_rfl) (by kernel_rfl) ?_ ?_
          · ((try dsimp only); (first | done | (first | exact ⟨c0, e0, e1, e2, e3⟩ | exact ⟨hz0, hz2⟩)))
          simp only [planOps, List.map_cons, List.map_nil, List.getElem?_toArray, List.getElem?_cons_zero, List.getElem?_cons_succ]
          repeat (first
            | ((refine plan_yes (v := ?_) (by rfl) ?_ ?_); rotate_left; (focus (intro w hSw; (try dsimp only at hSw); go_simp; try (with_reducible rfl))); (try simp only [Act.put, List.setIfInBounds_toArray, List.set_cons_zero, List.set_cons_succ]))
            | ((refine plan_no (by rfl) ?_); (try simp only [Act.put, List.setIfInBounds_toArray, List.set_cons_zero, List.set_cons_succ]))
            | ((refine plan_step (fun K hK => ?_)); (first | (go_simp; (go_at_call 46; refine HSt.out.mono ?_; rintro e w4 ⟨⟨rfl, hS⟩, hR⟩; obtain ⟨hz0, -⟩ := hS.cells; have hz2 := VM.box_cells hS.rest; have HS := Lib.hid hS; have HRn := Lib.hid hR; clear hS hR); (try go_wp2_with fail)) | go_simp); (refine hK.out _ _ ?_ (fun hHeld => ?_)); (focus ((try dsimp only); (first | done | (first | exact ⟨c0, e0, e1, e2, e3⟩ | exact ⟨hz0, hz2⟩)))); clear hK K; (try simp only [Act.put, List.setIfInBounds_toArray, List.set_cons_zero, List.set_cons_succ])))
          refine plan_done ?_
          go_wp2_with fail
          go_ret
          exact ⟨⟨rfl, HS.out.right⟩, Below.trans (Below.drew R3.out) HRn.out⟩
    | false =>
      rw [hvs] at e1
      go_upto_region 6 with fail
      have hr := HrA.out
      have hv1 : ¬ (v.set = true) := by rw [hvs]; decide
      rw [if_neg hv1] at hr
      clear hv1
      have HS3 : SAt K (w2.setCell ⟨xb, 0, none⟩ (.string ⟨#[]⟩)) n (pts xb (VM.boxO ⟨⟨#[]⟩, v.set, v.exp, v.fix⟩) * R) := by
        obtain ⟨X, hX1, hX2⟩ := S2.out.frame
        refine hX2 _ _ ?_
        have := (hX1.perm (show _ = pts xb (VM.boxO v) * (X * R) by ac_rfl)).set (i := 0) (.string ⟨#[]⟩)
        exact this.perm (by show pts xb (VM.boxO ⟨⟨#[]⟩, v.set, v.exp, v.fix⟩) * _ = _; ac_rfl)
      obtain ⟨w3, hw3⟩ : ∃ w3, w3 = w2.setCell ⟨xb, 0, none⟩ (.string ⟨#[]⟩) := ⟨_, rfl⟩
      have R3 : Ran w w3 := by rw [hw3]; exact Ran.set R2.out _ _
      obtain ⟨y, hy⟩ : ∃ y, y = (⟨⟨#[]⟩, v.set, v.exp, v.fix⟩ : VM.T) := ⟨_, rfl⟩
      rw [← hw3] at HS3 ⊢
      rw [← hy] at HS3 hr
      clear hw3 hy S2 R2 e0 e1 e2 e3 ez HrA
      have R3 := Lib.hid R3
      obtain ⟨e0, e1, e2, e3⟩ := VM.box_cells HS3.rest
      obtain ⟨c0, c1, c2, c3, c4, c5, c6, cz⟩ := HS3.cells
      have hnils := nil_cases y
      cases hnv : nilVar y with
      | true =>
        rw [if_pos hnv] at hr
        unfold Now.delV at hr
        obtain ⟨h0, h1, h2, h3⟩ := hnils.1 hnv
        rw [h1] at e1
        rw [h2] at e2
        rw [h3] at e3
        clear hnv hnils h1 h2 h3
        cases hs : (n.s.V k).isSome with
        | false =>
          rw [if_pos hs] at hr
          subst hr
          have HD := Lib.hid (idleV K w3 n _ k hk hs HS3)
          have HS3 := Lib.hid HS3
          clear hs hN hms
          go_wp2_with fail
          refine HD.out.mono ?_
          rintro e w4 ⟨rfl, hB4⟩
          have S4 := Lib.hid (HS3.out.below hB4)
          have R4 := Lib.hid (Below.trans R3.out (hB4.mono (Nat.zero_le _)))
          clear hB4
          go_wp2_with fail
          go_ret
          exact Lays.same S4.out.right R4.out
        | true =>
          rw [if_neg (by rw [hs]; decide)] at hr
          subst hr
          have HD := Lib.hid (ndelV K w3 n _ k hk hN hms hs HS3)
          clear hs hN hms HS3
          go_wp2_with fail
          refine HD.out.mono ?_
          rintro e w4 ⟨⟨rfl, S4⟩, R4⟩
          have S4 := Lib.hid S4
          have R4 := Lib.hid (Below.trans R3.out R4)
          go_wp2_with fail
          go_ret
          exact ⟨⟨rfl, S4.out.right⟩, R4.out⟩
      | false =>
        rw [if_neg (by rw [hnv]; decide)] at hr
        subst hr
        have HSt := Lib.hid (nsetV K w3.drew n _ k y hk hN hms HS3.drew)
        have hns := hnils.2 hnv
        clear hnv hnils HS3
        rcases hns with h0 | ⟨h0, h1⟩ | ⟨h0, h1, h2⟩ | ⟨h0, h1, h2, h3⟩
        all_goals
          have He1 := Lib.hid e1
          have He2 := Lib.hid e2
          have He3 := Lib.hid e3
          try rw [h1] at e1
          try rw [h2] at e2
          try rw [h3] at e3
          go_wp2_with fail
          clear e1 e2 e3
          have e1 := He1.out
          have e2 := He2.out
          have e3 := He3.out
          clear h0
          try clear h1
          try clear h2
          try clear h3
          refine region_plan (S := (fun w' => w'.cell? ⟨K.sb, 0, none⟩ = some (pp K.P.vb) ∧ w'.cell? ⟨xb, 0, none⟩ = some (.string y.val) ∧ w'.cell? ⟨xb, 1, none⟩ = some (.bool y.set) ∧ w'.cell? ⟨xb, 2, none⟩ = some (.bool y.exp) ∧ w'.cell? ⟨xb, 3, none⟩ = some (.bool y.fix))) [(0, true), (1, true), (2, true), (3, true), (4, true), (5, true), (6, false), (7, true)] (by kernel_rfl) (by kernel_rfl) (by kernel_rfl) ?_ ?_
          · ((try dsimp only); (first | done | (first | exact ⟨c0, e0, e1, e2, e3⟩ | exact ⟨hz0, hz2⟩)))
          simp only [planOps, List.map_cons, List.map_nil, List.getElem?_toArray, List.getElem?_cons_zero, List.getElem?_cons_succ]
          repeat (first
            | ((refine plan_yes (v := ?_) (by rfl) ?_ ?_); rotate_left; (focus (intro w hSw; (try dsimp only at hSw); go_simp; try (with_reducible rfl))); (try simp only [Act.put, List.setIfInBounds_toArray, List.set_cons_zero, List.set_cons_succ]))
            | ((refine plan_no (by rfl) ?_); (try simp only [Act.put, List.setIfInBounds_toArray, List.set_cons_zero, List.set_cons_succ]))
            | ((refine plan_step (fun K hK => ?_)); (first | (go_simp; (go_at_call 46; refine HSt.out.mono ?_; rintro e w4 ⟨⟨rfl, hS⟩, hR⟩; obtain ⟨hz0, -⟩ := hS.cells; have hz2 := VM.box_cells hS.rest; have HS := Lib.hid hS; have HRn := Lib.hid hR; clear hS hR); (try go_wp2_with fail)) | go_simp); (refine hK.out _ _ ?_ (fun hHeld => ?_)); (focus ((try dsimp only); (first | done | (first | exact ⟨c0, e0, e1, e2, e3⟩ | exact ⟨hz0, hz2⟩)))); clear hK K; (try simp only [Act.put, List.setIfInBounds_toArray, List.set_cons_zero, List.set_cons_succ])))
          refine plan_done ?_
          go_wp2_with fail
          go_ret
          exact ⟨⟨rfl, HS.out.right⟩, Below.trans (Below.drew R3.out) HRn.out⟩
end Go.Proofs.YtlmjidandjemjaaGreatDoor.State

namespace Go.Proofs.YtlmjidandjemjaaGreatDoor.State
open Go.RowKit Go.Proofs.YtlmjidandjemjaaGreatDoor Go.Proofs.YtlmjidandjemjaaGreatDoor.Hp Go.Proofs.YtlmjidandjemjaaGreatDoor.Undo
set_option linter.unusedVariables false
attribute [local go_sem] Oper.semAt_some

set_option maxRecDepth 100000 in
set_option maxHeartbeats 2000000 in
theorem rget_calls (b : Nat) (s : Sr) (M : ByteArray → Option VM.T) (k : ByteArray) (w : World) (R : Hp) (hn : s.V.length ≤ 1000000) (hV : BagOf M s.V) (hr : RdR vrC 5 R s.vp s.vc s.V) (h : Sat w (pts b (srO s) * R)) :
    Calls Tryz.prog 93 #[pp b, .string k] w fun e w' => e = .returned (.tuple #[.string (vrG M k).2.val, .bool (vrG M k).2.set]) ∧ Below w.heap.size w w' := by
  have HV := rvar_calls b s M k w R hn hV hr h
  obtain ⟨x, hx⟩ : ∃ x, x = vrG M k := ⟨_, rfl⟩
  rw [← hx] at HV ⊢
  have HV := Lib.hid HV
  have H0 := Lib.hid h
  clear h hx hV hr
  go_enter Tryz.func93, Tryz.ntmps93
  go_wp2_with fail
  refine HV.out.mono ?_
  rintro e w1 ⟨rfl, hB⟩
  rw [show vrV x = .agg #[.string x.1, .string x.2.val, .bool x.2.set, .bool x.2.exp, .bool x.2.fix] from rfl]
  have S1 := (H0.out.below hB).alloc (vrO x)
  have hB2 := hB.alloc hB.size (vrO x)
  obtain ⟨w2, hw2⟩ : ∃ w2, w2 = w1.alloc (vrO x) := ⟨_, rfl⟩
  obtain ⟨xb, hxb⟩ : ∃ b, b = w1.heap.size := ⟨_, rfl⟩
  rw [← hw2, ← hxb] at S1
  rw [← hw2] at hB2
  obtain ⟨e0, e1, e2, e3, e4⟩ := vrO_cells S1
  have HB2 := Lib.hid hB2
  clear H0 HV hB S1 hB2
  go_upto_region 2 with fail
  rw [← hw2, ← hxb]
  clear hw2 hxb
  go_wp2_with fail
  go_quiet (fail)
  go_wp2_with fail
  go_ret2
  exact ⟨rfl, below_drewN HB2.out _⟩
theorem rd_fn {R S : Hp} {p : Option Addr} {cap : Nat} {L : List (Pa NM.T)} (h : RdR fnC 10 R p cap L) {w : World} (hw : Sat w (S * R)) (i : Nat) (hi : i < L.length) : ∃ b o, p = some ⟨b, o, none⟩ ∧ w.cell? ⟨b, o + i * 10, none⟩ = some (.string L[i].1) ∧ w.cell? ⟨b, o + i * 10 + 1, none⟩ = some (.int .i64 L[i].2.kind) ∧ w.cell? ⟨b, o + i * 10 + 2, none⟩ = some (.bool false) ∧ w.cell? ⟨b, o + i * 10 + 3, none⟩ = some (.string L[i].2.name) ∧ w.cell? ⟨b, o + i * 10 + 4, none⟩ = some (.bool false) ∧
    w.cell? ⟨b, o + i * 10 + 5, none⟩ = some (.slice none 0 0) ∧ w.cell? ⟨b, o + i * 10 + 6, none⟩ = some (.slice none 0 0) ∧ w.cell? ⟨b, o + i * 10 + 7, none⟩ = some (.slice none 0 0) ∧ w.cell? ⟨b, o + i * 10 + 8, none⟩ = some (.slice none 0 0) ∧ w.cell? ⟨b, o + i * 10 + 9, none⟩ = some (.slice none 0 0) := by
  obtain ⟨b, o, hb, hc⟩ := h.cells w S hw i hi
  exact ⟨b, o, hb, hc 0 (by omega), hc 1 (by omega), hc 2 (by omega), hc 3 (by omega), hc 4 (by omega), hc 5 (by omega), hc 6 (by omega), hc 7 (by omega), hc 8 (by omega), hc 9 (by omega)⟩
abbrev noO (k : Int) (n : ByteArray) : Obj := .cells #[.int .i64 k, .bool false, .string n, .bool false, .slice none 0 0, .slice none 0 0, .slice none 0 0, .slice none 0 0, .slice none 0 0] 96 (0, 0)
theorem noO_cells {w : World} {b : Nat} {k : Int} {n : ByteArray} {S : Hp} (h : Sat w (pts b (noO k n) * S)) : w.cell? ⟨b, 0, none⟩ = some (.int .i64 k) ∧ w.cell? ⟨b, 1, none⟩ = some (.bool false) ∧ w.cell? ⟨b, 2, none⟩ = some (.string n) ∧ w.cell? ⟨b, 3, none⟩ = some (.bool false) ∧ w.cell? ⟨b, 4, none⟩ = some (.slice none 0 0) ∧ w.cell? ⟨b, 5, none⟩ = some (.slice none 0 0) ∧ w.cell? ⟨b, 6, none⟩ = some (.slice none 0 0) ∧ w.cell? ⟨b, 7, none⟩ = some (.slice none 0 0) ∧ w.cell? ⟨b, 8, none⟩ = some (.slice none 0 0) := by
  have hb := h.get
  refine ⟨?_, ?_, ?_, ?_, ?_, ?_, ?_, ?_, ?_⟩ <;> rw [cell_at hb] <;> rfl
def noV (k : Int) (n : ByteArray) : Value := .agg #[.int .i64 k, .bool false, .string n, .bool false, .slice none 0 0, .slice none 0 0, .slice none 0 0, .slice none 0 0, .slice none 0 0]
set_option maxRecDepth 100000 in
set_option maxHeartbeats 4000000 in
theorem rfunc_calls (b : Nat) (s : Sr) (M : ByteArray → Option NM.T) (k : ByteArray) (w : World) (R : Hp) (hn : s.F.length ≤ 1000000) (hV : BagOf M s.F) (hr : RdR fnC 10 R s.fp s.fc s.F) (h : Sat w (pts b (srO s) * R)) :
    Calls Tryz.prog 91 #[pp b, .string k] w fun e w' => e = .returned (.tuple #[noV ((M k).getD NM.zt).kind ((M k).getD NM.zt).name, .bool (M k).isSome]) ∧ Below w.heap.size w w' := by
  have hnn : (s.F.length : Int) ≤ 1000000 := by omega
  have hcl := hr.len
  have hct := hr.top
  have hcI : (s.fc : Int) ≤ 9223372036854775807 := by unfold maxLen at hct; omega
  have hclI : (s.F.length : Int) ≤ (s.fc : Int) := by omega
  have S1 := h.alloc (noO 0 ⟨#[]⟩)
  obtain ⟨p, cap, L, hp, hcap, hL⟩ : ∃ p cap L, p = s.fp ∧ cap = s.fc ∧ L = s.F := ⟨_, _, _, rfl, rfl, rfl⟩
  obtain ⟨-, s0, -⟩ := sr_cells (S1.perm (show _ = pts b (srO s) * (pts w.heap.size (noO 0 ⟨#[]⟩) * R) by ac_rfl))
  have hr2 : RdR fnC 10 R p cap L := by rw [hp, hcap, hL]; exact hr
  rw [← hp, ← hcap, ← hL] at s0
  rw [← hcap] at hcI hclI
  rw [← hL] at hclI hnn hV
  have Hp := Lib.hid (fun (i : Nat) (hi : i < L.length) => rd_fn hr2 (S1.perm (show _ = (pts w.heap.size (noO 0 ⟨#[]⟩) * pts b (srO s)) * R by ac_rfl)) i hi)
  have H := Lib.hid h
  clear hr hr2 h hcl hct hp hcap hL S1
  cases hM : M k with
  | none =>
    have hno := Lib.hid (bag_none hV hM)
    clear hV hM
    obtain ⟨r0, r1, r2, r3, r4, r5, r6, r7, r8⟩ := noO_cells (H.out.alloc (noO 0 ⟨#[]⟩))
    have B := Lib.hid ((Below.refl _ w).alloc (Nat.le_refl _) (noO 0 ⟨#[]⟩))
    go_enter Tryz.func91, Tryz.ntmps91
    go_wp2_with fail
    go_loopg [6] (L.length) (fun (g : Nat) (iv : Value) (wr : World) => ∃ i : Nat, i + g = L.length ∧ iv = .int .i64 (i : Int) ∧ wr = w.alloc (noO 0 ⟨#[]⟩))
    case atStart => exact ⟨0, by omega, rfl, rfl⟩
    case round =>
      obtain ⟨i, hik, rfl, rfl⟩ := hrel
      have hi0 : (0 : Int) ≤ i := by omega
      by_cases hi : i < L.length
      · obtain ⟨b2, o, rfl, p0, -⟩ := Hp.out i hi
        have hne := toList_ne (hno.out L[i] (List.getElem_mem hi))
        have hlt : (i : Int) < L.length := by omega
        obtain ⟨x, hx⟩ : ∃ x, x = L[i].1 := ⟨_, rfl⟩
        rw [← hx] at p0 hne
        have Hik := Lib.hid hik
        clear hik hx
        go_wp2_with fail
        go_roundg (gk - 1)
        case measure => have := Hik.out; omega
        case rel => exact ⟨i + 1, by have := Hik.out; omega, rfl, rfl⟩
      · have hge : ¬ ((i : Int) < L.length) := by omega
        clear hik
        go_wp2_with fail
        exact bodyPost_ret (v := .tuple #[noV 0 ⟨#[]⟩, .bool false]) (by simp [results, Tryz.results91, go_sem, r0, r1, r2, r3, r4, r5, r6, r7, r8, noV]) rfl ⟨rfl, B.out⟩
  | some v =>
    obtain ⟨j, hj, hjk, hjv, hot⟩ := bag_some hV hM
    have Hot := Lib.hid hot
    clear hV hM hot
    obtain ⟨r0, r1, r2, r3, r4, r5, r6, r7, r8⟩ := noO_cells (H.out.alloc (noO v.kind v.name))
    have B := Lib.hid ((Below.refl _ w).alloc (Nat.le_refl _) (noO v.kind v.name))
    go_enter Tryz.func91, Tryz.ntmps91
    go_wp2_with fail
    go_loopg [6] (j + 1) (fun (g : Nat) (iv : Value) (wr : World) => ∃ i : Nat, i + g = j + 1 ∧ 0 < g ∧ iv = .int .i64 (i : Int) ∧ wr = w.alloc (noO 0 ⟨#[]⟩))
    case atStart => exact ⟨0, by omega, by omega, rfl, rfl⟩
    case round =>
      obtain ⟨i, hik, hk0, rfl, rfl⟩ := hrel
      have hi : i < L.length := by omega
      have hlt : (i : Int) < L.length := by omega
      have hi0 : (0 : Int) ≤ i := by omega
      obtain ⟨b2, o, rfl, p0, p1, p2, p3, p4, p5, p6, p7, p8, p9⟩ := Hp.out i hi
      by_cases hij : i = j
      · subst hij
        rw [hjk] at p0
        rw [hjv] at p1 p3
        have heq : (k.toList == k.toList) = true := (toListS_iff _ _).2 rfl
        clear hjk hjv hik
        go_wp2_with fail
        exact bodyPost_ret (v := .tuple #[noV v.kind v.name, .bool true]) (by simp [results, Tryz.results91, go_sem, r0, r1, r2, r3, r4, r5, r6, r7, r8, noV]) rfl ⟨rfl, B.out⟩
      · have hne := toList_ne (Hot.out i hi hij)
        clear hjk hjv
        obtain ⟨x, hx⟩ : ∃ x, x = L[i].1 := ⟨_, rfl⟩
        rw [← hx] at p0 hne
        have Hik := Lib.hid hik
        clear hik p1 p2 p3 p4 p5 p6 p7 p8 p9 hx
        go_wp2_with fail
        go_roundg (gk - 1)
        case measure => omega
        case rel => exact ⟨i + 1, by have := Hik.out; omega, by have := Hik.out; omega, rfl, rfl⟩
set_option maxRecDepth 100000 in
set_option maxHeartbeats 2000000 in
theorem ralias_calls (b : Nat) (s : Sr) (M : ByteArray → Option ByteArray) (k : ByteArray) (w : World) (R : Hp) (hn : s.A.length ≤ 1000000) (hV : BagOf M s.A) (hr : RdR prC 2 R s.ap s.ac s.A) (h : Sat w (pts b (srO s) * R)) :
    Calls Tryz.prog 121 #[pp b, .string k] w fun e w' => e = .returned (.tuple #[.string ((M k).getD ⟨#[]⟩), .bool (M k).isSome]) ∧ w = w' := by
  have HF := Lib.hid (rfind_calls (w := w) (S := pts b (srO s)) s.ap s.ac s.A M k hn hV hr h)
  obtain ⟨-, -, s2, -⟩ := sr_cells h
  clear h hV hr
  go_enter Tryz.func121, Tryz.ntmps121
  go_wp2_with fail
  refine HF.out.mono ?_
  rintro e w1 ⟨rfl, rfl⟩
  go_wp2_with fail
  go_ret2
  exact ⟨rfl, rfl⟩
set_option maxRecDepth 100000 in
set_option maxHeartbeats 2000000 in
theorem rtrap_calls (b : Nat) (s : Sr) (M : ByteArray → Option ByteArray) (k : ByteArray) (w : World) (R : Hp) (hn : s.T.length ≤ 1000000) (hV : BagOf M s.T) (hr : RdR prC 2 R s.tp s.tc s.T) (h : Sat w (pts b (srO s) * R)) :
    Calls Tryz.prog 90 #[pp b, .string k] w fun e w' => e = .returned (.tuple #[.string ((M k).getD ⟨#[]⟩), .bool (M k).isSome]) ∧ w = w' := by
  have HF := Lib.hid (rfind_calls (w := w) (S := pts b (srO s)) s.tp s.tc s.T M k hn hV hr h)
  obtain ⟨-, -, -, s3, -⟩ := sr_cells h
  clear h hV hr
  go_enter Tryz.func90, Tryz.ntmps90
  go_wp2_with fail
  refine HF.out.mono ?_
  rintro e w1 ⟨rfl, rfl⟩
  go_wp2_with fail
  go_ret2
  exact ⟨rfl, rfl⟩
end Go.Proofs.YtlmjidandjemjaaGreatDoor.State

