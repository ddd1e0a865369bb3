/- Set, Unset of a variable walked. -/
import Derived.Test.YtlmjidandjemjaaGreatDoorStTa
import Derived.Test.YtlmjidandjemjaaGreatDoorBa
namespace Go.Proofs.YtlmjidandjemjaaGreatDoor.State
open Go.RowKit Go.Proofs.YtlmjidandjemjaaGreatDoor Go.Proofs.YtlmjidandjemjaaGreatDoor.Hp Go.Proofs.YtlmjidandjemjaaGreatDoor.Undo
set_option linter.unusedVariables false
attribute [local go_sem] Oper.semAt_some

/-- What a call that lays something leaves. -/
def Lays (K : Ctx) (w : World) (R : Hp) (r : Int × Now) (e : Ending) (w' : World) : Prop := (e = .returned (.int .i64 r.1) ∧ SAt K w' r.2 R) ∧ Ran w w'
theorem Lays.same {K : Ctx} {w w' : World} {n : Now} {R : Hp} {i : Int} (h : SAt K w' n R) (hr : Ran w w') : Lays K w R (i, n) (.returned (.int .i64 i)) w' := ⟨⟨rfl, h⟩, hr⟩
set_option maxRecDepth 100000 in
set_option maxHeartbeats 8000000 in
theorem Set_calls (K : Ctx) (n : Now) (k v : ByteArray) (w : World) (R : Hp) (hk : k.size ≤ maxLen) (hv : v.size ≤ maxLen) (hN : n.N ≤ 1000000) (hms : n.ms.length ≤ 1000000) (h : SAt K w n R) :
    Calls Tryz.prog 14 #[pp K.sb, .string k, .string v] w (Lays K w R (n.setP K.most k v)) := by
  obtain ⟨x, hx⟩ : ∃ x, x = n.s.var k := ⟨_, rfl⟩
  have HV := Lib.hid (Var_calls K n k w R hk h)
  have HNm := Lib.hid (fun w => named_calls K.sb k w hk)
  have H0 := Lib.hid h
  obtain ⟨r, hr⟩ : ∃ r, r = n.setP K.most k v := ⟨_, rfl⟩
  rw [← hr]
  unfold Now.setP at hr
  rw [← hx] at HV hr
  obtain ⟨en, hen⟩ : ∃ en, en = errName k := ⟨_, rfl⟩
  rw [← hen] at HNm
  unfold errName at hen
  have Hr := Lib.hid hr
  have Hen := Lib.hid hen
  have HK := Lib.hid (And.intro hk (And.intro hN hms))
  clear h hx hk hN hms hr hen
  go_enter Tryz.func14, Tryz.ntmps14
  go_wp2_with fail
  refine HV.out.mono ?_
  rintro e w1 ⟨rfl, hB⟩
  have S1 := (H0.out.below hB).alloc (VM.boxO x)
  have R1 : Ran w (w1.alloc (VM.boxO x)) := Ran.new (hB.mono (Nat.zero_le _)) _
  obtain ⟨w2, hw2⟩ : ∃ w2, w2 = w1.alloc (VM.boxO x) := ⟨_, rfl⟩
  obtain ⟨xb, hxb⟩ : ∃ b, b = w1.heap.size := ⟨_, rfl⟩
  rw [← hw2, ← hxb] at S1
  rw [← hw2] at R1
  obtain ⟨e0, e1, e2, e3⟩ := VM.box_cells S1.rest
  obtain ⟨c0, c1, c2, c3, c4, c5, c6, cz⟩ := S1.cells
  have S1 := Lib.hid S1
  have R1 := Lib.hid R1
  clear H0 HV hB
  go_upto_region 2 with fail
  rw [← hw2, ← hxb]
  clear hw2 hxb
  go_wp2_with fail
  refine (HNm.out w2).mono ?_
  rintro e w3 ⟨rfl, rfl⟩
  cases hn : isName k with
  | false =>
    have hr := Hr.out
    have hen := Hen.out
    rw [if_pos hn] at hr hen
    subst hr hen
    clear HNm hn
    go_wp2_with fail
    go_ret
    exact Lays.same S1.out.right R1.out
  | true =>
    have hr := Hr.out
    have hen := Hen.out
    rw [if_neg (by rw [hn]; decide)] at hr hen
    subst hen
    clear HNm hn Hr Hen
    by_cases hv2 : 4096 < v.size
    · rw [if_pos hv2] at hr
      subst hr
      have hvI : (4096 : Int) < v.size := by omega
      clear hv2
      go_wp2_with fail
      go_ret
      exact Lays.same S1.out.right R1.out
    · rw [if_neg hv2] at hr
      have hvI : (v.size : Int) ≤ 4096 := by omega
      have HVS := Lib.hid hvI
      clear hv2
      cases hf : x.fix with
      | true =>
        rw [hf] at e3
        rw [if_pos hf] at hr
        subst hr
        clear hf
        go_wp2_with fail
        go_ret
        exact Lays.same S1.out.right R1.out
      | false =>
        rw [hf] at e3
        rw [if_neg (by rw [hf]; decide)] at hr
        clear hf
        have HOp := Lib.hid (Option_calls K n 97 w2.drew _ S1.out.drew)
        have HSt := Lib.hid (fun y : VM.T => nsetV K w2.drew n _ k y HK.out.1 HK.out.2.1 HK.out.2.2 S1.out.drew)
        cases hxe : x.exp with
        | true =>
          rw [hxe] at e2
          rw [hxe, Bool.true_or] at hr
          subst hr
          clear HOp
          go_wp2_with fail
          refine Go.Proofs.YtlmjidandjemjaaGreatDoor.region_plan (S := (fun w' => w'.cell? ⟨K.sb, 0, none⟩ = some (pp K.P.vb) ∧ w'.cell? ⟨xb, 2, none⟩ = some (.bool true))) [(0, true), (1, true), (2, true), (3, true), (4, true), (5, true), (6, true), (7, true), (8, true), (9, true), (10, true), (11, true), (12, true), (13, false), (14, true)] (by kernel_rfl) (by kernel_rfl) (by kernel_rfl) ?_ ?_
          · ((try dsimp only); (first | done | (first | exact ⟨c0, e2⟩ | exact ⟨hz0, hz2⟩)))
          simp only [Go.Proofs.YtlmjidandjemjaaGreatDoor.planOps, List.map_cons, List.map_nil, List.getElem?_toArray, List.getElem?_cons_zero, List.getElem?_cons_succ]
          repeat (first
            | ((refine Go.Proofs.YtlmjidandjemjaaGreatDoor.plan_yes (v := ?_) (by rfl) ?_ ?_); rotate_left; (focus (intro w hSw; (try dsimp only at hSw); go_simp; try (with_reducible rfl))); (try simp only [Act.put, List.setIfInBounds_toArray, List.set_cons_zero, List.set_cons_succ]))
            | ((refine Go.Proofs.YtlmjidandjemjaaGreatDoor.plan_no (by rfl) ?_); (try simp only [Act.put, List.setIfInBounds_toArray, List.set_cons_zero, List.set_cons_succ]))
            | ((refine Go.Proofs.YtlmjidandjemjaaGreatDoor.plan_step (fun K hK => ?_)); (first | (go_at_call 46; refine (HSt.out ⟨v, true, true, false⟩).mono ?_; rintro e w4 ⟨⟨rfl, hS⟩, hR⟩; obtain ⟨hz0, -⟩ := hS.cells; have hz2 := (VM.box_cells hS.rest).2.2.1; rw [hxe] at hz2; have HS := Lib.hid hS; have HRn := Lib.hid hR; clear hS hR) | (go_simp; (go_at_call 46; refine (HSt.out ⟨v, true, true, false⟩).mono ?_; rintro e w4 ⟨⟨rfl, hS⟩, hR⟩; obtain ⟨hz0, -⟩ := hS.cells; have hz2 := (VM.box_cells hS.rest).2.2.1; rw [hxe] at hz2; have HS := Lib.hid hS; have HRn := Lib.hid hR; clear hS hR); (try go_wp2_with fail)) | go_simp); (refine hK.out _ _ ?_ (fun hHeld => ?_)); (focus ((try dsimp only); (first | done | (first | exact ⟨c0, e2⟩ | exact ⟨hz0, hz2⟩)))); clear hK K; (try simp only [Act.put, List.setIfInBounds_toArray, List.set_cons_zero, List.set_cons_succ])))
          refine Go.Proofs.YtlmjidandjemjaaGreatDoor.plan_done ?_
          go_wp2_with fail
          go_ret
          exact ⟨⟨rfl, HS.out.right⟩, Below.trans (Below.drew R1.out) HRn.out⟩
        | false =>
          rw [hxe] at e2
          rw [hxe, Bool.false_or] at hr
          obtain ⟨ob, hob⟩ : ∃ ob, ob = n.s.option 97 := ⟨_, rfl⟩
          rw [← hob] at HOp hr
          subst hr
          clear hob
          go_wp2_with fail
          refine Go.Proofs.YtlmjidandjemjaaGreatDoor.region_plan (S := (fun w' => w'.cell? ⟨K.sb, 0, none⟩ = some (pp K.P.vb) ∧ w'.cell? ⟨xb, 2, none⟩ = some (.bool false))) [(0, true), (1, true), (2, true), (3, true), (4, true), (5, true), (6, true), (7, true), (8, true), (9, true), (10, false), (11, true), (12, true), (13, false), (14, true)] (by kernel_rfl) (by kernel_rfl) (by kernel_rfl) ?_ ?_
          · ((try dsimp only); (first | done | (first | exact ⟨c0, e2⟩ | exact ⟨hz0, hz2⟩)))
          simp only [Go.Proofs.YtlmjidandjemjaaGreatDoor.planOps, List.map_cons, List.map_nil, List.getElem?_toArray, List.getElem?_cons_zero, List.getElem?_cons_succ]
          repeat (first
            | ((refine Go.Proofs.YtlmjidandjemjaaGreatDoor.plan_yes (v := ?_) (by rfl) ?_ ?_); rotate_left; (focus (intro w hSw; (try dsimp only at hSw); go_simp; try (with_reducible rfl))); (try simp only [Act.put, List.setIfInBounds_toArray, List.set_cons_zero, List.set_cons_succ]))
            | ((refine Go.Proofs.YtlmjidandjemjaaGreatDoor.plan_no (by rfl) ?_); (try simp only [Act.put, List.setIfInBounds_toArray, List.set_cons_zero, List.set_cons_succ]))
            | ((refine Go.Proofs.YtlmjidandjemjaaGreatDoor.plan_step (fun K hK => ?_)); (first | (first | (go_at_call 47; refine HOp.out.mono ?_; rintro e w4 ⟨rfl, rfl⟩) | (go_at_call 46; refine (HSt.out ⟨v, true, ob, false⟩).mono ?_; rintro e w4 ⟨⟨rfl, hS⟩, hR⟩; obtain ⟨hz0, -⟩ := hS.cells; have hz2 := (VM.box_cells hS.rest).2.2.1; rw [hxe] at hz2; have HS := Lib.hid hS; have HRn := Lib.hid hR; clear hS hR)) | (go_simp; (first | (go_at_call 47; refine HOp.out.mono ?_; rintro e w4 ⟨rfl, rfl⟩) | (go_at_call 46; refine (HSt.out ⟨v, true, ob, false⟩).mono ?_; rintro e w4 ⟨⟨rfl, hS⟩, hR⟩; obtain ⟨hz0, -⟩ := hS.cells; have hz2 := (VM.box_cells hS.rest).2.2.1; rw [hxe] at hz2; have HS := Lib.hid hS; have HRn := Lib.hid hR; clear hS hR)); (try go_wp2_with fail)) | go_simp); (refine hK.out _ _ ?_ (fun hHeld => ?_)); (focus ((try dsimp only); (first | done | (first | exact ⟨c0, e2⟩ | exact ⟨hz0, hz2⟩)))); clear hK K; (try simp only [Act.put, List.setIfInBounds_toArray, List.set_cons_zero, List.set_cons_succ])))
          refine Go.Proofs.YtlmjidandjemjaaGreatDoor.plan_done ?_
          go_wp2_with fail
          go_ret
          exact ⟨⟨rfl, HS.out.right⟩, Below.trans (Below.drew R1.out) HRn.out⟩
end Go.Proofs.YtlmjidandjemjaaGreatDoor.State
