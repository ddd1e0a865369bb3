/- HandlesPlays, part 21 of 29: the texts StTe StLg, joined by a program. -/
import Derived.Test.YtlmjidandjemjaaGreatDoorSp12
import Derived.Test.YtlmjidandjemjaaGreatDoorSp10
import Derived.Test.YtlmjidandjemjaaGreatDoorSp20
namespace Go.Proofs.YtlmjidandjemjaaGreatDoor.State
open Go.RowKit Go.Proofs.YtlmjidandjemjaaGreatDoor Go.Proofs.YtlmjidandjemjaaGreatDoor.Hp Go.Proofs.YtlmjidandjemjaaGreatDoor.Undo
set_option linter.unusedVariables false
attribute [local go_sem] Oper.semAt_some

set_option maxRecDepth 100000 in
set_option maxHeartbeats 8000000 in
theorem Func_calls (K : Ctx) (n : Now) (k : ByteArray) (w : World) (R : Hp) (hk : k.size ≤ maxLen) (h : SAt K w n R) :
    Calls Tryz.prog 69 #[pp K.sb, .string k] w fun e w' => e = .returned (.tuple #[.agg #[.int .i64 ((n.s.F k).getD NM.zt).kind, .bool false, .string ((n.s.F k).getD NM.zt).name, .bool false, .slice none 0 0, .slice none 0 0, .slice none 0 0, .slice none 0 0, .slice none 0 0], .bool (n.s.F k).isSome]) ∧ Below w.heap.size w w' := by
  obtain ⟨x, hx⟩ : ∃ x, x = (n.s.F k).getD NM.zt := ⟨_, rfl⟩
  rw [← hx]
  have H1 := h.alloc NM.zO
  obtain ⟨c0, c1, c2, c3, c4, c5, c6, cz⟩ := H1.cells
  have HG := getF K _ n _ k hk H1
  rw [← hx] at HG
  obtain ⟨is, his⟩ : ∃ b, b = (n.s.F k).isSome := ⟨_, rfl⟩
  rw [← his] at HG ⊢
  have HG := Lib.hid HG
  have H1 := Lib.hid H1
  clear h hx his
  go_enter Tryz.func69, Tryz.ntmps69
  go_wp2_with fail
  refine HG.out.mono ?_
  rintro e w1 ⟨rfl, hB⟩
  have HZ := (H1.out.below hB).rest
  have hB2 := below_new hB
  have hg := HZ.get
  have f0 : ∀ i, w1.frozen? ⟨w.heap.size, i, none⟩ = false := fun i => free_at hg i
  obtain ⟨z0, z1, z2, z3, z4, z5, z6, z7, z8⟩ := NM.box_cells (x := NM.zt) HZ
  have HZ2 := (((((((((HZ).set (i := 0) (.int .i64 x.kind)).set (i := 1) (.bool false)).set (i := 2) (.string x.name)).set (i := 3) (.bool false)).set (i := 4) (.slice none 0 0)).set (i := 5) (.slice none 0 0)).set (i := 6) (.slice none 0 0)).set (i := 7) (.slice none 0 0)).set (i := 8) (.slice none 0 0)
  have hB3 := (((((((((hB2).setCell (Nat.le_refl _) (p := ⟨w.heap.size, 0, none⟩) (.int .i64 x.kind)).setCell (Nat.le_refl _) (p := ⟨w.heap.size, 1, none⟩) (.bool false)).setCell (Nat.le_refl _) (p := ⟨w.heap.size, 2, none⟩) (.string x.name)).setCell (Nat.le_refl _) (p := ⟨w.heap.size, 3, none⟩) (.bool false)).setCell (Nat.le_refl _) (p := ⟨w.heap.size, 4, none⟩) (.slice none 0 0)).setCell (Nat.le_refl _) (p := ⟨w.heap.size, 5, none⟩) (.slice none 0 0)).setCell (Nat.le_refl _) (p := ⟨w.heap.size, 6, none⟩) (.slice none 0 0)).setCell (Nat.le_refl _) (p := ⟨w.heap.size, 7, none⟩) (.slice none 0 0)).setCell (Nat.le_refl _) (p := ⟨w.heap.size, 8, none⟩) (.slice none 0 0)
  obtain ⟨r0, r1, r2, r3, r4, r5, r6, r7, r8⟩ := NM.box_cells (x := x) HZ2
  have HB3 := Lib.hid hB3
  clear hg HZ HG H1 HZ2 hB hB2 hB3 c0 c1 c2 c3 c4 c5 c6 cz
  go_wp2_with fail
  refine bodyPost_ret (v := .tuple #[.agg #[.int .i64 x.kind, .bool false, .string x.name, .bool false, .slice none 0 0, .slice none 0 0, .slice none 0 0, .slice none 0 0, .slice none 0 0], .bool is]) (by simp [results, Tryz.results69, go_sem, r0, r1, r2, r3, r4, r5, r6, r7, r8]) rfl ⟨rfl, HB3.out⟩
set_option maxRecDepth 100000 in
set_option maxHeartbeats 8000000 in
theorem SetFunc_calls (K : Ctx) (n : Now) (k : ByteArray) (x : NM.T) (w : World) (R : Hp) (hk : k.size ≤ maxLen) (hN : n.N ≤ 1000000) (hms : n.ms.length ≤ 1000000) (h : SAt K w n R) :
    Calls Tryz.prog 50 #[pp K.sb, .string k, .agg #[.int .i64 x.kind, .bool false, .string x.name, .bool false, .slice none 0 0, .slice none 0 0, .slice none 0 0, .slice none 0 0, .slice none 0 0]] w (Lays K w R (n.setF K.most k x)) := by
  obtain ⟨r, hr⟩ : ∃ r, r = n.setF K.most k x := ⟨_, rfl⟩
  rw [← hr]
  have HNm := Lib.hid (fun w => named_calls K.sb k w hk)
  obtain ⟨en, hen⟩ : ∃ en, en = errName k := ⟨_, rfl⟩
  rw [← hen] at HNm
  unfold errName at hen
  unfold Now.setF at hr
  have Hr := Lib.hid hr
  clear hr
  have S1 := h.alloc (NM.boxO x)
  obtain ⟨c0, c1, c2, c3, c4, c5, c6, cz⟩ := S1.cells
  obtain ⟨e0, e1, e2, e3, e4, e5, e6, e7, e8⟩ := NM.box_cells S1.rest
  have R1 : Ran w (w.alloc (NM.boxO x)) := Ran.new (Below.refl 0 w) _
  obtain ⟨w2, hw2⟩ : ∃ w2, w2 = w.alloc (NM.boxO x) := ⟨_, rfl⟩
  obtain ⟨xb, hxb⟩ : ∃ b, b = w.heap.size := ⟨_, rfl⟩
  rw [← hw2, ← hxb] at S1 e0 e1 e2 e3 e4 e5 e6 e7 e8
  rw [← hw2] at R1 c0 c1 c2 c3 c4 c5 c6 cz
  have R1 := Lib.hid R1
  cases hn : isName k with
  | false =>
    have hr := Hr.out
    rw [if_pos hn] at hr hen
    subst hr hen
    have S2 := Lib.hid S1
    clear hn h S1 Hr hN hms
    go_enter Tryz.func50, Tryz.ntmps50
    go_upto_region 1 with fail
    rw [← hw2, ← hxb]
    clear hw2 hxb
    go_wp2_with fail
    refine (HNm.out w2).mono ?_
    rintro e w3 ⟨rfl, rfl⟩
    go_wp2_with fail
    go_ret
    exact Lays.same S2.out.right R1.out
  | true =>
    have hr := Hr.out
    rw [if_neg (by rw [hn]; decide)] at hr hen
    subst hr hen
    have HSt := Lib.hid (nsetF K w2.drew n _ k x hk hN hms S1.drew)
    clear hn h S1 Hr hN hms
    go_enter Tryz.func50, Tryz.ntmps50
    go_upto_region 1 with fail
    rw [← hw2, ← hxb]
    clear hw2 hxb
    go_wp2_with fail
    refine (HNm.out w2).mono ?_
    rintro e w3 ⟨rfl, rfl⟩
    go_wp2_with fail
    refine region_plan (S := (fun w' => w'.cell? ⟨K.sb, 1, none⟩ = some (pp K.P.fb) ∧ w'.cell? ⟨xb, 0, none⟩ = some (.int .i64 x.kind) ∧ w'.cell? ⟨xb, 1, none⟩ = some (.bool false) ∧ w'.cell? ⟨xb, 2, none⟩ = some (.string x.name) ∧ w'.cell? ⟨xb, 3, none⟩ = some (.bool false) ∧ w'.cell? ⟨xb, 4, none⟩ = some (.slice none 0 0) ∧ w'.cell? ⟨xb, 5, none⟩ = some (.slice none 0 0) ∧ w'.cell? ⟨xb, 6, none⟩ = some (.slice none 0 0) ∧ w'.cell? ⟨xb, 7, none⟩ = some (.slice none 0 0) ∧ w'.cell? ⟨xb, 8, none⟩ = some (.slice none 0 0))) [(0, true), (1, true), (2, true), (3, true), (4, true), (5, true), (6, false), (7, true)] (by kernel_rfl) (by kernel_rfl) (by kernel_rfl) ?_ ?_
    · ((try dsimp only); (first | done | (first | exact ⟨c1, e0, e1, e2, e3, e4, e5, e6, e7, e8⟩ | exact ⟨hz0, hz2⟩)))
    simp only [planOps, List.map_cons, List.map_nil, List.getElem?_toArray, List.getElem?_cons_zero, List.getElem?_cons_succ]
    repeat (first
      | ((refine plan_yes (v := ?_) (by rfl) ?_ ?_); rotate_left; (focus (intro w hSw; (try dsimp only at hSw); go_simp; try (with_reducible rfl))); (try simp only [Act.put, List.setIfInBounds_toArray, List.set_cons_zero, List.set_cons_succ]))
      | ((refine plan_no (by rfl) ?_); (try simp only [Act.put, List.setIfInBounds_toArray, List.set_cons_zero, List.set_cons_succ]))
      | ((refine plan_step (fun K hK => ?_)); (first | (go_simp; (go_at_call 110; refine HSt.out.mono ?_; rintro e w4 ⟨⟨rfl, hS⟩, hR⟩; obtain ⟨-, hz0, -⟩ := hS.cells; have hz2 := NM.box_cells hS.rest; have HS := Lib.hid hS; have HRn := Lib.hid hR; clear hS hR); (try go_wp2_with fail)) | go_simp); (refine hK.out _ _ ?_ (fun hHeld => ?_)); (focus ((try dsimp only); (first | done | (first | exact ⟨c1, e0, e1, e2, e3, e4, e5, e6, e7, e8⟩ | exact ⟨hz0, hz2⟩)))); clear hK K; (try simp only [Act.put, List.setIfInBounds_toArray, List.set_cons_zero, List.set_cons_succ])))
    refine plan_done ?_
    go_wp2_with fail
    go_ret
    exact ⟨⟨rfl, HS.out.right⟩, Below.trans (Below.drew R1.out) HRn.out⟩
set_option maxRecDepth 100000 in
set_option maxHeartbeats 8000000 in
theorem UnsetFunc_calls (K : Ctx) (n : Now) (k : ByteArray) (w : World) (R : Hp) (hk : k.size ≤ maxLen) (hN : n.N ≤ 1000000) (hms : n.ms.length ≤ 1000000) (h : SAt K w n R) :
    Calls Tryz.prog 52 #[pp K.sb, .string k] w (Lays K w R (n.unsetF K.most k)) := by
  obtain ⟨r, hr⟩ : ∃ r, r = n.unsetF K.most k := ⟨_, rfl⟩
  rw [← hr]
  have HNm := Lib.hid (fun w => named_calls K.sb k w hk)
  obtain ⟨en, hen⟩ : ∃ en, en = errName k := ⟨_, rfl⟩
  rw [← hen] at HNm
  unfold errName at hen
  unfold Now.unsetF at hr
  have Hr := Lib.hid hr
  clear hr
  obtain ⟨c0, c1, c2, c3, c4, c5, c6, cz⟩ := h.cells
  have H0 := Lib.hid h
  cases hn : isName k with
  | false =>
    have hr := Hr.out
    rw [if_pos hn] at hr hen
    subst hr hen
    clear hn h Hr hN hms
    go_enter Tryz.func52, Tryz.ntmps52
    go_wp2_with fail
    refine (HNm.out w).mono ?_
    rintro e w3 ⟨rfl, rfl⟩
    go_wp2_with fail
    go_ret
    exact Lays.same H0.out (Below.refl 0 w)
  | true =>
    have hr := Hr.out
    rw [if_neg (by rw [hn]; decide)] at hr hen
    subst hen
    have HO := Func_calls K n k w R hk h
    obtain ⟨x, hx⟩ : ∃ x, x = (n.s.F k).getD NM.zt := ⟨_, rfl⟩
    rw [← hx] at HO
    cases hs : (n.s.F k).isSome with
    | false =>
      rw [if_pos hs] at hr
      rw [hs] at HO
      subst hr
      have HO := Lib.hid HO
      clear hn h Hr hN hms hs hx
      go_enter Tryz.func52, Tryz.ntmps52
      go_wp2_with fail
      refine (HNm.out w).mono ?_
      rintro e w3 ⟨rfl, rfl⟩
      go_wp2_with fail
      refine HO.out.mono ?_
      rintro e w1 ⟨rfl, hB⟩
      have S1 := Lib.hid ((H0.out.below hB).alloc (NM.boxO x)).right
      have R1 := Lib.hid (Ran.new (hB.mono (Nat.zero_le _)) (NM.boxO x) : Ran w (w1.alloc (NM.boxO x)))
      clear hB c0 c1 c2 c3 c4 c5 c6 cz
      go_wp2_with fail
      go_ret
      exact Lays.same S1.out R1.out
    | true =>
      rw [if_neg (by rw [hs]; decide)] at hr
      rw [hs] at HO
      subst hr
      have HO := Lib.hid HO
      have HS0 := Lib.hid hs
      clear hn h Hr hs hx
      go_enter Tryz.func52, Tryz.ntmps52
      go_wp2_with fail
      refine (HNm.out w).mono ?_
      rintro e w3 ⟨rfl, rfl⟩
      go_wp2_with fail
      refine HO.out.mono ?_
      rintro e w1 ⟨rfl, hB⟩
      have S1 := (H0.out.below hB).alloc (NM.boxO x)
      have R1 := Lib.hid (Ran.new (hB.mono (Nat.zero_le _)) (NM.boxO x) : Ran w (w1.alloc (NM.boxO x)))
      clear c0 c1 c2 c3 c4 c5 c6 cz
      obtain ⟨c0, c1, c2, c3, c4, c5, c6, cz⟩ := S1.cells
      have HD := Lib.hid (ndelF K _ n _ k hk hN hms HS0.out S1)
      clear hB S1
      go_wp2_with fail
      refine HD.out.mono ?_
      rintro e w4 ⟨⟨rfl, S4⟩, R4⟩
      have S4 := Lib.hid S4
      have R4 := Lib.hid (Below.trans R1.out R4)
      go_wp2_with fail
      go_ret
      exact ⟨⟨rfl, S4.out.right⟩, R4.out⟩
end Go.Proofs.YtlmjidandjemjaaGreatDoor.State

namespace Go.Proofs.YtlmjidandjemjaaGreatDoor.State
open Go.RowKit Go.Proofs.YtlmjidandjemjaaGreatDoor Go.Proofs.YtlmjidandjemjaaGreatDoor.Hp Go.Proofs.YtlmjidandjemjaaGreatDoor.Undo
set_option linter.unusedVariables false
attribute [local go_sem] Oper.semAt_some

set_option maxRecDepth 100000 in
set_option maxHeartbeats 1000000 in
/-- Mark with no room. -/
theorem mark_full (lb : Nat) (most nest : Int) (fs : List Value) (ms : List Nat) (w : World) (R : Hp) (h : LogAt w lb most nest fs ms R) (hl : (ms.length : Int) = nest) :
    Calls Tryz.prog 27 #[.pointer (some ⟨lb, 0, none⟩)] w fun e w' => e = .returned (.tuple #[.int .i64 0, .int .i64 42]) ∧ LogAt w' lb most nest fs ms R ∧ Ran w w' := by
  obtain ⟨np, nc, mp, mc, HS⟩ := h
  obtain ⟨c0, c1, c2, c3, cz⟩ := log_cells HS.get
  have hne : ((ms.length : Int) == nest) = true := by rw [beq_iff_eq]; omega
  have HS0 := Lib.hid HS
  clear HS
  go_enter Tryz.func27, Tryz.ntmps27
  go_wp2_with fail
  go_quiet (fail)
  go_wp2_with fail
  go_ret2
  exact ⟨rfl, ⟨np, nc, mp, mc, HS0.out.drewN _⟩, Ran.drewN (Below.refl 0 w) _⟩
theorem sMark (K : Ctx) (n : Now) (w : World) (R : Hp) (hle : (n.ms.length : Int) ≤ K.nest) (hN : n.N ≤ 1000000) (hms : n.ms.length ≤ 1000000) (h : SAt K w n R) :
    Calls Tryz.prog 27 #[pp K.lb] w fun e w' => (∃ v : Int, e = .returned (.tuple #[.int .i64 v, .int .i64 (n.markM K.nest).1]) ∧ SAt K w' (n.markM K.nest).2 R) ∧ Ran w w' := by
  have hl := h.hist_le
  obtain ⟨hist, s, rws, h1, h2, h3, H⟩ := h
  have hh : n.hist.length = hist.length := by rw [h1, List.length_map]
  by_cases hc : (n.ms.length : Int) = K.nest
  · have he : n.markM K.nest = (42, n) := by unfold Now.markM; rw [if_pos hc]
    rw [he]
    obtain ⟨rs, B, g0, g1, g2, g3, HL⟩ := H
    refine (mark_full K.lb K.most K.nest _ n.ms w _ HL hc).mono ?_
    rintro e w' ⟨rfl, HS, hr⟩
    exact ⟨⟨0, rfl, hist, s, rws, h1, h2, h3, rs, B, g0, g1, g2, g3, HS⟩, hr⟩
  · have he : n.markM K.nest = (0, { n with ms := n.ms ++ [n.hist.length] }) := by unfold Now.markM; rw [if_neg hc]
    rw [he]
    refine (mark_things K.lb K.most K.nest hist n.ms n.N s w _ (by omega) (by omega) hms H).mono ?_
    rintro e w' ⟨⟨rfl, HS⟩, hr⟩
    exact ⟨⟨_, rfl, hist, s, rws, h1, h2, h3, by rw [hh]; exact HS⟩, hr⟩
theorem sUndo (K : Ctx) (n : Now) (w : World) (R : Hp) (hN : n.N ≤ 1000000) (hms : n.ms.length ≤ 1000000) (h : SAt K w n R) :
    Calls Tryz.prog 28 #[pp K.lb] w fun e w' => (e = .returned (.int .i64 n.undoM.1) ∧ SAt K w' n.undoM.2 R) ∧ Ran w w' := by
  have hl := h.hist_le
  obtain ⟨hist, s, rws, h1, h2, h3, H⟩ := h
  have hh : n.hist.length = hist.length := by rw [h1, List.length_map]
  unfold Now.undoM
  cases hr : n.ms.reverse with
  | nil =>
    have h0 : n.ms = [] := by simpa using hr
    rw [h0] at H
    refine (undonone_things K.lb K.most K.nest hist n.N s w _ H).mono ?_
    rintro e w' ⟨⟨rfl, HS⟩, hr⟩
    exact ⟨⟨rfl, hist, s, rws, h1, h2, h3, by rw [h0]; exact HS⟩, hr⟩
  | cons m l =>
    have h0 : n.ms = l.reverse ++ [m] := by
      have := congrArg List.reverse hr
      simpa using this
    have hlen : l.reverse.length ≤ 1000000 := by rw [h0, List.length_append] at hms; omega
    rw [h0] at H
    refine (undo_things K.lb K.most K.nest hist l.reverse m n.N s w _ (by omega) hlen (by unfold maxLen; omega) H).mono ?_
    rintro e w' ⟨⟨rfl, HS⟩, hr⟩
    refine ⟨⟨rfl, hist.take m, (hist ++ [s]).getD m s, rws, ?_, ?_, ?_, HS⟩, hr⟩
    · show n.hist.take m = _
      rw [h1, List.map_take]
    · show (n.hist ++ [n.s]).getD m n.s = _
      rw [h1, h2, List.getD_eq_getElem?_getD, List.getD_eq_getElem?_getD, show hist.map plain ++ [plain s] = (hist ++ [s]).map plain by rw [List.map_append]; rfl, List.getElem?_map]
      cases (hist ++ [s])[m]? <;> rfl
    · intro x hx
      rcases List.mem_cons.1 hx with rfl | hx
      · rw [List.getD_eq_getElem?_getD]
        cases hg : (hist ++ [s])[m]? with
        | none => exact h3 s List.mem_cons_self
        | some y =>
          have hy := List.mem_of_getElem? hg
          rcases List.mem_append.1 hy with hy | hy
          · exact h3 y (List.mem_cons_of_mem _ hy)
          · rw [List.mem_singleton] at hy; subst hy; exact h3 y List.mem_cons_self
      · exact h3 x (List.mem_cons_of_mem _ (List.mem_of_mem_take hx))
theorem sMarks (K : Ctx) (n : Now) (w : World) (R : Hp) (h : SAt K w n R) :
    Calls Tryz.prog 26 #[pp K.lb] w fun e w' => e = .returned (.int .i64 (n.ms.length : Int)) ∧ w = w' := by
  obtain ⟨hist, s, rws, h1, h2, h3, H⟩ := h
  exact len_things K.lb K.most K.nest hist n.ms n.N s w _ H
end Go.Proofs.YtlmjidandjemjaaGreatDoor.State

