/- asked walked; begun with arguments that New does not take. -/
import Derived.Test.YtibgpkcklneloaaUnAA
namespace Go.Proofs.Ytibgpkcklneloaa.Undo
open Go.RowKit Go.Proofs.Ytibgpkcklneloaa Go.Proofs.Ytibgpkcklneloaa.Hp
set_option linter.unusedVariables false
attribute [local go_sem] Oper.semAt_some

theorem RM.all_pull (r : RM) (ab : Nat) (most nest : Int) (m : Mach) (A R : Hp) : r.all ab most nest m (A * R) = A * r.all ab most nest m R := by
  unfold RM.all RM.own
  ac_rfl
def AsSays (ab : Nat) (most nest : Int) (res : (Int × Int) × Mach) (R : Hp) (e : Ending) (w' : World) : Prop :=
  e = .returned (.tuple #[.int .i64 res.1.1, .int .i64 res.1.2]) ∧ RLeaves ab most nest res.2 R w'
theorem RLeaves.drop {ab : Nat} {most nest : Int} {m : Mach} {A R : Hp} {w : World} (h : RLeaves ab most nest m (A * R) w) : RLeaves ab most nest m R w := by
  obtain ⟨r, h1, h2⟩ := h
  rw [RM.all_pull] at h2
  exact ⟨r, h1, h2.right⟩
set_option maxRecDepth 100000 in
set_option maxHeartbeats 4000000 in
theorem asked_calls (ab : Nat) (most nest : Int) (m : Mach) (r : RM) (o : Opr) (w : World) (R : Hp) (ho : OkOp o) (hok : ROk m r) (hm : Marked m.hist.length m.ms.reverse) (hb : m.hist.length ≤ 1000000) (hms : m.ms.length ≤ 100000) (hnest : (m.ms.length : Int) ≤ nest) (hL : r.now.L.length ≤ 1000000) (hks : ∀ x ∈ r.now.L, x.1.size ≤ maxLen)
    (h : Sat w (r.all ab most nest m R)) :
    Calls Try.prog 18 #[.pointer (some ⟨ab, 0, none⟩), opV o] w fun e w' => AsSays ab most nest (step most nest m o) R e w' ∧ Ran w w' := by
  have H2 := h.alloc (opO o)
  rw [← RM.all_pull] at H2
  obtain ⟨o0, o1, o2⟩ := op_cells (H2.perm (RM.all_pull r ab most nest m _ _))
  have R2 : Ran w (w.alloc (opO o)) := Ran.new (Below.refl 0 w) _
  obtain ⟨w2, hw2⟩ : ∃ w2, w2 = w.alloc (opO o) := ⟨_, rfl⟩
  rw [← hw2] at H2 o0 o1 o2 R2
  have HT := Lib.hid H2
  unfold opV
  clear H2 h
  have hke := kind_eq o.ask
  have hkc := kind_cases o.ask
  by_cases k0 : kind o.ask = 0
  · have b0 : ((wrap64 (o.ask.tmod 6 + 6)).tmod 6 == 0) = true := by rw [hke, k0]; rfl
    clear hke hkc
    by_cases hl : (m.ms.length : Int) = nest
    · have hle : nest ≤ (r.was.length : Int) := by rw [hok.sync.len]; omega
      have Hidle := Lib.hid (fun (w3 : World) (h3 : Sat w3 (r.box ab most nest m * r.own m.ms (pts w.heap.size (opO o) * R))) => (⟨r, hok, h3⟩ : RLeaves ab most nest m (pts w.heap.size (opO o) * R) w3))
      have hst : step most nest m o = ((0, 42), m) := by unfold step; rw [if_pos k0, if_pos hl]
      have Hst := Lib.hid hst
      have Hcall := Lib.hid (rmark_full ab most nest r.now.p r.wp r.hp r.now.L.length r.now.cap r.was.length r.wc m.hist.length m.ms.length r.hc r.now.c w2 _ hle HT.out)
      clear hst hok hm hks hl k0 hle
      go_enter Try.func18, Try.ntmps18
      go_upto_region 1 with fail
      rw [← hw2]
      clear hw2
      go_wp2_with fail
      refine Hcall.out.mono ?_
      rintro e w3 ⟨⟨rfl, HT3⟩, R3⟩
      have HT4 := Lib.hid (RLeaves.drop (Hidle.out w3 HT3))
      have R4 := Below.trans R2 R3
      clear HT3 HT o0 o1 o2 R3 R2
      go_wp2_with fail
      go_ret2
      exact ⟨by rw [Hst.out]; exact ⟨rfl, HT4.out⟩, R4⟩
    · have hst : step most nest m o = (((m.ms.length : Int) + 1, 0), markM m) := by unfold step; rw [if_pos k0, if_neg hl]; rfl
      have Hst := Lib.hid hst
      have Hcall := Lib.hid (rmark_m ab most nest m r w2 _ hok hm (by omega) (by omega) HT.out)
      clear hst hok hm hks hl k0
      go_enter Try.func18, Try.ntmps18
      go_upto_region 1 with fail
      rw [← hw2]
      clear hw2
      go_wp2_with fail
      refine Hcall.out.mono ?_
      rintro e w3 ⟨⟨rfl, HT3⟩, R3⟩
      have HT4 := Lib.hid (RLeaves.drop HT3)
      have R4 := Below.trans R2 R3
      clear HT3 HT o0 o1 o2 R3 R2
      go_wp2_with fail
      go_ret2
      exact ⟨by rw [Hst.out]; exact ⟨rfl, HT4.out⟩, R4⟩
  · have b0 : ((wrap64 (o.ask.tmod 6 + 6)).tmod 6 == 0) = false := by rw [hke, beq_eq_false_iff_ne]; exact k0
    by_cases k1 : kind o.ask = 1
    · have b1 : ((wrap64 (o.ask.tmod 6 + 6)).tmod 6 == 1) = true := by rw [hke, k1]; rfl
      clear hke hkc
      by_cases hl : m.ms = []
      · have hw0 : r.was.length = 0 := by rw [hok.sync.len, hl]; rfl
        have HT0 : Sat w2 (pts ab (allO most nest r.now.p r.now.L.length r.now.cap r.now.c r.wp 0 r.wc m.hist.length r.hp m.ms.length r.hc) * r.own m.ms (pts w.heap.size (opO o) * R)) := by
          have h9 := HT.out
          unfold RM.all RM.box at h9
          rw [hw0] at h9
          exact h9
        have Hidle := Lib.hid (⟨r, hok, HT.out⟩ : RLeaves ab most nest m (pts w.heap.size (opO o) * R) w2)
        have hst : step most nest m o = ((0, 1), m) := by unfold step; rw [if_neg k0, if_pos k1, if_pos hl]
        have Hst := Lib.hid hst
        have Hcall := Lib.hid (rundo_none ab most nest r.now.p r.wp r.hp r.now.L.length r.now.cap r.wc m.hist.length m.ms.length r.hc r.now.c w2 _ HT0)
        clear hst hok hm hks hl k0 k1 hw0 HT0
        go_enter Try.func18, Try.ntmps18
        go_upto_region 1 with fail
        rw [← hw2]
        clear hw2
        go_wp2_with fail
        refine Hcall.out.mono ?_
        rintro e w3 ⟨rfl, rfl⟩
        have HT3 := Lib.hid (RLeaves.drop Hidle.out)
        go_wp2_with fail
        go_ret2
        exact ⟨by rw [Hst.out]; exact ⟨rfl, HT3.out⟩, R2⟩
      · have hst : step most nest m o = ((0, 0), undoM m) := by unfold step; rw [if_neg k0, if_pos k1, if_neg hl]; rfl
        have Hst := Lib.hid hst
        have Hcall := Lib.hid (rundo_m ab most nest m r w2 _ hok hm (by omega) hl HT.out)
        clear hst hok hm hks hl k0 k1
        go_enter Try.func18, Try.ntmps18
        go_upto_region 1 with fail
        rw [← hw2]
        clear hw2
        go_wp2_with fail
        refine Hcall.out.mono ?_
        rintro e w3 ⟨⟨rfl, HT3⟩, R3⟩
        have HT4 := Lib.hid (RLeaves.drop HT3)
        have R4 := Below.trans R2 R3
        clear HT3 HT o0 o1 o2 R3 R2
        go_wp2_with fail
        go_ret2
        exact ⟨by rw [Hst.out]; exact ⟨rfl, HT4.out⟩, R4⟩
    · have b1 : ((wrap64 (o.ask.tmod 6 + 6)).tmod 6 == 1) = false := by rw [hke, beq_eq_false_iff_ne]; exact k1
      by_cases k4 : kind o.ask = 4
      · have b4 : ((wrap64 (o.ask.tmod 6 + 6)).tmod 6 == 4) = true := by rw [hke, k4]; rfl
        clear hke hkc
        by_cases hl : (m.s.M o.k).isSome = true
        · have hst : step most nest m o = noted most m ⟨delM m.s.M o.k, m.s.c⟩ := by unfold step; rw [if_neg k0, if_neg k1, if_pos k4, if_pos hl]
          have Hst := Lib.hid hst
          have Hcall := Lib.hid (rdel_m ab most nest m r o.k w2 _ hok hm hb (by omega) hL ho.2.1 hl HT.out)
          clear hst hok hm hks hl k0 k1 k4
          go_enter Try.func18, Try.ntmps18
          go_upto_region 1 with fail
          rw [← hw2]
          clear hw2
          go_wp2_with fail
          refine Hcall.out.mono ?_
          rintro e w3 ⟨⟨rfl, HT3⟩, R3⟩
          have HT4 := Lib.hid (RLeaves.drop HT3)
          have R4 := Below.trans R2 R3
          clear HT3 HT o0 o1 o2 R3 R2
          go_wp2_with fail
          go_ret2
          exact ⟨by rw [Hst.out]; exact ⟨rfl, HT4.out⟩, R4⟩
        · have hl' : (m.s.M o.k).isSome = false := by simpa using hl
          have Hidle := Lib.hid (⟨r, hok, HT.out⟩ : RLeaves ab most nest m (pts w.heap.size (opO o) * R) w2)
          have hst : step most nest m o = ((0, 0), m) := by unfold step; rw [if_neg k0, if_neg k1, if_pos k4, if_neg hl]
          have Hst := Lib.hid hst
          have Hcall := Lib.hid (rdelnone_m ab most nest m r o.k w2 _ hok hL ho.2.1 hl' HT.out)
          clear hst hok hm hks hl hl' k0 k1 k4
          go_enter Try.func18, Try.ntmps18
          go_upto_region 1 with fail
          rw [← hw2]
          clear hw2
          go_wp2_with fail
          refine Hcall.out.mono ?_
          rintro e w3 ⟨rfl, rfl⟩
          have HT3 := Lib.hid (RLeaves.drop Hidle.out)
          go_wp2_with fail
          go_ret2
          exact ⟨by rw [Hst.out]; exact ⟨rfl, HT3.out⟩, R2⟩
      · have b4 : ((wrap64 (o.ask.tmod 6 + 6)).tmod 6 == 4) = false := by rw [hke, beq_eq_false_iff_ne]; exact k4
        by_cases k5 : kind o.ask = 5
        · have b5 : ((wrap64 (o.ask.tmod 6 + 6)).tmod 6 == 5) = true := by rw [hke, k5]; rfl
          have hst : step most nest m o = noted most m ⟨m.s.M, o.k⟩ := by unfold step; rw [if_neg k0, if_neg k1, if_neg k4, if_pos k5]
          have Hst := Lib.hid hst
          have Hcall := Lib.hid (rcell_m ab most nest m r o.k w2 _ hok hm hb (by omega) HT.out)
          clear hst hok hm hks k0 k1 k4 k5 hke hkc
          go_enter Try.func18, Try.ntmps18
          go_upto_region 1 with fail
          rw [← hw2]
          clear hw2
          go_wp2_with fail
          refine Hcall.out.mono ?_
          rintro e w3 ⟨⟨rfl, HT3⟩, R3⟩
          have HT4 := Lib.hid (RLeaves.drop HT3)
          have R4 := Below.trans R2 R3
          clear HT3 HT o0 o1 o2 R3 R2
          go_wp2_with fail
          go_ret2
          exact ⟨by rw [Hst.out]; exact ⟨rfl, HT4.out⟩, R4⟩
        · have b5 : ((wrap64 (o.ask.tmod 6 + 6)).tmod 6 == 5) = false := by rw [hke, beq_eq_false_iff_ne]; exact k5
          have hst : step most nest m o = noted most m ⟨putM m.s.M o.k o.v, m.s.c⟩ := by unfold step; rw [if_neg k0, if_neg k1, if_neg k4, if_neg k5]
          have Hst := Lib.hid hst
          have Hcall := Lib.hid (rset_m ab most nest m r o.k o.v w2 _ hok hm hb (by omega) hL hks HT.out)
          clear hst hok hm hks k0 k1 k4 k5 hke hkc
          go_enter Try.func18, Try.ntmps18
          go_upto_region 1 with fail
          rw [← hw2]
          clear hw2
          go_wp2_with fail
          refine Hcall.out.mono ?_
          rintro e w3 ⟨⟨rfl, HT3⟩, R3⟩
          have HT4 := Lib.hid (RLeaves.drop HT3)
          have R4 := Below.trans R2 R3
          clear HT3 HT o0 o1 o2 R3 R2
          go_wp2_with fail
          go_ret2
          exact ⟨by rw [Hst.out]; exact ⟨rfl, HT4.out⟩, R4⟩
def BadSays (R : Hp) (e : Ending) (w' : World) : Prop := ∃ mb cb, e = .returned (.tuple #[.agg #[.pointer none, .pointer (some ⟨mb, 0, none⟩), .pointer (some ⟨cb, 0, none⟩)], .int .i64 1]) ∧ Sat w' R
set_option maxRecDepth 100000 in
set_option maxHeartbeats 4000000 in
theorem begun_bad (most nest : Int) (hb : BadN most nest) (w : World) (R : Hp) (h : Sat w R) :
    Calls Try.prog 15 #[.int .i64 most, .int .i64 nest] w fun e w' => BadSays R e w' ∧ Ran w w' := by
  have H1 := Lib.hid (h.alloc (thingsO none none none))
  clear h
  go_enter Try.func15, Try.ntmps15
  go_wp2_with fail
  refine (new_bad most nest hb _).mono ?_
  rintro e w1 ⟨rfl, hw1⟩
  have H2 := H1.out
  have R2 : Ran w (w.alloc (thingsO none none none)) := Ran.new (Below.refl 0 w) _
  rw [hw1] at H2 R2
  have H2 := Lib.hid H2
  clear H1 hw1
  go_wp2_with fail
  refine (newmap_calls none w1 _ H2.out).mono ?_
  rintro e w2 ⟨mb, rfl, HM, R3⟩
  have HM0 := Lib.hid HM
  clear HM H2
  go_wp2_with fail
  refine (newcell_calls none ⟨#[]⟩ w2 _ HM0.out).mono ?_
  rintro e w3 ⟨cb, rfl, HC, R4⟩
  have HT := HC.perm (show _ = pts w.heap.size (thingsO none none none) * (CellAt cb none ⟨#[]⟩ * (MapAt mb none 0 (fun _ => none) * R)) by unfold CellAt; ac_rfl)
  have hg := HT.get
  have t0 : w3.cell? ⟨w.heap.size, 0, none⟩ = some (.pointer none) := by rw [cell_at hg]; rfl
  have t1 : w3.cell? ⟨w.heap.size, 1, none⟩ = some (.pointer none) := by rw [cell_at hg]; rfl
  have t2 : w3.cell? ⟨w.heap.size, 2, none⟩ = some (.pointer none) := by rw [cell_at hg]; rfl
  have tz : ∀ i, w3.frozen? ⟨w.heap.size, i, none⟩ = false := fun i => free_at hg i
  have HT0 := Lib.hid HT
  clear HT HC HM0 hg
  go_wp2_with fail
  have HT4 := ((HT0.out.set (i := 0) (.pointer none)).set (i := 1) (.pointer (some ⟨mb, 0, none⟩))).set (i := 2) (.pointer (some ⟨cb, 0, none⟩))
  obtain ⟨w4, hw4⟩ : ∃ w4, w4 = ((w3.setCell ⟨w.heap.size, 0, none⟩ (.pointer none)).setCell ⟨w.heap.size, 1, none⟩ (.pointer (some ⟨mb, 0, none⟩))).setCell ⟨w.heap.size, 2, none⟩ (.pointer (some ⟨cb, 0, none⟩)) := ⟨_, rfl⟩
  have R5 : Ran w w4 := by rw [hw4]; exact Ran.set (Ran.set (Ran.set (Below.trans (Below.trans R2 R3) R4) _ _) _ _) _ _
  rw [← hw4] at HT4; rw [← hw4]
  have hg := HT4.get
  have r0 : w4.cell? ⟨w.heap.size, 0, none⟩ = some (.pointer none) := by rw [cell_at hg]; rfl
  have r1 : w4.cell? ⟨w.heap.size, 1, none⟩ = some (.pointer (some ⟨mb, 0, none⟩)) := by rw [cell_at hg]; rfl
  have r2 : w4.cell? ⟨w.heap.size, 2, none⟩ = some (.pointer (some ⟨cb, 0, none⟩)) := by rw [cell_at hg]; rfl
  clear t0 t1 t2 tz hw4
  refine bodyPost_ret (v := .tuple #[.agg #[.pointer none, .pointer (some ⟨mb, 0, none⟩), .pointer (some ⟨cb, 0, none⟩)], .int .i64 1]) (by simp [results, Try.results15, go_sem, r0, r1, r2]) rfl ⟨⟨mb, cb, rfl, ?_⟩, R5⟩
  exact HT4.right.right.right
end Go.Proofs.Ytibgpkcklneloaa.Undo
