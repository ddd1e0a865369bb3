/- few, Mark with no room, does walked. -/
import Derived.Test.YtibgpkcklneloaaUnP
namespace Go.Proofs.Ytibgpkcklneloaa.Undo
open Go.RowKit Go.Proofs.Ytibgpkcklneloaa Go.Proofs.Ytibgpkcklneloaa.Hp
set_option linter.unusedVariables false
attribute [local go_sem] Oper.semAt_some

set_option maxRecDepth 100000 in
set_option maxHeartbeats 1000000 in
/-- Mark with no room. -/
theorem mark_full (lb : Nat) (most nest : Int) (fs : List Value) (ms : List Nat) (w : World) (R : Hp) (h : LogAt w lb most nest fs ms R) (hl : (ms.length : Int) = nest) :
    Calls Try.prog 10 #[.pointer (some ⟨lb, 0, none⟩)] w fun e w' => e = .returned (.tuple #[.int .i64 0, .int .i64 42]) ∧ LogAt w' lb most nest fs ms R ∧ Ran w w' := by
  obtain ⟨np, nc, mp, mc, HS⟩ := h
  obtain ⟨c0, c1, c2, c3, cz⟩ := log_cells HS.get
  have hne : ((ms.length : Int) == nest) = true := by rw [beq_iff_eq]; omega
  have HS0 := Lib.hid HS
  clear HS
  go_enter Try.func10, Try.ntmps10
  go_wp2_with fail
  go_quiet (fail)
  go_wp2_with fail
  go_ret2
  exact ⟨rfl, ⟨np, nc, mp, mc, HS0.out.drewN _⟩, Ran.drewN (Below.refl 0 w) _⟩
theorem Things.drop {w : World} {lb mb cb : Nat} {most nest : Int} {hist : List St} {ms : List Nat} {N : Nat} {s : St} {A R : Hp} (h : Things w lb mb cb most nest hist ms N s (A * R)) : Things w lb mb cb most nest hist ms N s R := by
  obtain ⟨rs, B, h0, h1, h2, h3, HL⟩ := h
  exact ⟨rs, B, h0, h1, h2, h3, (HL.perm (show _ = A * (all (Rec.own mb cb) rs * (MapAt mb (some ⟨lb, 0, none⟩) B s.M * (CellAt cb (some ⟨lb, 0, none⟩) s.c * R))) by unfold CellAt; ac_rfl)).right⟩
theorem Things.more {w : World} {lb mb cb : Nat} {most nest : Int} {hist : List St} {ms : List Nat} {N N' : Nat} {s : St} {R : Hp} (h : Things w lb mb cb most nest hist ms N s R) (hN : N ≤ N') : Things w lb mb cb most nest hist ms N' s R := by
  obtain ⟨rs, B, h0, h1, h2, h3, HL⟩ := h
  exact ⟨rs, B, h0, h1, h2, Nat.le_trans h3 hN, HL⟩
theorem markfull_things (lb mb cb : Nat) (most nest : Int) (hist : List St) (ms : List Nat) (N : Nat) (s : St) (w : World) (R : Hp) (hl : (ms.length : Int) = nest) (h : Things w lb mb cb most nest hist ms N s R) :
    Calls Try.prog 10 #[.pointer (some ⟨lb, 0, none⟩)] w fun e w' => (e = .returned (.tuple #[.int .i64 0, .int .i64 42]) ∧ Things w' lb mb cb most nest hist ms N s R) ∧ Ran w w' := by
  obtain ⟨rs, B, h0, h1, h2, h3, HL⟩ := h
  refine (mark_full lb most nest _ ms w _ HL hl).mono ?_
  rintro e w' ⟨rfl, HS, hr⟩
  exact ⟨⟨rfl, rs, B, h0, h1, h2, h3, HS⟩, hr⟩
/-- A log's machine. -/
structure Mach where
  hist : List St
  ms : List Nat
  s : St
abbrev ThingsM (w : World) (lb mb cb : Nat) (most nest : Int) (m : Mach) (N : Nat) (R : Hp) : Prop := Things w lb mb cb most nest m.hist m.ms N m.s R
def noted (most : Int) (m : Mach) (s2 : St) : (Int × Int) × Mach := ((0, tE most m.hist m.ms), ⟨tH most m.hist m.ms m.s, m.ms, if tE most m.hist m.ms = 0 then s2 else m.s⟩)
def kind (ask : Int) : Int := (ask.tmod 6 + 6).tmod 6
theorem tmod_range (a : Int) : -6 < a.tmod 6 ∧ a.tmod 6 < 6 := by
  rcases Int.le_total 0 a with h | h
  · rw [Int.tmod_eq_emod_of_nonneg h]; omega
  · have e : a = -(-a) := by omega
    rw [e, Int.neg_tmod, Int.tmod_eq_emod_of_nonneg (by omega)]; omega
theorem kind_eq (a : Int) : (wrap64 (a.tmod 6 + 6)).tmod 6 = kind a := by
  obtain ⟨h1, h2⟩ := tmod_range a
  unfold kind
  rw [show wrap64 (a.tmod 6 + 6) = a.tmod 6 + 6 by unfold wrap64; omega]
theorem kind_cases (ask : Int) : kind ask = 0 ∨ kind ask = 1 ∨ kind ask = 2 ∨ kind ask = 3 ∨ kind ask = 4 ∨ kind ask = 5 := by
  obtain ⟨h1, h2⟩ := tmod_range ask
  unfold kind
  rw [Int.tmod_eq_emod_of_nonneg (by omega)]
  omega
def step (most nest : Int) (m : Mach) (o : Opr) : (Int × Int) × Mach :=
  if kind o.ask = 0 then (if (m.ms.length : Int) = nest then ((0, 42), m) else (((m.ms.length : Int) + 1, 0), ⟨m.hist, m.ms ++ [m.hist.length], m.s⟩))
  else if kind o.ask = 1 then (if m.ms = [] then ((0, 1), m) else ((0, 0), ⟨m.hist.take (m.ms.getLastD 0), m.ms.dropLast, (m.hist ++ [m.s]).getD (m.ms.getLastD 0) m.s⟩))
  else if kind o.ask = 4 then (if (m.s.M o.k).isSome = true then noted most m ⟨delM m.s.M o.k, m.s.c⟩ else ((0, 0), m))
  else if kind o.ask = 5 then noted most m ⟨m.s.M, o.k⟩
  else noted most m ⟨putM m.s.M o.k o.v, m.s.c⟩
abbrev opO (o : Opr) : Obj := .cells #[.int .i64 o.ask, .string o.k, .int .i64 o.v] 46 (0, 0)
def opV (o : Opr) : Value := .agg #[.int .i64 o.ask, .string o.k, .int .i64 o.v]
theorem op_cells {w : World} {b : Nat} {o : Opr} {S : Hp} (h : Sat w (pts b (opO o) * S)) : w.cell? ⟨b, 0, none⟩ = some (.int .i64 o.ask) ∧ w.cell? ⟨b, 1, none⟩ = some (.string o.k) ∧ w.cell? ⟨b, 2, none⟩ = some (.int .i64 o.v) :=
  ⟨by rw [cell_at h.get]; rfl, by rw [cell_at h.get]; rfl, by rw [cell_at h.get]; rfl⟩
def DoesSays (lb mb cb : Nat) (most nest : Int) (r : (Int × Int) × Mach) (N : Nat) (R : Hp) (e : Ending) (w' : World) : Prop :=
  e = .returned (.tuple #[.int .i64 r.1.1, .int .i64 r.1.2]) ∧ ThingsM w' lb mb cb most nest r.2 N R
set_option maxRecDepth 100000 in
set_option maxHeartbeats 4000000 in
theorem does_calls (lb mb cb : Nat) (most nest : Int) (m : Mach) (N : Nat) (o : Opr) (w : World) (R : Hp) (ho : OkOp o) (hb : m.hist.length ≤ 1000000) (hms : m.ms.length ≤ 100000) (hnest : (m.ms.length : Int) ≤ nest) (hN : N < 1000000)
    (h : ThingsM w lb mb cb most nest m N R) :
    Calls Try.prog 17 #[thingsV lb mb cb, opV o] w fun e w' => DoesSays lb mb cb most nest (step most nest m o) (N + 2) R e w' ∧ Ran w w' := by
  have H2 := (Things.alloc h (tO lb mb cb)).alloc (opO o)
  rw [World.size_alloc] at H2
  obtain ⟨t0, t1, t2⟩ := t_cells (pull1 H2.rest)
  obtain ⟨o0, o1, o2⟩ := op_cells H2.rest
  have R2 : Ran w ((w.alloc (tO lb mb cb)).alloc (opO o)) := Ran.new (Ran.new (Below.refl 0 w) _) _
  obtain ⟨w2, hw2⟩ : ∃ w2, w2 = (w.alloc (tO lb mb cb)).alloc (opO o) := ⟨_, rfl⟩
  rw [← hw2] at H2 t0 t1 t2 o0 o1 o2 R2
  have HT := Lib.hid H2
  unfold thingsV opV
  clear H2 h
  have hke := kind_eq o.ask
  have hkc := kind_cases o.ask
  by_cases k0 : kind o.ask = 0
  · have b0 : ((wrap64 (o.ask.tmod 6 + 6)).tmod 6 == 0) = true := by rw [hke, k0]; rfl
    clear hke hkc
    by_cases hl : (m.ms.length : Int) = nest
    · have hst : step most nest m o = ((0, 42), m) := by unfold step; rw [if_pos k0, if_pos hl]
      have Hst := Lib.hid hst
      have Hcall := Lib.hid (markfull_things lb mb cb most nest m.hist m.ms N m.s w2 _ hl HT.out)
      clear hst hl k0
      go_enter Try.func17, Try.ntmps17
      go_upto_region 1 with fail
      rw [← hw2]
      clear hw2
      go_wp2_with fail
      refine Hcall.out.mono ?_
      rintro e w3 ⟨⟨rfl, HT3⟩, R3⟩
      have HT4 := Lib.hid (HT3.drop.drop)
      have R4 := Below.trans R2 R3
      clear HT3 HT t0 t1 t2 o0 o1 o2 R3 R2
      go_wp2_with fail
      go_ret2
      refine ⟨⟨by rw [Hst.out]; rfl, ?_⟩, R4⟩
      rw [Hst.out]
      exact HT4.out.more (by omega)
    · have hst : step most nest m o = (((m.ms.length : Int) + 1, 0), ⟨m.hist, m.ms ++ [m.hist.length], m.s⟩) := by unfold step; rw [if_pos k0, if_neg hl]
      have Hst := Lib.hid hst
      have Hcall := Lib.hid (mark_things lb mb cb most nest m.hist m.ms N m.s w2 _ (by omega) (by omega) (by omega) HT.out)
      clear hst hl k0
      go_enter Try.func17, Try.ntmps17
      go_upto_region 1 with fail
      rw [← hw2]
      clear hw2
      go_wp2_with fail
      refine Hcall.out.mono ?_
      rintro e w3 ⟨⟨rfl, HT3⟩, R3⟩
      have HT4 := Lib.hid (HT3.drop.drop)
      have R4 := Below.trans R2 R3
      clear HT3 HT t0 t1 t2 o0 o1 o2 R3 R2
      go_wp2_with fail
      go_ret2
      refine ⟨⟨by rw [Hst.out]; rfl, ?_⟩, R4⟩
      rw [Hst.out]
      exact HT4.out.more (by omega)
  · have b0 : ((wrap64 (o.ask.tmod 6 + 6)).tmod 6 == 0) = false := by rw [hke, beq_eq_false_iff_ne]; exact k0
    by_cases k1 : kind o.ask = 1
    · have b1 : ((wrap64 (o.ask.tmod 6 + 6)).tmod 6 == 1) = true := by rw [hke, k1]; rfl
      clear hke hkc
      by_cases hl : m.ms = []
      · have hst : step most nest m o = ((0, 1), m) := by unfold step; rw [if_neg k0, if_pos k1, if_pos hl]
        have Hst := Lib.hid hst
        have Hms := Lib.hid hl
        have HT0 : Things w2 lb mb cb most nest m.hist [] N m.s (pts (w.heap.size + 1) (opO o) * (pts w.heap.size (tO lb mb cb) * R)) := by have := HT.out; rw [hl] at this; exact this
        have Hcall := Lib.hid (undonone_things lb mb cb most nest m.hist N m.s w2 _ HT0)
        clear hst hl k0 k1 HT0
        go_enter Try.func17, Try.ntmps17
        go_upto_region 1 with fail
        rw [← hw2]
        clear hw2
        go_wp2_with fail
        refine Hcall.out.mono ?_
        rintro e w3 ⟨⟨rfl, HT3⟩, R3⟩
        have HT4 := Lib.hid (HT3.drop.drop)
        have R4 := Below.trans R2 R3
        clear HT3 HT t0 t1 t2 o0 o1 o2 R3 R2
        go_wp2_with fail
        go_ret2
        refine ⟨⟨by rw [Hst.out]; rfl, ?_⟩, R4⟩
        rw [Hst.out]
        have h9 := HT4.out.more (show N ≤ N + 2 by omega)
        unfold ThingsM
        rw [Hms.out]
        exact h9
      · have hst : step most nest m o = ((0, 0), ⟨m.hist.take (m.ms.getLastD 0), m.ms.dropLast, (m.hist ++ [m.s]).getD (m.ms.getLastD 0) m.s⟩) := by unfold step; rw [if_neg k0, if_pos k1, if_neg hl]
        have Hst := Lib.hid hst
        have hlast : m.ms = m.ms.dropLast ++ [m.ms.getLastD 0] := by
          rw [show m.ms.getLastD 0 = m.ms.getLast hl by rw [List.getLastD_eq_getLast?, List.getLast?_eq_some_getLast hl]; rfl]
          exact (List.dropLast_concat_getLast hl).symm
        have HT0 : Things w2 lb mb cb most nest m.hist (m.ms.dropLast ++ [m.ms.getLastD 0]) N m.s (pts (w.heap.size + 1) (opO o) * (pts w.heap.size (tO lb mb cb) * R)) := by have := HT.out; rw [hlast] at this; exact this
        have Hcall := Lib.hid (undo_things lb mb cb most nest m.hist m.ms.dropLast (m.ms.getLastD 0) N m.s w2 _ (by omega) (by rw [List.length_dropLast]; omega) (by unfold maxLen; omega) HT0)
        clear hst hl k0 k1 HT0 hlast
        go_enter Try.func17, Try.ntmps17
        go_upto_region 1 with fail
        rw [← hw2]
        clear hw2
        go_wp2_with fail
        refine Hcall.out.mono ?_
        rintro e w3 ⟨⟨rfl, HT3⟩, R3⟩
        have HT4 := Lib.hid (HT3.drop.drop)
        have R4 := Below.trans R2 R3
        clear HT3 HT t0 t1 t2 o0 o1 o2 R3 R2
        go_wp2_with fail
        go_ret2
        refine ⟨⟨by rw [Hst.out]; rfl, ?_⟩, R4⟩
        rw [Hst.out]
        exact HT4.out.more (by omega)
    · have b1 : ((wrap64 (o.ask.tmod 6 + 6)).tmod 6 == 1) = false := by rw [hke, beq_eq_false_iff_ne]; exact k1
      by_cases k4 : kind o.ask = 4
      · have b4 : ((wrap64 (o.ask.tmod 6 + 6)).tmod 6 == 4) = true := by rw [hke, k4]; rfl
        clear hke hkc
        by_cases hl : (m.s.M o.k).isSome = true
        · have hst : step most nest m o = noted most m ⟨delM m.s.M o.k, m.s.c⟩ := by unfold step; rw [if_neg k0, if_neg k1, if_pos k4, if_pos hl]
          have Hst := Lib.hid hst
          have Hcall := Lib.hid (del_things lb mb cb most nest m.hist m.ms N m.s o.k w2 _ ho.2.1 (by omega) (by omega) (by unfold maxLen; omega) hl HT.out)
          clear hst hl k0 k1 k4
          go_enter Try.func17, Try.ntmps17
          go_upto_region 1 with fail
          rw [← hw2]
          clear hw2
          go_wp2_with fail
          refine Hcall.out.mono ?_
          rintro e w3 ⟨⟨rfl, HT3⟩, R3⟩
          have HT4 := Lib.hid (HT3.drop.drop)
          have R4 := Below.trans R2 R3
          clear HT3 HT t0 t1 t2 o0 o1 o2 R3 R2
          go_wp2_with fail
          go_ret2
          refine ⟨⟨by rw [Hst.out]; rfl, ?_⟩, R4⟩
          rw [Hst.out]
          exact HT4.out
        · have hst : step most nest m o = ((0, 0), m) := by unfold step; rw [if_neg k0, if_neg k1, if_pos k4, if_neg hl]
          have Hst := Lib.hid hst
          have hl' : (m.s.M o.k).isSome = false := by simpa using hl
          have Hcall := Lib.hid (delnone_things lb mb cb most nest m.hist m.ms N m.s o.k w2 _ ho.2.1 hl' HT.out)
          clear hst hl k0 k1 k4 hl'
          go_enter Try.func17, Try.ntmps17
          go_upto_region 1 with fail
          rw [← hw2]
          clear hw2
          go_wp2_with fail
          refine Hcall.out.mono ?_
          rintro e w3 ⟨rfl, rfl⟩
          have HT4 := Lib.hid (HT.out.drop.drop)
          clear HT t0 t1 t2 o0 o1 o2
          go_wp2_with fail
          go_ret2
          refine ⟨⟨by rw [Hst.out]; rfl, ?_⟩, R2⟩
          rw [Hst.out]
          exact HT4.out.more (by omega)
      · have b4 : ((wrap64 (o.ask.tmod 6 + 6)).tmod 6 == 4) = false := by rw [hke, beq_eq_false_iff_ne]; exact k4
        by_cases k5 : kind o.ask = 5
        · have b5 : ((wrap64 (o.ask.tmod 6 + 6)).tmod 6 == 5) = true := by rw [hke, k5]; rfl
          have hst : step most nest m o = noted most m ⟨m.s.M, o.k⟩ := by unfold step; rw [if_neg k0, if_neg k1, if_neg k4, if_pos k5]
          have Hst := Lib.hid hst
          have Hcall := Lib.hid (cset_things lb mb cb most nest m.hist m.ms N m.s o.k w2 _ (by omega) (by omega) HT.out)
          clear hst k0 k1 k4 k5 hke hkc
          go_enter Try.func17, Try.ntmps17
          go_upto_region 1 with fail
          rw [← hw2]
          clear hw2
          go_wp2_with fail
          refine Hcall.out.mono ?_
          rintro e w3 ⟨⟨rfl, HT3⟩, R3⟩
          have HT4 := Lib.hid (HT3.drop.drop)
          have R4 := Below.trans R2 R3
          clear HT3 HT t0 t1 t2 o0 o1 o2 R3 R2
          go_wp2_with fail
          go_ret2
          refine ⟨⟨by rw [Hst.out]; rfl, ?_⟩, R4⟩
          rw [Hst.out]
          exact HT4.out
        · have b5 : ((wrap64 (o.ask.tmod 6 + 6)).tmod 6 == 5) = false := by rw [hke, beq_eq_false_iff_ne]; exact k5
          have hst : step most nest m o = noted most m ⟨putM m.s.M o.k o.v, m.s.c⟩ := by unfold step; rw [if_neg k0, if_neg k1, if_neg k4, if_neg k5]
          have Hst := Lib.hid hst
          have Hcall := Lib.hid (set_things lb mb cb most nest m.hist m.ms N m.s o.k o.v w2 _ ho.2.1 (wf_of ho.2.2) (by omega) (by omega) (by unfold maxLen; omega) HT.out)
          clear hst k0 k1 k4 k5 hke hkc
          go_enter Try.func17, Try.ntmps17
          go_upto_region 1 with fail
          rw [← hw2]
          clear hw2
          go_wp2_with fail
          refine Hcall.out.mono ?_
          rintro e w3 ⟨⟨rfl, HT3⟩, R3⟩
          have HT4 := Lib.hid (HT3.drop.drop)
          have R4 := Below.trans R2 R3
          clear HT3 HT t0 t1 t2 o0 o1 o2 R3 R2
          go_wp2_with fail
          go_ret2
          refine ⟨⟨by rw [Hst.out]; rfl, ?_⟩, R4⟩
          rw [Hst.out]
          exact HT4.out
end Go.Proofs.Ytibgpkcklneloaa.Undo
