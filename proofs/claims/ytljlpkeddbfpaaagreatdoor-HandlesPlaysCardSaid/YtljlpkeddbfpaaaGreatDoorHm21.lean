/- HandlesPlays, part 21 of 34: the texts HdPj HdPk HdPl, joined by a program. -/
import Derived.Test.YtljlpkeddbfpaaaGreatDoorHm20
namespace Go.Proofs.YtljlpkeddbfpaaaGreatDoor.Hd
open Go.RowKit Go.Maps Go.Proofs.YtljlpkeddbfpaaaGreatDoor Go.Proofs.YtljlpkeddbfpaaaGreatDoor.Hp
set_option linter.unusedVariables false
attribute [local go_sem] Oper.semAt_some

theorem pq_set {c : RT} {B : List Spill.Bf} {k : Nat} (hk : k < B.length) (y : Spill.Bf) (hy : y.rb = B[k].rb) : pqHp c (B.set k y) = pqHp c B := by
  unfold pqHp
  rw [List.length_set]
  have hm : (B.set k y).map Spill.rptr = B.map Spill.rptr := by
    rw [List.map_set]
    have : Spill.rptr y = (B.map Spill.rptr)[k]'(by simpa using hk) := by simp [Spill.rptr, hy]
    rw [this, List.set_getElem_self]
  rw [hm]
section
variable {w : World} {c : RT} {L : List DH} {qn : Nat} {R : Hp}
set_option maxRecDepth 100000 in
set_option maxHeartbeats 4000000 in
theorem RRead_none (id n : Int) (hL : L.length ≤ 1000000) (hp : placeN L id 0 = -1) (h : Sat w (rtHp c L qn * R)) :
    Calls Tryz.prog 54 #[pp c.tb, .int .i64 id, .int .i64 n] w fun e w' => e = .returned (.tuple #[.string ⟨#[]⟩, .int .i64 18]) ∧ w = w' := by
  have HP := rplace_calls c L qn id hL w R h
  rw [hp] at HP
  have HP := Lib.hid HP
  clear h hp
  go_enter Tryz.func54, Tryz.ntmps54
  go_wp2_with fail
  refine HP.out.mono ?_
  rintro e w1 ⟨rfl, rfl⟩
  clear HP
  go_wp2_with fail
  go_ret2
  exact ⟨rfl, rfl⟩
set_option maxRecDepth 100000 in
set_option maxHeartbeats 4000000 in
/-- Read of what may not be read. -/
theorem RRead_mode (id n : Int) (i : Nat) (hL : L.length ≤ 1000000) (hi : i < L.length) (hp : placeN L id 0 = (i : Int)) (hkd : L[i].kind = 3 ∨ L[i].kind = 5 ∨ (L[i].kind = 1 ∧ L[i].rd = false)) (h : Sat w (rtHp c L qn * R)) :
    Calls Tryz.prog 54 #[pp c.tb, .int .i64 id, .int .i64 n] w fun e w' => (e = .returned (.tuple #[.string ⟨#[]⟩, .int .i64 19]) ∧ Sat w' (rtHp c L qn * R)) ∧ Ran w w' := by
  have HP := rplace_calls c L qn id hL w R h
  rw [hp] at HP
  have HP := Lib.hid HP
  obtain ⟨c0, c1, c2, c3⟩ := rt_cells h
  obtain ⟨⟨b, o, hb⟩, hlc, hlm⟩ := rt_addr h hi
  obtain ⟨m0, m1, m2, m3, m4, m5, m6, m7, m8, m9, m10⟩ := dh_cells h hb hi
  have hbb := hb
  rw [hb] at c2
  have hcm : (c.lc : Int) ≤ 9223372036854775807 := by unfold maxLen at hlm; omega
  have hiI : (i : Int) < (L.length : Int) := by omega
  have hi0 : (0 : Int) ≤ (i : Int) := by omega
  have hLI : (L.length : Int) ≤ 1000000 := by omega
  obtain ⟨x, hx⟩ : ∃ x, x = L[i] := ⟨_, rfl⟩
  rw [← hx] at m0 m1 m2 m3 m4 m5 m6 m7 m8 m9 m10
  have HS0 := h.alloc (dhO x)
  obtain ⟨r0, r1, r2, r3, r4, r5, r6, r7, r8, r9, r10⟩ := dhO_cells HS0
  have S1 := And.intro (h.old (dhO x)) (Ran.new (Below.refl 0 w) (dhO x))
  rw [← hx] at hkd
  obtain ⟨xi, xk, xr, xa, xn, xrd, xpt, xmo, xd, xm, xp⟩ := x
  dsimp only at hkd S1 r0 r1 r2 r3 r4 r5 r6 r7 r8 r9 r10 m0 m1 m2 m3 m4 m5 m6 m7 m8 m9 m10
  clear h hp hx hb hbb hlm HS0
  have S1 := Lib.hid S1
  rcases hkd with rfl | rfl | ⟨rfl, rfl⟩
  all_goals
    go_enter Tryz.func54, Tryz.ntmps54
    go_wp2_with fail
    refine HP.out.mono ?_
    rintro e w1 ⟨rfl, rfl⟩
    clear HP
    go_wp2_with fail
    go_ret2
    exact ⟨⟨rfl, S1.out.1⟩, S1.out.2⟩
set_option maxRecDepth 100000 in
set_option maxHeartbeats 4000000 in
/-- Read of less than nothing. -/
theorem RRead_neg (id n : Int) (i : Nat) (hn : n < 0) (hL : L.length ≤ 1000000) (hi : i < L.length) (hp : placeN L id 0 = (i : Int)) (hkd : L[i].kind = 2 ∨ L[i].kind = 4 ∨ (L[i].kind = 1 ∧ L[i].rd = true)) (h : Sat w (rtHp c L qn * R)) :
    Calls Tryz.prog 54 #[pp c.tb, .int .i64 id, .int .i64 n] w fun e w' => (e = .returned (.tuple #[.string ⟨#[]⟩, .int .i64 1]) ∧ Sat w' (rtHp c L qn * R)) ∧ Ran w w' := by
  have HP := rplace_calls c L qn id hL w R h
  rw [hp] at HP
  have HP := Lib.hid HP
  obtain ⟨c0, c1, c2, c3⟩ := rt_cells h
  obtain ⟨⟨b, o, hb⟩, hlc, hlm⟩ := rt_addr h hi
  obtain ⟨m0, m1, m2, m3, m4, m5, m6, m7, m8, m9, m10⟩ := dh_cells h hb hi
  have hbb := hb
  rw [hb] at c2
  have hcm : (c.lc : Int) ≤ 9223372036854775807 := by unfold maxLen at hlm; omega
  have hiI : (i : Int) < (L.length : Int) := by omega
  have hi0 : (0 : Int) ≤ (i : Int) := by omega
  have hLI : (L.length : Int) ≤ 1000000 := by omega
  obtain ⟨x, hx⟩ : ∃ x, x = L[i] := ⟨_, rfl⟩
  rw [← hx] at m0 m1 m2 m3 m4 m5 m6 m7 m8 m9 m10
  have HS0 := h.alloc (dhO x)
  obtain ⟨r0, r1, r2, r3, r4, r5, r6, r7, r8, r9, r10⟩ := dhO_cells HS0
  have S1 := And.intro (h.old (dhO x)) (Ran.new (Below.refl 0 w) (dhO x))
  rw [← hx] at hkd
  obtain ⟨xi, xk, xr, xa, xn, xrd, xpt, xmo, xd, xm, xp⟩ := x
  dsimp only at hkd S1 r0 r1 r2 r3 r4 r5 r6 r7 r8 r9 r10 m0 m1 m2 m3 m4 m5 m6 m7 m8 m9 m10
  clear h hp hx hb hbb hlm HS0
  have S1 := Lib.hid S1
  have hdn : decide (n < 0) = true := decide_eq_true hn
  rcases hkd with rfl | rfl | ⟨rfl, rfl⟩
  all_goals
    go_enter Tryz.func54, Tryz.ntmps54
    go_wp2_with fail
    refine HP.out.mono ?_
    rintro e w1 ⟨rfl, rfl⟩
    clear HP
    go_wp2_with fail
    go_ret2
    exact ⟨⟨rfl, S1.out.1⟩, S1.out.2⟩
set_option maxRecDepth 100000 in
set_option maxHeartbeats 4000000 in
/-- Read of a text. -/
theorem RRead_text (id : Int) (i a m : Nat) (hm : m ≤ 9223372036854775807) (hL : L.length ≤ 1000000) (hi : i < L.length) (hp : placeN L id 0 = (i : Int)) (hkd : L[i].kind = 2) (ha : L[i].at_ = (a : Int)) (hle : a ≤ L[i].data.size) (hds : L[i].data.size ≤ 9000000) (h : Sat w (rtHp c L qn * R)) :
    Calls Tryz.prog 54 #[pp c.tb, .int .i64 id, .int .i64 (m : Int)] w fun e w' => (e = .returned (.tuple #[.string (readB L[i].data a m), .int .i64 0]) ∧ Sat w' (rtHp c (L.set i { L[i] with at_ := (a : Int) + ((readB L[i].data a m).size : Int) }) qn * R)) ∧ Ran w w' := by
  have HP := rplace_calls c L qn id hL w R h
  rw [hp] at HP
  have HP := Lib.hid HP
  obtain ⟨c0, c1, c2, c3⟩ := rt_cells h
  obtain ⟨⟨b, o, hb⟩, hlc, hlm⟩ := rt_addr h hi
  obtain ⟨m0, m1, m2, m3, m4, m5, m6, m7, m8, m9, m10⟩ := dh_cells h hb hi
  have hbb := hb
  rw [hb] at c2
  have hcm : (c.lc : Int) ≤ 9223372036854775807 := by unfold maxLen at hlm; omega
  have hiI : (i : Int) < (L.length : Int) := by omega
  have hi0 : (0 : Int) ≤ (i : Int) := by omega
  have hLI : (L.length : Int) ≤ 1000000 := by omega
  obtain ⟨x, hx⟩ : ∃ x, x = L[i] := ⟨_, rfl⟩
  rw [← hx] at m0 m1 m2 m3 m4 m5 m6 m7 m8 m9 m10
  have HS0 := h.alloc (dhO x)
  obtain ⟨r0, r1, r2, r3, r4, r5, r6, r7, r8, r9, r10⟩ := dhO_cells HS0
  have S1 := And.intro (h.old (dhO x)) (Ran.new (Below.refl 0 w) (dhO x))
  rw [← hx] at hkd ha hle hds ⊢
  have f0 : ∀ j, (w.alloc (dhO x)).frozen? ⟨b, j, none⟩ = false := fun j => by
    have := rt_arr (h.old (dhO x)); rw [hbb] at this; exact this.arr_free j
  have ST := fun (t : Int) => dh_set (h.old (dhO x)).drew hbb hi 3 (.int .i64 t) { x with at_ := t } (by omega) (by rw [← hx]; rfl)
  have c2A := (rt_cells (h.old (dhO x))).2.2.1
  rw [hbb] at c2A
  have m3A := (dh_cells (h.old (dhO x)) hbb hi).2.2.2.1
  rw [← hx] at m3A
  have rz : (readB x.data a m).size = min m (x.data.size - a) := by
    unfold readB; rw [Nat.min_eq_left hle]; simp
  have rv : readB x.data a m = if m < x.data.size - a then (x.data.extract a x.data.size).extract 0 m else x.data.extract a x.data.size := by
    unfold readB
    rw [Nat.min_eq_left hle]
    have hsz : (x.data.extract a x.data.size).size = x.data.size - a := by simp
    rw [hsz]
    split
    · rw [show min m (x.data.size - a) = m by omega]
    · rw [show min m (x.data.size - a) = x.data.size - a by omega, ← hsz]; apply ByteArray.ext; simp; rw [show min (a + (x.data.size - a)) x.data.size = x.data.size by omega]
  obtain ⟨rr, hrr⟩ : ∃ r, r = readB x.data a m := ⟨_, rfl⟩
  rw [← hrr] at rz rv ⊢
  have RS1 := S1.2
  obtain ⟨xi, xk, xr, xa, xn, xrd, xpt, xmo, xd, xm, xp⟩ := x
  dsimp only at hkd ha hle hds rz rv ST S1 RS1 f0 c2A m3A r0 r1 r2 r3 r4 r5 r6 r7 r8 r9 r10 ⊢
  clear h hp hx hb hbb hlm HS0 hrr 
  subst hkd ha
  have hdn : decide ((m : Int) < 0) = false := decide_eq_false (by omega)
  have ha0 : (0 : Int) ≤ (a : Int) := by omega
  have hleI : (a : Int) ≤ (xd.size : Int) := by omega
  have hdsI : (xd.size : Int) ≤ 9000000 := by omega
  by_cases hm2 : m < xd.size - a
  · rw [if_pos hm2] at rv
    have rzI : (rr.size : Int) = (m : Int) := by omega
    rw [rzI]
    have S9 := Lib.hid (And.intro (ST ((a : Int) + (m : Int))) RS1)
    have HV := Lib.hid rv
    have hle2 : m ≤ xd.size - a := by omega
    have hwp : IntKind.i64.wrap ((a : Int) + (m : Int)) = (a : Int) + (m : Int) := IntWalk.i64_in _ (by omega)
    rw [rv]
    clear rv rz rzI S1 RS1 ST
    go_enter Tryz.func54, Tryz.ntmps54
    go_wp2_with fail
    refine HP.out.mono ?_
    rintro e w1 ⟨rfl, rfl⟩
    clear HP
    go_upto_region 17 with fail
    obtain ⟨W, hW⟩ : ∃ W, W = w.alloc (dhO ⟨xi, 2, xr, (a : Int), xn, xrd, xpt, xmo, xd, xm, xp⟩) := ⟨_, rfl⟩
    rw [← hW] at S9 f0 c2A m3A r3 ⊢
    clear hW r0 r1 r2 r4 r5 r6 r7 r8 r9 r10
    go_still_tail 12, (by kernel_rfl)
    go_wp2_with fail
    go_ret2
    exact ⟨⟨rfl, S9.out.1⟩, Ran.set (Ran.drewN S9.out.2 1) _ _⟩
  · rw [if_neg hm2] at rv
    have rzI : (rr.size : Int) = ((xd.size - a : Nat) : Int) := by omega
    rw [rzI]
    have S9 := Lib.hid (And.intro (ST ((a : Int) + ((xd.size - a : Nat) : Int))) RS1)
    have hle2 : xd.size - a ≤ m := by omega
    have hwp : IntKind.i64.wrap ((a : Int) + ((xd.size - a : Nat) : Int)) = (a : Int) + ((xd.size - a : Nat) : Int) := IntWalk.i64_in _ (by omega)
    rw [rv]
    clear rv rz rzI S1 RS1 ST
    go_enter Tryz.func54, Tryz.ntmps54
    go_wp2_with fail
    refine HP.out.mono ?_
    rintro e w1 ⟨rfl, rfl⟩
    clear HP
    go_upto_region 17 with fail
    obtain ⟨W, hW⟩ : ∃ W, W = w.alloc (dhO ⟨xi, 2, xr, (a : Int), xn, xrd, xpt, xmo, xd, xm, xp⟩) := ⟨_, rfl⟩
    rw [← hW] at S9 f0 c2A m3A r3 ⊢
    clear hW r0 r1 r2 r4 r5 r6 r7 r8 r9 r10
    go_still_tail 12, (by kernel_rfl)
    go_wp2_with fail
    go_ret2
    exact ⟨⟨rfl, S9.out.1⟩, Ran.set (Ran.drewN S9.out.2 1) _ _⟩
end
end Go.Proofs.YtljlpkeddbfpaaaGreatDoor.Hd

namespace Go.Proofs.YtljlpkeddbfpaaaGreatDoor.Hd
open Go.RowKit Go.Maps Go.Proofs.YtljlpkeddbfpaaaGreatDoor Go.Proofs.YtljlpkeddbfpaaaGreatDoor.Hp
set_option linter.unusedVariables false
attribute [local go_sem] Oper.semAt_some

section
variable {w : World} {c : RT} {L : List DH} {B : List Spill.Bf} {R : Hp}
set_option maxRecDepth 100000 in
set_option maxHeartbeats 4000000 in
/-- Read of a pipe's end. -/
theorem RRead_reader (id : Int) (i k m ba rb cap : Nat) (p : Option Addr) (pre data : List UInt8) (hm : m ≤ 9223372036854775807) (hL : L.length ≤ 1000000) (hi : i < L.length) (hp : placeN L id 0 = (i : Int)) (hkd : L[i].kind = 4) (hpi : L[i].pipe = (k : Int) + 1) (hk : k < B.length) (hBk : B[k] = ⟨ba, rb, false, pre, data⟩) (hB : B.length ≤ 1000000) (hsm : pre.length + data.length ≤ 1000000) (h : Sat w (rtHp c L B.length * (pqHp c B * (Spill.rpool c.rp 40 3 4 cap p B * (all Spill.rbuf B * R))))) :
    Calls Tryz.prog 54 #[pp c.tb, .int .i64 id, .int .i64 (m : Int)] w fun e w' => (e = .returned (.tuple #[.string ⟨(data.take (min m data.length)).toArray⟩, .int .i64 0]) ∧ Sat w' (rtHp c L B.length * (pqHp c (B.set k ⟨ba, rb, false, pre ++ data.take (min m data.length), data.drop (min m data.length)⟩) * (Spill.rpool c.rp 40 3 4 cap p (B.set k ⟨ba, rb, false, pre ++ data.take (min m data.length), data.drop (min m data.length)⟩) * (all Spill.rbuf (B.set k ⟨ba, rb, false, pre ++ data.take (min m data.length), data.drop (min m data.length)⟩) * R))))) ∧ Ran w w' := by
  have HP := rplace_calls c L B.length id hL w _ h
  rw [hp] at HP
  have HP := Lib.hid HP
  obtain ⟨c0, c1, c2, c3⟩ := rt_cells h
  obtain ⟨⟨b, o, hb⟩, hlc, hlm⟩ := rt_addr h hi
  obtain ⟨m0, m1, m2, m3, m4, m5, m6, m7, m8, m9, m10⟩ := dh_cells h hb hi
  have hbb := hb
  rw [hb] at c2
  have hcm : (c.lc : Int) ≤ 9223372036854775807 := by unfold maxLen at hlm; omega
  have hiI : (i : Int) < (L.length : Int) := by omega
  have hi0 : (0 : Int) ≤ (i : Int) := by omega
  have hLI : (L.length : Int) ≤ 1000000 := by omega
  obtain ⟨x, hx⟩ : ∃ x, x = L[i] := ⟨_, rfl⟩
  rw [← hx] at m0 m1 m2 m3 m4 m5 m6 m7 m8 m9 m10
  have HS0 := h.alloc (dhO x)
  obtain ⟨r0, r1, r2, r3, r4, r5, r6, r7, r8, r9, r10⟩ := dhO_cells HS0
  have S1 := And.intro (h.old (dhO x)) (Ran.new (Below.refl 0 w) (dhO x))
  rw [← hx] at hkd hpi
  have hS2 := (h.alloc (dhO x)).drew
  have hS2 := hS2.perm (show _ = Spill.rpool c.rp 40 3 4 cap p B * (all Spill.rbuf B * (pts w.heap.size (dhO x) * (rtHp c L B.length * (pqHp c B * R)))) by ac_rfl)
  have hS3 := Spill.rfocus hk hS2
  rw [hBk] at hS3
  have HDR := Lib.hid (Spill.rdrain_open ba rb m (min m data.length) pre data _ _ hsm (by omega) rfl hS3)
  obtain ⟨dm, hdm⟩ : ∃ d, d = min m data.length := ⟨_, rfl⟩
  rw [← hdm] at HDR ⊢
  have HU := Lib.hid (fun (W' : World) (hX : Sat W' (Spill.rbuf ⟨ba, rb, false, pre ++ data.take dm, data.drop dm⟩ * Spill.rrest c.rp 40 3 4 cap k p B (pts w.heap.size (dhO x) * (rtHp c L B.length * (pqHp c B * R))))) => (Spill.runfocus hk ⟨ba, rb, false, pre ++ data.take dm, data.drop dm⟩ (by rw [hBk]) hX).perm (show _ = pts w.heap.size (dhO x) * (rtHp c L B.length * (pqHp c B * (Spill.rpool c.rp 40 3 4 cap p (B.set k ⟨ba, rb, false, pre ++ data.take dm, data.drop dm⟩) * (all Spill.rbuf (B.set k ⟨ba, rb, false, pre ++ data.take dm, data.drop dm⟩) * R)))) by ac_rfl))
  rw [pq_set hk _ (by rw [hBk])]
  obtain ⟨B2, hB2⟩ : ∃ B2, B2 = B.set k ⟨ba, rb, false, pre ++ data.take dm, data.drop dm⟩ := ⟨_, rfl⟩
  rw [← hB2] at HU ⊢
  have hrb : B[k].rb = rb := by rw [hBk]
  have HC := Lib.hid (fun (W' : World) (X : Hp) (hX : Sat W' (pts w.heap.size (dhO x) * (rtHp c L B.length * (pqHp c B * X)))) (b2 o2 : Nat) (hb2 : c.qp = some ⟨b2, o2, none⟩) => (show W'.cell? ⟨c.tb, 3, none⟩ = some (.slice (some ⟨b2, o2, none⟩) B.length c.qc) ∧ W'.cell? ⟨b2, o2 + k, none⟩ = some (pp rb) ∧ W'.cell? ⟨w.heap.size, 10, none⟩ = some (.int .i64 x.pipe) by
    have e3 := (rt_cells hX.right).2.2.2
    obtain ⟨⟨b4, o4, hb4, Q4⟩, -, -⟩ := pq_cell (hX.right.right) hk
    rw [hb2] at hb4
    obtain ⟨rfl, rfl⟩ : b2 = b4 ∧ o2 = o4 := by injection hb4 with e; injection e with e1 e2; exact ⟨e1, e2⟩
    rw [hb2] at e3
    rw [hrb] at Q4
    exact ⟨e3, Q4, (dhO_cells hX).2.2.2.2.2.2.2.2.2.2⟩))
  obtain ⟨⟨b2, o2, hb2, -⟩, hqc, hqm⟩ := pq_cell ((h.alloc (dhO x)).right.right) hk
  obtain ⟨C3, Q0, R10⟩ := HC.out _ _ (h.alloc (dhO x)).drew b2 o2 hb2
  have HB2 := Lib.hid hb2
  have hqm : (c.qc : Int) ≤ 9223372036854775807 := by unfold maxLen at hqm; omega
  have hqcI : (B.length : Int) ≤ (c.qc : Int) := by omega
  have hkI : (k : Int) < (B.length : Int) := by omega
  have hk0 : (0 : Int) ≤ (k : Int) := by omega
  have hBI : (B.length : Int) ≤ 1000000 := by omega
  have hwk : IntKind.i64.wrap (k : Int) = (k : Int) := IntWalk.i64_in _ (by omega)
  have hdn : decide ((m : Int) < 0) = false := decide_eq_false (by omega)
  obtain ⟨xi, xk, xr, xa, xn, xrd, xpt, xmo, xd, xm, xp⟩ := x
  dsimp only at hkd hpi R10 r0 r1 r2 r3 r4 r5 r6 r7 r8 r9 r10
  subst hkd hpi
  clear h hp hx hb hbb hlm HS0 S1 hS2 hS3 hB2 hrb hb2 hBk hdm hsm 
  go_enter Tryz.func54, Tryz.ntmps54
  go_wp2_with fail
  refine HP.out.mono ?_
  rintro e w1 ⟨rfl, rfl⟩
  clear HP
  go_upto_region 10 with fail
  refine region_plan (S := (fun w' => w'.cell? ⟨c.tb, 3, none⟩ = some (.slice (some ⟨b2, o2, none⟩) B.length c.qc) ∧ w'.cell? ⟨b2, o2 + k, none⟩ = some (pp rb) ∧ w'.cell? ⟨w.heap.size, 10, none⟩ = some (.int .i64 ((k : Int) + 1)))) [(0, true), (1, true), (2, true), (3, true), (4, true), (5, true), (6, true), (7, true), (8, true), (9, true), (10, false), (11, true), (12, true), (13, true), (14, true)] (by kernel_rfl) (by kernel_rfl) (by kernel_rfl) ?_ ?_
  · ((try dsimp only); (first | done | (first | exact Kset.out | exact ⟨C3, Q0, R10⟩)))
  simp only [planOps, List.map_cons, List.map_nil, List.getElem?_toArray, List.getElem?_cons_zero, List.getElem?_cons_succ]
  repeat (first
    | ((refine plan_yes (v := ?_) (by rfl) ?_ ?_); rotate_left; (focus (intro w hSw; (try dsimp only at hSw); go_simp; try (with_reducible rfl))); (try simp only [Act.put, List.setIfInBounds_toArray, List.set_cons_zero, List.set_cons_succ]))
    | ((refine plan_no (by rfl) ?_); (try simp only [Act.put, List.setIfInBounds_toArray, List.set_cons_zero, List.set_cons_succ]))
    | ((refine plan_step (fun K hK => ?_)); (first | (go_simp; (go_at_call 83; refine HDR.out.mono ?_; rintro e w3 ⟨rfl, S3, R3⟩; have S3 := HU.out _ S3; have Kset := Lib.hid (HC.out _ _ S3 b2 o2 HB2.out); have S3 := Lib.hid S3.right; have R3 := Lib.hid (Below.trans (Ran.drewN (Ran.new (Below.refl 0 w) _) 1) R3)); (try go_wp2_with fail)) | go_simp); (refine hK.out _ _ ?_ (fun hHeld => ?_)); (focus ((try dsimp only); (first | done | (first | exact Kset.out | exact ⟨C3, Q0, R10⟩)))); clear hK K; (try simp only [Act.put, List.setIfInBounds_toArray, List.set_cons_zero, List.set_cons_succ])))
  refine plan_done ?_
  go_wp2_with fail
  go_ret2
  exact ⟨⟨rfl, S3.out⟩, R3.out⟩
end
section
variable {w : World} {c : RT} {L : List DH} {qn : Nat} {cf : RF} {N : List DN} {R : Hp}
set_option maxRecDepth 100000 in
set_option maxHeartbeats 4000000 in
/-- Read of a file. -/
theorem RRead_file (id : Int) (i a m j : Nat) (hrf : c.rf = cf.fb) (hm : m ≤ 9223372036854775807) (hL : L.length ≤ 1000000) (hi : i < L.length) (hp : placeN L id 0 = (i : Int)) (hkd : L[i].kind = 1) (hrd : L[i].rd = true) (ha : L[i].at_ = (a : Int)) (hnd : L[i].node = (j : Int)) (hj1 : 1 ≤ j) (hj : j < N.length) (hjk : N[j].kind = 2) (hjt : N[j].text.size ≤ 1000000) (ha2 : a ≤ 1000000000) (h : Sat w (rtHp c L qn * (rfHp cf N * R))) :
    Calls Tryz.prog 54 #[pp c.tb, .int .i64 id, .int .i64 (m : Int)] w fun e w' => (e = .returned (.tuple #[.string (readB N[j].text a m), .int .i64 0]) ∧ Sat w' (rtHp c (L.set i { L[i] with at_ := (a : Int) + ((readB N[j].text a m).size : Int) }) qn * (rfHp cf N * R))) ∧ Ran w w' := by
  have HP := rplace_calls c L qn id hL w _ h
  rw [hp] at HP
  have HP := Lib.hid HP
  obtain ⟨c0, c1, c2, c3⟩ := rt_cells h
  obtain ⟨⟨b, o, hb⟩, hlc, hlm⟩ := rt_addr h hi
  obtain ⟨m0, m1, m2, m3, m4, m5, m6, m7, m8, m9, m10⟩ := dh_cells h hb hi
  have hbb := hb
  rw [hb] at c2
  have hcm : (c.lc : Int) ≤ 9223372036854775807 := by unfold maxLen at hlm; omega
  have hiI : (i : Int) < (L.length : Int) := by omega
  have hi0 : (0 : Int) ≤ (i : Int) := by omega
  have hLI : (L.length : Int) ≤ 1000000 := by omega
  obtain ⟨x, hx⟩ : ∃ x, x = L[i] := ⟨_, rfl⟩
  rw [← hx] at m0 m1 m2 m3 m4 m5 m6 m7 m8 m9 m10
  have HS0 := h.alloc (dhO x)
  obtain ⟨r0, r1, r2, r3, r4, r5, r6, r7, r8, r9, r10⟩ := dhO_cells HS0
  have S1 := And.intro (h.old (dhO x)) (Ran.new (Below.refl 0 w) (dhO x))
  rw [← hx] at hkd hrd ha hnd ⊢
  have hRD := frread_calls (c := cf) a m hj1 hj (by omega) (by omega) hjt ha2 hm ((h.alloc (dhO x)).drew.perm (show _ = rfHp cf N * (pts w.heap.size (dhO x) * (rtHp c L qn * R)) by ac_rfl))
  have hrz : (readB N[j].text a m).size ≤ 1000000 := by unfold readB; simp; omega
  obtain ⟨rr, hrr⟩ : ∃ r, r = readB N[j].text a m := ⟨_, rfl⟩
  rw [← hrr] at hRD hrz ⊢
  have HRD := Lib.hid hRD
  have HC := Lib.hid (fun (W' : World) (X : Hp) (hX : Sat W' (pts w.heap.size (dhO x) * (rtHp c L qn * X))) => (show W'.cell? ⟨c.tb, 0, none⟩ = some (pp cf.fb) ∧ W'.cell? ⟨w.heap.size, 4, none⟩ = some (.int .i64 x.node) ∧ W'.cell? ⟨w.heap.size, 3, none⟩ = some (.int .i64 x.at_) by
    have e0 := (rt_cells hX.right).1
    rw [hrf] at e0
    exact ⟨e0, (dhO_cells hX).2.2.2.2.1, (dhO_cells hX).2.2.2.1⟩))
  have HD := Lib.hid (fun (W' : World) (X : Hp) (hX : Sat W' (pts w.heap.size (dhO x) * (rtHp c L qn * X))) => (show W'.cell? ⟨c.tb, 2, none⟩ = some (.slice (some ⟨b, o, none⟩) L.length c.lc) ∧ W'.cell? ⟨w.heap.size, 3, none⟩ = some (.int .i64 x.at_) ∧ W'.cell? ⟨b, o + i * 11 + 3, none⟩ = some (.int .i64 x.at_) ∧ (∀ j, W'.frozen? ⟨b, j, none⟩ = false) ∧ Sat (W'.drew.setCell ⟨b, o + i * 11 + 3, none⟩ (.int .i64 ((a : Int) + (rr.size : Int)))) (rtHp c (L.set i { x with at_ := (a : Int) + (rr.size : Int) }) qn * X) by
    have e2 := (rt_cells hX.right).2.2.1
    rw [hbb] at e2
    refine ⟨e2, (dhO_cells hX).2.2.2.1, ?_, fun j => ?_, ?_⟩
    · have := (dh_cells hX.right hbb hi).2.2.2.1
      rw [← hx] at this; exact this
    · have := rt_arr hX.right; rw [hbb] at this; exact this.arr_free j
    · exact dh_set hX.right.drew hbb hi 3 (.int .i64 ((a : Int) + (rr.size : Int))) { x with at_ := (a : Int) + (rr.size : Int) } (by omega) (by rw [← hx]; rfl)))
  obtain ⟨k0, k4, k3⟩ := HC.out _ _ (h.alloc (dhO x)).drew
  have hrzI : (rr.size : Int) ≤ 1000000 := by omega
  have haI : (a : Int) ≤ 1000000000 := by omega
  have ha0 : (0 : Int) ≤ (a : Int) := by omega
  have hwp : IntKind.i64.wrap ((a : Int) + (rr.size : Int)) = (a : Int) + (rr.size : Int) := IntWalk.i64_in _ (by omega)
  have hdn : decide ((m : Int) < 0) = false := decide_eq_false (by omega)
  obtain ⟨xi, xk, xr, xa, xn, xrd, xpt, xmo, xd, xm, xp⟩ := x
  dsimp only at hkd hrd ha hnd k3 k4 HC HD r0 r1 r2 r3 r4 r5 r6 r7 r8 r9 r10 ⊢
  subst hkd hrd ha hnd
  clear h hp hx hb hbb hlm HS0 S1 hrr hRD hrz hjk hjt hrf 
  go_enter Tryz.func54, Tryz.ntmps54
  go_wp2_with fail
  refine HP.out.mono ?_
  rintro e w1 ⟨rfl, rfl⟩
  clear HP
  go_upto_region 13 with fail
  refine region_plan (S := (fun w' => w'.cell? ⟨c.tb, 0, none⟩ = some (pp cf.fb) ∧ w'.cell? ⟨w.heap.size, 4, none⟩ = some (.int .i64 (j : Int)) ∧ w'.cell? ⟨w.heap.size, 3, none⟩ = some (.int .i64 (a : Int)))) [(0, true), (1, true), (2, true), (3, true), (4, true), (5, true), (6, true), (7, true), (8, true), (9, false), (10, true), (11, true), (12, true), (13, true)] (by kernel_rfl) (by kernel_rfl) (by kernel_rfl) ?_ ?_
  · ((try dsimp only); (first | done | (first | exact Kset.out | exact ⟨k0, k4, k3⟩)))
  simp only [planOps, List.map_cons, List.map_nil, List.getElem?_toArray, List.getElem?_cons_zero, List.getElem?_cons_succ]
  repeat (first
    | ((refine plan_yes (v := ?_) (by rfl) ?_ ?_); rotate_left; (focus (intro w hSw; (try dsimp only at hSw); go_simp; try (with_reducible rfl))); (try simp only [Act.put, List.setIfInBounds_toArray, List.set_cons_zero, List.set_cons_succ]))
    | ((refine plan_no (by rfl) ?_); (try simp only [Act.put, List.setIfInBounds_toArray, List.set_cons_zero, List.set_cons_succ]))
    | ((refine plan_step (fun K hK => ?_)); (first | (go_simp; (go_at_call 84; refine HRD.out.mono ?_; rintro e w3 ⟨⟨rfl, S3⟩, R3⟩; have S3 := S3.perm (show _ = pts w.heap.size (dhO ⟨xi, 1, xr, (a : Int), (j : Int), true, xpt, xmo, xd, xm, xp⟩) * (rtHp c L qn * (rfHp cf N * R)) by ac_rfl); have Kset := Lib.hid (HC.out _ _ S3); obtain ⟨q2, q3, q4, qf, q5⟩ := HD.out _ _ S3; have S3 := Lib.hid q5; have R3 := Lib.hid (Below.trans (Ran.drewN (Ran.new (Below.refl 0 w) _) 1) R3); clear q5); (try go_wp2_with fail)) | go_simp); (refine hK.out _ _ ?_ (fun hHeld => ?_)); (focus ((try dsimp only); (first | done | (first | exact Kset.out | exact ⟨k0, k4, k3⟩)))); clear hK K; (try simp only [Act.put, List.setIfInBounds_toArray, List.set_cons_zero, List.set_cons_succ])))
  refine plan_done ?_
  clear r0 r1 r2 r3 r4 r5 r6 r7 r8 r9 r10 k0 k3 k4 c0 c1 c2 c3
  go_upto_region 17 with fail
  go_still_tail 12, (by kernel_rfl)
  go_wp2_with fail
  go_ret2
  exact ⟨⟨rfl, S3.out⟩, Ran.set (Ran.drewN R3.out 1) _ _⟩
end
end Go.Proofs.YtljlpkeddbfpaaaGreatDoor.Hd

namespace Go.Proofs.YtljlpkeddbfpaaaGreatDoor.Hd
open Go.RowKit Go.Maps Go.Proofs.YtljlpkeddbfpaaaGreatDoor Go.Proofs.YtljlpkeddbfpaaaGreatDoor.Hp
set_option linter.unusedVariables false
attribute [local go_sem] Oper.semAt_some

section
variable {w : World} {c : RT} {L : List DH} {qn : Nat} {R : Hp}
set_option maxRecDepth 100000 in
set_option maxHeartbeats 4000000 in
theorem RWrite_none (id : Int) (d : ByteArray) (hL : L.length ≤ 1000000) (hp : placeN L id 0 = -1) (h : Sat w (rtHp c L qn * R)) :
    Calls Tryz.prog 55 #[pp c.tb, .int .i64 id, .string d] w fun e w' => e = .returned (.int .i64 18) ∧ w = w' := by
  have HP := rplace_calls c L qn id hL w R h
  rw [hp] at HP
  have HP := Lib.hid HP
  clear h hp
  go_enter Tryz.func55, Tryz.ntmps55
  go_wp2_with fail
  refine HP.out.mono ?_
  rintro e w1 ⟨rfl, rfl⟩
  clear HP
  go_wp2_with fail
  go_ret
  exact ⟨rfl, rfl⟩
set_option maxRecDepth 100000 in
set_option maxHeartbeats 4000000 in
/-- Write to what may not be written. -/
theorem RWrite_mode (id : Int) (d : ByteArray) (i : Nat) (hL : L.length ≤ 1000000) (hi : i < L.length) (hp : placeN L id 0 = (i : Int)) (hkd : L[i].kind = 2 ∨ L[i].kind = 4 ∨ (L[i].kind = 1 ∧ L[i].pt = false)) (h : Sat w (rtHp c L qn * R)) :
    Calls Tryz.prog 55 #[pp c.tb, .int .i64 id, .string d] w fun e w' => (e = .returned (.int .i64 19) ∧ Sat w' (rtHp c L qn * R)) ∧ Ran w w' := by
  have HP := rplace_calls c L qn id hL w R h
  rw [hp] at HP
  have HP := Lib.hid HP
  obtain ⟨c0, c1, c2, c3⟩ := rt_cells h
  obtain ⟨⟨b, o, hb⟩, hlc, hlm⟩ := rt_addr h hi
  obtain ⟨m0, m1, m2, m3, m4, m5, m6, m7, m8, m9, m10⟩ := dh_cells h hb hi
  have hbb := hb
  rw [hb] at c2
  have hcm : (c.lc : Int) ≤ 9223372036854775807 := by unfold maxLen at hlm; omega
  have hiI : (i : Int) < (L.length : Int) := by omega
  have hi0 : (0 : Int) ≤ (i : Int) := by omega
  have hLI : (L.length : Int) ≤ 1000000 := by omega
  obtain ⟨x, hx⟩ : ∃ x, x = L[i] := ⟨_, rfl⟩
  rw [← hx] at m0 m1 m2 m3 m4 m5 m6 m7 m8 m9 m10
  have HS0 := h.alloc (dhO x)
  obtain ⟨r0, r1, r2, r3, r4, r5, r6, r7, r8, r9, r10⟩ := dhO_cells HS0
  have S1 := And.intro (h.old (dhO x)) (Ran.new (Below.refl 0 w) (dhO x))
  rw [← hx] at hkd
  obtain ⟨xi, xk, xr, xa, xn, xrd, xpt, xmo, xd, xm, xp⟩ := x
  dsimp only at hkd S1 r0 r1 r2 r3 r4 r5 r6 r7 r8 r9 r10 m0 m1 m2 m3 m4 m5 m6 m7 m8 m9 m10
  clear h hp hx hb hbb hlm HS0
  have S1 := Lib.hid S1
  rcases hkd with rfl | rfl | ⟨rfl, rfl⟩
  all_goals
    go_enter Tryz.func55, Tryz.ntmps55
    go_wp2_with fail
    refine HP.out.mono ?_
    rintro e w1 ⟨rfl, rfl⟩
    clear HP
    go_wp2_with fail
    go_ret
    exact ⟨⟨rfl, S1.out.1⟩, S1.out.2⟩
set_option maxRecDepth 100000 in
set_option maxHeartbeats 4000000 in
/-- Write to a sink that has no room. -/
theorem RWrite_full (id : Int) (d : ByteArray) (i : Nat) (hL : L.length ≤ 1000000) (hi : i < L.length) (hp : placeN L id 0 = (i : Int)) (hkd : L[i].kind = 3) (hds : L[i].data.size ≤ 9000000) (hdz : d.size ≤ 9000000) (hno : L[i].most < (L[i].data.size : Int) + (d.size : Int)) (h : Sat w (rtHp c L qn * R)) :
    Calls Tryz.prog 55 #[pp c.tb, .int .i64 id, .string d] w fun e w' => (e = .returned (.int .i64 15) ∧ Sat w' (rtHp c L qn * R)) ∧ Ran w w' := by
  have HP := rplace_calls c L qn id hL w R h
  rw [hp] at HP
  have HP := Lib.hid HP
  obtain ⟨c0, c1, c2, c3⟩ := rt_cells h
  obtain ⟨⟨b, o, hb⟩, hlc, hlm⟩ := rt_addr h hi
  obtain ⟨m0, m1, m2, m3, m4, m5, m6, m7, m8, m9, m10⟩ := dh_cells h hb hi
  have hbb := hb
  rw [hb] at c2
  have hcm : (c.lc : Int) ≤ 9223372036854775807 := by unfold maxLen at hlm; omega
  have hiI : (i : Int) < (L.length : Int) := by omega
  have hi0 : (0 : Int) ≤ (i : Int) := by omega
  have hLI : (L.length : Int) ≤ 1000000 := by omega
  obtain ⟨x, hx⟩ : ∃ x, x = L[i] := ⟨_, rfl⟩
  rw [← hx] at m0 m1 m2 m3 m4 m5 m6 m7 m8 m9 m10
  have HS0 := h.alloc (dhO x)
  obtain ⟨r0, r1, r2, r3, r4, r5, r6, r7, r8, r9, r10⟩ := dhO_cells HS0
  have S1 := And.intro (h.old (dhO x)) (Ran.new (Below.refl 0 w) (dhO x))
  rw [← hx] at hkd hds hno
  obtain ⟨xi, xk, xr, xa, xn, xrd, xpt, xmo, xd, xm, xp⟩ := x
  dsimp only at hkd hds hno S1 r0 r1 r2 r3 r4 r5 r6 r7 r8 r9 r10 m0 m1 m2 m3 m4 m5 m6 m7 m8 m9 m10
  clear h hp hx hb hbb hlm HS0
  have S1 := Lib.hid S1
  subst hkd
  have hdsI : (xd.size : Int) ≤ 9000000 := by omega
  have hdzI : (d.size : Int) ≤ 9000000 := by omega
  have hwp : IntKind.i64.wrap ((xd.size : Int) + (d.size : Int)) = (xd.size : Int) + (d.size : Int) := IntWalk.i64_in _ (by omega)
  have hdb : decide ((xd.size : Int) + (d.size : Int) > xm) = true := decide_eq_true hno
  have hdb2 : decide (xm < (xd.size : Int) + (d.size : Int)) = true := decide_eq_true hno
  go_enter Tryz.func55, Tryz.ntmps55
  go_wp2_with fail
  refine HP.out.mono ?_
  rintro e w1 ⟨rfl, rfl⟩
  clear HP
  go_wp2_with fail
  go_ret
  exact ⟨⟨rfl, S1.out.1⟩, S1.out.2⟩
set_option maxRecDepth 100000 in
set_option maxHeartbeats 4000000 in
/-- Write to a sink. -/
theorem RWrite_sink (id : Int) (d : ByteArray) (i : Nat) (hL : L.length ≤ 1000000) (hi : i < L.length) (hp : placeN L id 0 = (i : Int)) (hkd : L[i].kind = 3) (hds : L[i].data.size ≤ 9000000) (hdz : d.size ≤ 9000000) (hno : (L[i].data.size : Int) + (d.size : Int) ≤ L[i].most) (h : Sat w (rtHp c L qn * R)) :
    Calls Tryz.prog 55 #[pp c.tb, .int .i64 id, .string d] w fun e w' => (e = .returned (.int .i64 0) ∧ Sat w' (rtHp c (L.set i { L[i] with data := L[i].data ++ d }) qn * R)) ∧ Ran w w' := by
  have HP := rplace_calls c L qn id hL w R h
  rw [hp] at HP
  have HP := Lib.hid HP
  obtain ⟨c0, c1, c2, c3⟩ := rt_cells h
  obtain ⟨⟨b, o, hb⟩, hlc, hlm⟩ := rt_addr h hi
  obtain ⟨m0, m1, m2, m3, m4, m5, m6, m7, m8, m9, m10⟩ := dh_cells h hb hi
  have hbb := hb
  rw [hb] at c2
  have hcm : (c.lc : Int) ≤ 9223372036854775807 := by unfold maxLen at hlm; omega
  have hiI : (i : Int) < (L.length : Int) := by omega
  have hi0 : (0 : Int) ≤ (i : Int) := by omega
  have hLI : (L.length : Int) ≤ 1000000 := by omega
  obtain ⟨x, hx⟩ : ∃ x, x = L[i] := ⟨_, rfl⟩
  rw [← hx] at m0 m1 m2 m3 m4 m5 m6 m7 m8 m9 m10
  have HS0 := h.alloc (dhO x)
  obtain ⟨r0, r1, r2, r3, r4, r5, r6, r7, r8, r9, r10⟩ := dhO_cells HS0
  have S1 := And.intro (h.old (dhO x)) (Ran.new (Below.refl 0 w) (dhO x))
  rw [← hx] at hkd hds hno ⊢
  have HD := Lib.hid (fun (W' : World) (hX : Sat W' (rtHp c L qn * R)) => (show W'.cell? ⟨c.tb, 2, none⟩ = some (.slice (some ⟨b, o, none⟩) L.length c.lc) ∧ W'.cell? ⟨b, o + i * 11 + 8, none⟩ = some (.string x.data) ∧ (∀ j, W'.frozen? ⟨b, j, none⟩ = false) ∧ Sat (W'.drew.setCell ⟨b, o + i * 11 + 8, none⟩ (.string (x.data ++ d))) (rtHp c (L.set i { x with data := x.data ++ d }) qn * R) by
    have e2 := (rt_cells hX).2.2.1
    rw [hbb] at e2
    refine ⟨e2, ?_, fun j => ?_, ?_⟩
    · have := (dh_cells hX hbb hi).2.2.2.2.2.2.2.2.1
      rw [← hx] at this; exact this
    · have := rt_arr hX; rw [hbb] at this; exact this.arr_free j
    · exact dh_set hX.drew hbb hi 8 (.string (x.data ++ d)) { x with data := x.data ++ d } (by omega) (by rw [← hx]; rfl)))
  have hcat : ¬ x.data.size + d.size > 9223372036854775807 := by omega
  obtain ⟨xi, xk, xr, xa, xn, xrd, xpt, xmo, xd, xm, xp⟩ := x
  dsimp only at HD hcat hkd hds hno S1 r0 r1 r2 r3 r4 r5 r6 r7 r8 r9 r10 ⊢
  subst hkd
  clear h hp hx hb hbb hlm HS0
  have S1 := Lib.hid S1
  have hdsI : (xd.size : Int) ≤ 9000000 := by omega
  have hdzI : (d.size : Int) ≤ 9000000 := by omega
  have hwp : IntKind.i64.wrap ((xd.size : Int) + (d.size : Int)) = (xd.size : Int) + (d.size : Int) := IntWalk.i64_in _ (by omega)
  have hdb : decide ((xd.size : Int) + (d.size : Int) > xm) = false := decide_eq_false (by omega)
  have hdb2 : decide (xm < (xd.size : Int) + (d.size : Int)) = false := decide_eq_false (by omega)
  go_enter Tryz.func55, Tryz.ntmps55
  go_wp2_with fail
  refine HP.out.mono ?_
  rintro e w1 ⟨rfl, rfl⟩
  clear HP
  go_upto_region 12 with fail
  obtain ⟨W, hW⟩ : ∃ W, W = w.alloc (dhO ⟨xi, 3, xr, xa, xn, xrd, xpt, xmo, xd, xm, xp⟩) := ⟨_, rfl⟩
  rw [← hW] at S1 r8 ⊢
  obtain ⟨q2, q8, qf, q5⟩ := HD.out _ S1.out.1
  have S3 := Lib.hid q5
  clear hW q5 r0 r1 r2 r3 r4 r5 r6 r7 r9 r10 c0 c1 c2 c3
  go_still_tail 11, (by kernel_rfl)
  go_wp2_with fail
  go_ret
  exact ⟨⟨rfl, S3.out⟩, Ran.set (Ran.drewN S1.out.2 1) _ _⟩
end
section
variable {w : World} {c : RT} {L : List DH} {B : List Spill.Bf} {R : Hp}
set_option maxRecDepth 100000 in
set_option maxHeartbeats 4000000 in
/-- Write to a pipe's end. -/
theorem RWrite_pfull (id : Int) (d : ByteArray) (i k ba rb cap : Nat) (p : Option Addr) (pre data : List UInt8) (hL : L.length ≤ 1000000) (hi : i < L.length) (hp : placeN L id 0 = (i : Int)) (hkd : L[i].kind = 5) (hpi : L[i].pipe = (k : Int) + 1) (hk : k < B.length) (hBk : B[k] = ⟨ba, rb, false, pre, data⟩) (hB : B.length ≤ 1000000) (hsm : ∀ x ∈ B, Spill.Small x) (hsum : Spill.sumOf Spill.Bf.h B ≤ 1000000000) (hdz : d.size ≤ 9000000) (hfull : 40 < Spill.sumOf Spill.Bf.h B + d.size) (h : Sat w (rtHp c L B.length * (pqHp c B * (Spill.rpool c.rp 40 3 4 cap p B * (all Spill.rbuf B * R))))) :
    Calls Tryz.prog 55 #[pp c.tb, .int .i64 id, .string d] w fun e w' => (e = .returned (.int .i64 41) ∧ Sat w' (rtHp c L B.length * (pqHp c B * (Spill.rpool c.rp 40 3 4 cap p B * (all Spill.rbuf B * R))))) ∧ Ran w w' := by
  have HP := rplace_calls c L B.length id hL w _ h
  rw [hp] at HP
  have HP := Lib.hid HP
  obtain ⟨c0, c1, c2, c3⟩ := rt_cells h
  obtain ⟨⟨b, o, hb⟩, hlc, hlm⟩ := rt_addr h hi
  obtain ⟨m0, m1, m2, m3, m4, m5, m6, m7, m8, m9, m10⟩ := dh_cells h hb hi
  have hbb := hb
  rw [hb] at c2
  have hcm : (c.lc : Int) ≤ 9223372036854775807 := by unfold maxLen at hlm; omega
  have hiI : (i : Int) < (L.length : Int) := by omega
  have hi0 : (0 : Int) ≤ (i : Int) := by omega
  have hLI : (L.length : Int) ≤ 1000000 := by omega
  obtain ⟨x, hx⟩ : ∃ x, x = L[i] := ⟨_, rfl⟩
  rw [← hx] at m0 m1 m2 m3 m4 m5 m6 m7 m8 m9 m10
  have HS0 := h.alloc (dhO x)
  obtain ⟨r0, r1, r2, r3, r4, r5, r6, r7, r8, r9, r10⟩ := dhO_cells HS0
  have S1 := And.intro (h.old (dhO x)) (Ran.new (Below.refl 0 w) (dhO x))
  rw [← hx] at hkd hpi
  have hS2 := (h.alloc (dhO x)).drew
  have hS2 := hS2.perm (show _ = Spill.rpool c.rp 40 3 4 cap p B * (all Spill.rbuf B * (pts w.heap.size (dhO x) * (rtHp c L B.length * (pqHp c B * R)))) by ac_rfl)
  have hrb : B[k].rb = rb := by rw [hBk]
  have hAP := Spill.rappend_full c.rp 40 3 4 cap k p B _ _ d hk (by rw [hBk]) (by omega) hsm hsum (by omega) hfull (by omega) hS2
  rw [hrb] at hAP
  have HAP := Lib.hid hAP
  have HFIN := Lib.hid (fun nn : Nat => (And.intro ((h.old (dhO x)) : Sat ((w.alloc (dhO x)).drewN nn) _) (Ran.drewN (Ran.new (Below.refl 0 w) (dhO x)) nn)))
  have HC := Lib.hid (fun (W' : World) (X : Hp) (hX : Sat W' (pts w.heap.size (dhO x) * (rtHp c L B.length * (pqHp c B * X)))) (b2 o2 : Nat) (hb2 : c.qp = some ⟨b2, o2, none⟩) => (show W'.cell? ⟨c.tb, 1, none⟩ = some (pp c.rp) ∧ W'.cell? ⟨c.tb, 3, none⟩ = some (.slice (some ⟨b2, o2, none⟩) B.length c.qc) ∧ W'.cell? ⟨b2, o2 + k, none⟩ = some (pp rb) ∧ W'.cell? ⟨w.heap.size, 10, none⟩ = some (.int .i64 x.pipe) by
    have e3 := (rt_cells hX.right).2.2.2
    have e1 := (rt_cells hX.right).2.1
    obtain ⟨⟨b4, o4, hb4, Q4⟩, -, -⟩ := pq_cell (hX.right.right) hk
    rw [hb2] at hb4
    obtain ⟨rfl, rfl⟩ : b2 = b4 ∧ o2 = o4 := by injection hb4 with e; injection e with e1 e2; exact ⟨e1, e2⟩
    rw [hb2] at e3
    rw [hrb] at Q4
    exact ⟨e1, e3, Q4, (dhO_cells hX).2.2.2.2.2.2.2.2.2.2⟩))
  obtain ⟨⟨b2, o2, hb2, -⟩, hqc, hqm⟩ := pq_cell ((h.alloc (dhO x)).right.right) hk
  obtain ⟨C1, C3, Q0, R10⟩ := HC.out _ _ (h.alloc (dhO x)).drew b2 o2 hb2
  have HB2 := Lib.hid hb2
  have hqm : (c.qc : Int) ≤ 9223372036854775807 := by unfold maxLen at hqm; omega
  have hqcI : (B.length : Int) ≤ (c.qc : Int) := by omega
  have hkI : (k : Int) < (B.length : Int) := by omega
  have hk0 : (0 : Int) ≤ (k : Int) := by omega
  have hBI : (B.length : Int) ≤ 1000000 := by omega
  have hwk : IntKind.i64.wrap (k : Int) = (k : Int) := IntWalk.i64_in _ (by omega)
  obtain ⟨xi, xk, xr, xa, xn, xrd, xpt, xmo, xd, xm, xp⟩ := x
  dsimp only at hkd hpi R10 HFIN r0 r1 r2 r3 r4 r5 r6 r7 r8 r9 r10
  subst hkd hpi
  clear h hp hx hb hbb hlm HS0 S1 hS2 hrb hb2 hBk hsm hsum hAP
  go_enter Tryz.func55, Tryz.ntmps55
  go_wp2_with fail
  refine HP.out.mono ?_
  rintro e w1 ⟨rfl, rfl⟩
  clear HP
  go_upto_region 8 with fail
  refine region_plan (S := (fun w' => w'.cell? ⟨c.tb, 1, none⟩ = some (pp c.rp) ∧ w'.cell? ⟨c.tb, 3, none⟩ = some (.slice (some ⟨b2, o2, none⟩) B.length c.qc) ∧ w'.cell? ⟨b2, o2 + k, none⟩ = some (pp rb) ∧ w'.cell? ⟨w.heap.size, 10, none⟩ = some (.int .i64 ((k : Int) + 1)))) [(0, true), (1, true), (2, true), (3, true), (4, true), (5, true), (6, true), (7, true), (8, true), (9, true), (10, true), (11, true), (12, true), (13, true), (14, false), (15, true)] (by kernel_rfl) (by kernel_rfl) (by kernel_rfl) ?_ ?_
  · ((try dsimp only); (first | done | (first | exact Kset.out | exact ⟨C1, C3, Q0, R10⟩)))
  simp only [planOps, List.map_cons, List.map_nil, List.getElem?_toArray, List.getElem?_cons_zero, List.getElem?_cons_succ]
  repeat (first
    | ((refine plan_yes (v := ?_) (by rfl) ?_ ?_); rotate_left; (focus (intro w hSw; (try dsimp only at hSw); go_simp; try (with_reducible rfl))); (try simp only [Act.put, List.setIfInBounds_toArray, List.set_cons_zero, List.set_cons_succ]))
    | ((refine plan_no (by rfl) ?_); (try simp only [Act.put, List.setIfInBounds_toArray, List.set_cons_zero, List.set_cons_succ]))
    | ((refine plan_step (fun K hK => ?_)); (first | (go_simp; (go_at_call 85; refine HAP.out.mono ?_; rintro e w3 ⟨rfl, nn, rfl⟩); (try go_wp2_with fail)) | go_simp); (refine hK.out _ _ ?_ (fun hHeld => ?_)); (focus ((try dsimp only); (first | done | (first | exact Kset.out | exact ⟨C1, C3, Q0, R10⟩)))); clear hK K; (try simp only [Act.put, List.setIfInBounds_toArray, List.set_cons_zero, List.set_cons_succ])))
  refine plan_done ?_
  go_wp2_with fail
  go_ret
  exact ⟨⟨rfl, (HFIN.out (1 + nn)).1⟩, (HFIN.out (1 + nn)).2⟩
set_option maxRecDepth 100000 in
set_option maxHeartbeats 4000000 in
/-- Write to a pipe's end. -/
theorem RWrite_pipe (id : Int) (dl : List UInt8) (i k ba rb cap : Nat) (p : Option Addr) (pre data : List UInt8) (hL : L.length ≤ 1000000) (hi : i < L.length) (hp : placeN L id 0 = (i : Int)) (hkd : L[i].kind = 5) (hpi : L[i].pipe = (k : Int) + 1) (hk : k < B.length) (hBk : B[k] = ⟨ba, rb, false, pre, data⟩) (hB : B.length ≤ 1000000) (hsm : ∀ x ∈ B, Spill.Small x) (hsum : Spill.sumOf Spill.Bf.h B ≤ 1000000000) (hdz : dl.length ≤ 1000000) (hfit : Spill.sumOf Spill.Bf.h B + dl.length ≤ 40) (h : Sat w (rtHp c L B.length * (pqHp c B * (Spill.rpool c.rp 40 3 4 cap p B * (all Spill.rbuf B * R))))) :
    Calls Tryz.prog 55 #[pp c.tb, .int .i64 id, .string ⟨dl.toArray⟩] w fun e w' => (e = .returned (.int .i64 0) ∧ Sat w' (rtHp c L B.length * (pqHp c (B.set k ⟨ba, rb, false, pre, data ++ dl⟩) * (Spill.rpool c.rp 40 3 4 cap p (B.set k ⟨ba, rb, false, pre, data ++ dl⟩) * (all Spill.rbuf (B.set k ⟨ba, rb, false, pre, data ++ dl⟩) * R))))) ∧ Ran w w' := by
  have HP := rplace_calls c L B.length id hL w _ h
  rw [hp] at HP
  have HP := Lib.hid HP
  obtain ⟨c0, c1, c2, c3⟩ := rt_cells h
  obtain ⟨⟨b, o, hb⟩, hlc, hlm⟩ := rt_addr h hi
  obtain ⟨m0, m1, m2, m3, m4, m5, m6, m7, m8, m9, m10⟩ := dh_cells h hb hi
  have hbb := hb
  rw [hb] at c2
  have hcm : (c.lc : Int) ≤ 9223372036854775807 := by unfold maxLen at hlm; omega
  have hiI : (i : Int) < (L.length : Int) := by omega
  have hi0 : (0 : Int) ≤ (i : Int) := by omega
  have hLI : (L.length : Int) ≤ 1000000 := by omega
  obtain ⟨x, hx⟩ : ∃ x, x = L[i] := ⟨_, rfl⟩
  rw [← hx] at m0 m1 m2 m3 m4 m5 m6 m7 m8 m9 m10
  have HS0 := h.alloc (dhO x)
  obtain ⟨r0, r1, r2, r3, r4, r5, r6, r7, r8, r9, r10⟩ := dhO_cells HS0
  have S1 := And.intro (h.old (dhO x)) (Ran.new (Below.refl 0 w) (dhO x))
  rw [← hx] at hkd hpi
  have hS2 := (h.alloc (dhO x)).drew
  have hS2 := hS2.perm (show _ = Spill.rpool c.rp 40 3 4 cap p B * (all Spill.rbuf B * (pts w.heap.size (dhO x) * (rtHp c L B.length * (pqHp c B * R)))) by ac_rfl)
  have hrb : B[k].rb = rb := by rw [hBk]
  have HAP := Lib.hid (Spill.rappend_ok c.rp 40 3 4 cap k ba rb pre data dl p B _ _ hk hBk hdz hsm hsum (by omega) hfit hS2)
  rw [pq_set hk _ (by rw [hBk])]
  have HC := Lib.hid (fun (W' : World) (X : Hp) (hX : Sat W' (pts w.heap.size (dhO x) * (rtHp c L B.length * (pqHp c B * X)))) (b2 o2 : Nat) (hb2 : c.qp = some ⟨b2, o2, none⟩) => (show W'.cell? ⟨c.tb, 1, none⟩ = some (pp c.rp) ∧ W'.cell? ⟨c.tb, 3, none⟩ = some (.slice (some ⟨b2, o2, none⟩) B.length c.qc) ∧ W'.cell? ⟨b2, o2 + k, none⟩ = some (pp rb) ∧ W'.cell? ⟨w.heap.size, 10, none⟩ = some (.int .i64 x.pipe) by
    have e3 := (rt_cells hX.right).2.2.2
    have e1 := (rt_cells hX.right).2.1
    obtain ⟨⟨b4, o4, hb4, Q4⟩, -, -⟩ := pq_cell (hX.right.right) hk
    rw [hb2] at hb4
    obtain ⟨rfl, rfl⟩ : b2 = b4 ∧ o2 = o4 := by injection hb4 with e; injection e with e1 e2; exact ⟨e1, e2⟩
    rw [hb2] at e3
    rw [hrb] at Q4
    exact ⟨e1, e3, Q4, (dhO_cells hX).2.2.2.2.2.2.2.2.2.2⟩))
  obtain ⟨⟨b2, o2, hb2, -⟩, hqc, hqm⟩ := pq_cell ((h.alloc (dhO x)).right.right) hk
  obtain ⟨C1, C3, Q0, R10⟩ := HC.out _ _ (h.alloc (dhO x)).drew b2 o2 hb2
  have HB2 := Lib.hid hb2
  have hqm : (c.qc : Int) ≤ 9223372036854775807 := by unfold maxLen at hqm; omega
  have hqcI : (B.length : Int) ≤ (c.qc : Int) := by omega
  have hkI : (k : Int) < (B.length : Int) := by omega
  have hk0 : (0 : Int) ≤ (k : Int) := by omega
  have hBI : (B.length : Int) ≤ 1000000 := by omega
  have hwk : IntKind.i64.wrap (k : Int) = (k : Int) := IntWalk.i64_in _ (by omega)
  obtain ⟨xi, xk, xr, xa, xn, xrd, xpt, xmo, xd, xm, xp⟩ := x
  dsimp only at hkd hpi R10 r0 r1 r2 r3 r4 r5 r6 r7 r8 r9 r10
  subst hkd hpi
  clear h hp hx hb hbb hlm HS0 S1 hS2 hrb hb2 hBk hsm hsum 
  go_enter Tryz.func55, Tryz.ntmps55
  go_wp2_with fail
  refine HP.out.mono ?_
  rintro e w1 ⟨rfl, rfl⟩
  clear HP
  go_upto_region 8 with fail
  refine region_plan (S := (fun w' => w'.cell? ⟨c.tb, 1, none⟩ = some (pp c.rp) ∧ w'.cell? ⟨c.tb, 3, none⟩ = some (.slice (some ⟨b2, o2, none⟩) B.length c.qc) ∧ w'.cell? ⟨b2, o2 + k, none⟩ = some (pp rb) ∧ w'.cell? ⟨w.heap.size, 10, none⟩ = some (.int .i64 ((k : Int) + 1)))) [(0, true), (1, true), (2, true), (3, true), (4, true), (5, true), (6, true), (7, true), (8, true), (9, true), (10, true), (11, true), (12, true), (13, true), (14, false), (15, true)] (by kernel_rfl) (by kernel_rfl) (by kernel_rfl) ?_ ?_
  · ((try dsimp only); (first | done | (first | exact Kset.out | exact ⟨C1, C3, Q0, R10⟩)))
  simp only [planOps, List.map_cons, List.map_nil, List.getElem?_toArray, List.getElem?_cons_zero, List.getElem?_cons_succ]
  repeat (first
    | ((refine plan_yes (v := ?_) (by rfl) ?_ ?_); rotate_left; (focus (intro w hSw; (try dsimp only at hSw); go_simp; try (with_reducible rfl))); (try simp only [Act.put, List.setIfInBounds_toArray, List.set_cons_zero, List.set_cons_succ]))
    | ((refine plan_no (by rfl) ?_); (try simp only [Act.put, List.setIfInBounds_toArray, List.set_cons_zero, List.set_cons_succ]))
    | ((refine plan_step (fun K hK => ?_)); (first | (go_simp; (go_at_call 85; refine HAP.out.mono ?_; rintro e w3 ⟨rfl, S3, R3⟩; have S3 := S3.perm (show _ = pts w.heap.size (dhO ⟨xi, 5, xr, xa, xn, xrd, xpt, xmo, xd, xm, (k : Int) + 1⟩) * (rtHp c L B.length * (pqHp c B * (Spill.rpool c.rp 40 3 4 cap p (B.set k ⟨ba, rb, false, pre, data ++ dl⟩) * (all Spill.rbuf (B.set k ⟨ba, rb, false, pre, data ++ dl⟩) * R)))) by ac_rfl); have Kset := Lib.hid (HC.out _ _ S3 b2 o2 HB2.out); have S3 := Lib.hid S3.right; have R3 := Lib.hid (Below.trans (Ran.drewN (Ran.new (Below.refl 0 w) _) 1) R3)); (try go_wp2_with fail)) | go_simp); (refine hK.out _ _ ?_ (fun hHeld => ?_)); (focus ((try dsimp only); (first | done | (first | exact Kset.out | exact ⟨C1, C3, Q0, R10⟩)))); clear hK K; (try simp only [Act.put, List.setIfInBounds_toArray, List.set_cons_zero, List.set_cons_succ])))
  refine plan_done ?_
  go_wp2_with fail
  go_ret
  exact ⟨⟨rfl, S3.out⟩, R3.out⟩
end
end Go.Proofs.YtljlpkeddbfpaaaGreatDoor.Hd

