/- HandlesPlays, part 9 of 34: the texts HdSn HdUs, joined by a program. -/
import Derived.Test.YtljlpkeddbfpaaaGreatDoorHm8
import Derived.Test.YtljlpkeddbfpaaaGreatDoorHm7
namespace Go.Proofs.YtljlpkeddbfpaaaGreatDoor.Hd
open Go.RowKit Go.Maps Go.Proofs.YtljlpkeddbfpaaaGreatDoor Go.Proofs.YtljlpkeddbfpaaaGreatDoor.Hp
set_option linter.unusedVariables false
attribute [local go_sem] Oper.semAt_some

set_option maxRecDepth 100000 in
set_option maxHeartbeats 4000000 in
theorem sinfo_calls (xb : Nat) (sp q : Option Addr) (n cap : Nat) (most : Int) (w : World) (R : Hp) (h : Sat w (pts xb (skO sp q n cap most) * R)) :
    Calls Tryz.prog 233 #[pp xb] w fun e w' => e = .returned (inV 3 0 (n : Int) 0 ⟨false, true, false⟩) ∧ Below w.heap.size w w' := by
  have S1 := h.alloc (inO 0 0 0 0 ⟨false, false, false⟩)
  obtain ⟨d0, d1, d2⟩ := sk_cells (S1.perm (show _ = pts xb (skO sp q n cap most) * (pts w.heap.size (inO 0 0 0 0 ⟨false, false, false⟩) * R) by ac_rfl))
  have HL := Lib.hid (blen_calls xb sp q n cap most _ _ (S1.perm (show _ = pts xb (skO sp q n cap most) * (pts w.heap.size (inO 0 0 0 0 ⟨false, false, false⟩) * R) by ac_rfl)))
  have S1 := Lib.hid S1
  clear h
  go_enter Tryz.func233, Tryz.ntmps233
  go_wp2_with fail
  refine HL.out.mono ?_
  rintro e w1 ⟨rfl, hw1⟩
  have S2 : Sat w1 (pts w.heap.size (inO 0 0 0 0 ⟨false, false, false⟩) * (pts xb (skO sp q n cap most) * R)) := by rw [← hw1]; exact S1.out.perm (by ac_rfl)
  have hB : Below w.heap.size w w1 := by rw [← hw1]; exact (Below.refl w.heap.size w).alloc (Nat.le_refl _) _
  obtain ⟨z0, z1, z2, z3, z4, z5, z6⟩ := in_cells S2
  have f0 : ∀ i, w1.frozen? ⟨w.heap.size, i, none⟩ = false := fun i => free_at S2.get i
  have S3 := ((((((S2.set (i := 0) (.int .i64 3)).set (i := 1) (.int .i64 0)).set (i := 2) (.int .i64 (n : Int))).set (i := 3) (.int .i64 0)).set (i := 4) (.bool false)).set (i := 5) (.bool true)).set (i := 6) (.bool false)
  obtain ⟨r0, r1, r2, r3, r4, r5, r6⟩ := in_cells (k := 3) (rf := 0) (a := (n : Int)) (n := 0) (m := ⟨false, true, false⟩) S3
  have HB := Lib.hid (((((((hB.setCell (Nat.le_refl _) (p := ⟨w.heap.size, 0, none⟩) (.int .i64 3)).setCell (Nat.le_refl _) (p := ⟨w.heap.size, 1, none⟩) (.int .i64 0)).setCell (Nat.le_refl _) (p := ⟨w.heap.size, 2, none⟩) (.int .i64 (n : Int))).setCell (Nat.le_refl _) (p := ⟨w.heap.size, 3, none⟩) (.int .i64 0)).setCell (Nat.le_refl _) (p := ⟨w.heap.size, 4, none⟩) (.bool false)).setCell (Nat.le_refl _) (p := ⟨w.heap.size, 5, none⟩) (.bool true)).setCell (Nat.le_refl _) (p := ⟨w.heap.size, 6, none⟩) (.bool false))
  dsimp only at z4 z5 z6 r4 r5 r6
  clear hw1 S1 S2 S3 hB HL d0 d1 d2
  go_wp2_with fail
  exact bodyPost_ret (v := inV 3 0 (n : Int) 0 ⟨false, true, false⟩) (by simp [results, Tryz.results233, go_sem, r0, r1, r2, r3, r4, r5, r6]) rfl ⟨rfl, HB.out⟩
set_option maxRecDepth 100000 in
set_option maxHeartbeats 4000000 in
theorem sread_calls (xb : Nat) (sp q : Option Addr) (cap : Nat) (l : List UInt8) (most : Int) (k : Int) (hl : l.length ≤ 1000000000) (w : World) (S : Hp) (h : Sat w (pts xb (skO sp q l.length cap most) * (bufHp q cap l * S))) :
    Calls Tryz.prog 234 #[pp xb, .int .i64 k] w fun e w' => (e = .returned (.tuple #[.string ⟨l.toArray⟩, .int .i64 0]) ∧ Sat w' (pts xb (skO sp q l.length cap most) * (bufHp q cap l * S))) ∧ Ran w w' := by
  have HS := Lib.hid (bstring_calls xb sp q cap l most hl w S h)
  clear h
  go_enter Tryz.func234, Tryz.ntmps234
  go_wp2_with fail
  refine HS.out.mono ?_
  rintro e w1 ⟨⟨rfl, S1⟩, R1⟩
  have S1 := Lib.hid S1
  have R1 := Lib.hid R1
  clear HS
  go_wp2_with fail
  go_ret2
  exact ⟨⟨rfl, S1.out⟩, R1.out⟩
/-- What a sink's write answers. -/
def skE (n most d : Nat) : Int := if n + d ≤ most then 0 else 15
def skL (l : List UInt8) (most : Nat) (d : ByteArray) : List UInt8 := if l.length + d.size ≤ most then l ++ bs d else l
def SkPost (xb : Nat) (most : Int) (l : List UInt8) (S : Hp) (w' : World) : Prop := ∃ sp q cap, SpOk sp xb ∧ Sat w' (pts xb (skO sp q l.length cap most) * (bufHp q cap l * S))
set_option maxRecDepth 100000 in
set_option maxHeartbeats 4000000 in
theorem swrite_calls (xb : Nat) (sp q : Option Addr) (cap : Nat) (l : List UInt8) (most : Nat) (d : ByteArray) (hsp : SpOk sp xb) (hl : l.length ≤ most) (hm : most ≤ 1048576) (hd : d.size ≤ 1000000) (w : World) (S : Hp) (h : Sat w (pts xb (skO sp q l.length cap most) * (bufHp q cap l * S))) :
    Calls Tryz.prog 235 #[pp xb, .string d] w fun e w' => (e = .returned (.int .i64 (skE l.length most d.size)) ∧ SkPost xb most (skL l most d) S w') ∧ Ran w w' := by
  have HL := Lib.hid (blen_calls xb sp q l.length cap most w.drew _ h.drew)
  obtain ⟨c0, c1, c2⟩ := sk_cells h.drew
  have HW := Lib.hid (bwrite_calls xb sp q cap l most d hsp (by omega) w.drew S h.drew)
  have H := Lib.hid (And.intro hsp h.drew)
  have hmI : (most : Int) ≤ 1048576 := by omega
  have hlI : (l.length : Int) ≤ most := by omega
  have hdI : (d.size : Int) ≤ 1000000 := by omega
  have h0 : (0 : Int) ≤ (l.length : Int) := by omega
  clear h hsp
  unfold skE skL
  by_cases hr : l.length + d.size ≤ most
  · have hrI : (d.size : Int) ≤ (most : Int) - (l.length : Int) := by omega
    rw [if_pos hr, if_pos hr]
    clear hr hm hl hd
    obtain ⟨n, hn⟩ : ∃ n, n = l.length := ⟨_, rfl⟩
    rw [← hn] at HL c1 hlI h0 hrI
    clear hn
    have hwr : IntKind.i64.wrap ((most : Int) - (n : Int)) = (most : Int) - (n : Int) := IntWalk.i64_in _ (by omega)
    go_enter Tryz.func235, Tryz.ntmps235
    go_wp2_with fail
    refine region_plan (S := (fun w' => w'.cell? ⟨xb, 2, none⟩ = some (.int .i64 (most : Int)))) [(0, true), (1, true), (2, true), (3, true), (4, true), (5, true), (6, true), (7, true), (8, true), (9, false), (10, true), (11, true)] (by kernel_rfl) (by kernel_rfl) (by kernel_rfl) ?_ ?_
    · ((try dsimp only); (first | done | (exact c2)))
    simp only [planOps, List.map_cons, List.map_nil, List.getElem?_toArray, List.getElem?_cons_zero, List.getElem?_cons_succ]
    repeat (first
      | ((refine plan_yes (v := ?_) (by rfl) ?_ ?_); rotate_left; (focus (intro w hSw; (try dsimp only at hSw); go_simp; try (with_reducible rfl))); (try simp only [Act.put, List.setIfInBounds_toArray, List.set_cons_zero, List.set_cons_succ]))
      | ((refine plan_no (by rfl) ?_); (try simp only [Act.put, List.setIfInBounds_toArray, List.set_cons_zero, List.set_cons_succ]))
      | ((refine plan_step (fun K hK => ?_)); (first | (go_simp; ((go_at_call 68; refine HL.out.mono ?_; rintro e w5 ⟨rfl, rfl⟩)); (try go_wp2_with fail)) | go_simp); (refine hK.out _ _ ?_ (fun hHeld => ?_)); (focus ((try dsimp only); (first | done | (exact c2)))); clear hK K; (try simp only [Act.put, List.setIfInBounds_toArray, List.set_cons_zero, List.set_cons_succ])))
    refine plan_done ?_
    go_wp2_with fail
    refine HW.out.mono ?_
    rintro e w2 ⟨⟨rfl, q', cap', S2⟩, R2⟩
    have S2 := Lib.hid S2
    have R2 := Lib.hid (Below.trans (Below.drew (Below.refl 0 w)) R2)
    clear HW HL
    go_wp2_with fail
    go_ret
    exact ⟨⟨rfl, _, q', cap', .inr rfl, S2.out⟩, R2.out⟩
  · have hrI : (most : Int) - (l.length : Int) < (d.size : Int) := by omega
    rw [if_neg hr, if_neg hr]
    clear hr hm hl hd HW
    have HQ : Hid (SkPost xb most l S w.drew) := Lib.hid ⟨sp, q, cap, H.out.1, H.out.2⟩
    clear H
    obtain ⟨n, hn⟩ : ∃ n, n = l.length := ⟨_, rfl⟩
    rw [← hn] at HL c1 hlI h0 hrI
    clear hn
    have hwr : IntKind.i64.wrap ((most : Int) - (n : Int)) = (most : Int) - (n : Int) := IntWalk.i64_in _ (by omega)
    go_enter Tryz.func235, Tryz.ntmps235
    go_wp2_with fail
    refine region_plan (S := (fun w' => w'.cell? ⟨xb, 2, none⟩ = some (.int .i64 (most : Int)))) [(0, true), (1, true), (2, true), (3, true), (4, true), (5, true), (6, true), (7, true), (8, true), (9, false), (10, true), (11, true)] (by kernel_rfl) (by kernel_rfl) (by kernel_rfl) ?_ ?_
    · ((try dsimp only); (first | done | (exact c2)))
    simp only [planOps, List.map_cons, List.map_nil, List.getElem?_toArray, List.getElem?_cons_zero, List.getElem?_cons_succ]
    repeat (first
      | ((refine plan_yes (v := ?_) (by rfl) ?_ ?_); rotate_left; (focus (intro w hSw; (try dsimp only at hSw); go_simp; try (with_reducible rfl))); (try simp only [Act.put, List.setIfInBounds_toArray, List.set_cons_zero, List.set_cons_succ]))
      | ((refine plan_no (by rfl) ?_); (try simp only [Act.put, List.setIfInBounds_toArray, List.set_cons_zero, List.set_cons_succ]))
      | ((refine plan_step (fun K hK => ?_)); (first | (go_simp; ((go_at_call 68; refine HL.out.mono ?_; rintro e w5 ⟨rfl, rfl⟩)); (try go_wp2_with fail)) | go_simp); (refine hK.out _ _ ?_ (fun hHeld => ?_)); (focus ((try dsimp only); (first | done | (exact c2)))); clear hK K; (try simp only [Act.put, List.setIfInBounds_toArray, List.set_cons_zero, List.set_cons_succ])))
    refine plan_done ?_
    go_wp2_with fail
    go_ret
    exact ⟨⟨rfl, HQ.out⟩, Below.drew (Below.refl 0 w)⟩
set_option maxRecDepth 100000 in
set_option maxHeartbeats 4000000 in
theorem Sink_calls (tb fb pb hm n : Nat) (L : HL) (most : Nat) (g : Nat) (hs : most ≤ 1048576) (hg : Free L g) (hn : n ≤ 1000000) (w : World) (R : Hp) (h : Sat w (tabHp tb fb pb hm L n * R)) :
    Calls Tryz.prog 17 #[pp tb, .int .i64 (most : Int)] w fun e w' => (e = .returned (.tuple #[.int .i64 (g : Int), .int .i64 0]) ∧ ∃ hb xb, Sat w' (tabHp tb fb pb hm (((g : Int), ⟨hb, 1, xb, .sink none none 0 [] most⟩) :: L) (n + 1) * (bufHp none 0 [] * R))) ∧ Ran w w' := by
  have HA := Lib.hid (add_calls tb fb pb hm n L (.sink none none 0 [] most) w.heap.size g hg hn _ _ (((buf_start h).alloc (skO none none 0 0 most)).perm (show pts w.heap.size (thO fb (.sink none none 0 [] most)) * _ = tabHp tb fb pb hm L n * (pts w.heap.size (thO fb (.sink none none 0 [] most)) * (bufHp none 0 [] * R)) by ac_rfl)))
  have R1 := Lib.hid (Ran.new (Below.refl 0 w) (skO none none 0 0 most))
  have hsI : (most : Int) ≤ 1048576 := by omega
  have hs0 : (0 : Int) ≤ (most : Int) := by omega
  clear h
  go_enter Tryz.func17, Tryz.ntmps17
  go_wp2_with fail
  refine HA.out.mono ?_
  rintro e w1 ⟨⟨rfl, hb, S2⟩, R2⟩
  have S2 := Lib.hid S2
  have R2 := Lib.hid (Below.trans R1.out R2)
  clear HA R1
  go_wp2_with fail
  go_ret2
  exact ⟨⟨rfl, hb, w.heap.size, S2.out⟩, R2.out⟩
set_option maxRecDepth 100000 in
set_option maxHeartbeats 4000000 in
theorem TWrite_sink (tb fb pb hm n : Nat) (L : HL) (id : Int) (y : Hn) (sp q : Option Addr) (cap : Nat) (l : List UInt8) (most : Nat) (d : ByteArray) (hid : I64 id) (hy : findA L id = some y) (hyt : y.t = .sink sp q cap l most) (hsp : SpOk sp y.xb) (hl : l.length ≤ most) (hmo : most ≤ 1048576) (hd : d.size ≤ 1000000) (w : World) (R : Hp)
    (h : Sat w (tabHp tb fb pb hm L n * (bufHp q cap l * R))) :
    Calls Tryz.prog 11 #[pp tb, .int .i64 id, .string d] w fun e w' => (e = .returned (.int .i64 (skE l.length most d.size)) ∧
      ∃ sp' q' cap', SpOk sp' y.xb ∧ Sat w' (tabHp tb fb pb hm (updA L id { y with t := .sink sp' q' cap' (skL l most d) most }) n * (bufHp q' cap' (skL l most d) * R))) ∧ Ran w w' := by
  have HGt := get_calls tb fb pb hm n L id hid w _ h
  unfold getE at HGt
  rw [show hblk L id = some y.b by unfold hblk; rw [hy]; rfl, hy] at HGt
  unfold pv at HGt
  have HGt := Lib.hid HGt
  obtain ⟨X, S1, back⟩ := tab_node h hy
  obtain ⟨d0, d1⟩ := hn_cells S1
  rw [hyt] at S1 d1
  unfold thT at d1
  unfold thO at S1
  have hmi := meth_sink_info y.xb
  have hmw2 := meth_sink_write y.xb
  have S2 := S1.perm (show _ = pts y.xb (skO sp q l.length cap most) * (bufHp q cap l * (X * R * pts y.b (hnO y))) by ac_rfl)
  have HIn := Lib.hid (sinfo_calls y.xb sp q l.length cap most w _ S2)
  have S2 := Lib.hid S2
  have HFW := Lib.hid (fun W hW => swrite_calls y.xb sp q cap l most d hsp hl hmo hd W (X * R * pts y.b (hnO y)) hW)
  obtain ⟨en, hen⟩ : ∃ r, r = skE l.length most d.size := ⟨_, rfl⟩
  obtain ⟨l2, hl2⟩ : ∃ r, r = skL l most d := ⟨_, rfl⟩
  rw [← hen, ← hl2] at HFW ⊢
  have Back := Lib.hid back
  have Hyt := Lib.hid hyt
  have hf1 := field_mode 3 0 (l.length : Int) 0 false true false
  have hf2 := field_w false true false
  clear h S1 back hyt hy hen hl2 hl hmo hd
  go_enter Tryz.func11, Tryz.ntmps11
  go_wp2_with fail
  refine HGt.out.mono ?_
  rintro e w1 ⟨rfl, rfl⟩
  go_wp2_with fail
  refine HIn.out.mono ?_
  rintro e w1 ⟨rfl, hB⟩
  have S3 := S2.out.below hB
  have R3 := Lib.hid (below_ran hB)
  obtain ⟨e0, e1⟩ := hn_cells (S3.perm (show _ = pts y.b (hnO y) * (pts y.xb (skO sp q l.length cap most) * (bufHp q cap l * (X * R))) by ac_rfl))
  rw [Hyt.out] at e1
  unfold thT at e1
  have HW := Lib.hid (HFW.out _ S3)
  clear hB HIn HFW HGt d0 d1 S3 S2
  go_wp2_with fail
  refine HW.out.mono ?_
  rintro e w2 ⟨⟨rfl, sp', q', cap', hsp', S4⟩, R4⟩
  have R4 := Lib.hid (Below.trans R3.out R4)
  have S5 := Lib.hid (And.intro hsp' (Back.out w2 { y with t := .sink sp' q' cap' l2 most } (bufHp q' cap' l2 * R) rfl (S4.perm (show _ = pts y.b (hnO { y with t := .sink sp' q' cap' l2 most }) * (pts y.xb (skO sp' q' l2.length cap' most) * (X * (bufHp q' cap' l2 * R))) by
    rw [show hnO { y with t := .sink sp' q' cap' l2 most } = hnO y by unfold hnO; rw [Hyt.out]; rfl]
    ac_rfl))))
  clear S4 HW hsp'
  go_wp2_with fail
  go_ret
  exact ⟨⟨rfl, sp', q', cap', S5.out.1, S5.out.2⟩, R4.out⟩
set_option maxRecDepth 100000 in
set_option maxHeartbeats 4000000 in
theorem Seen_sink (tb fb pb hm n : Nat) (L : HL) (id : Int) (y : Hn) (sp q : Option Addr) (cap : Nat) (l : List UInt8) (most : Nat) (hid : I64 id) (hy : findA L id = some y) (hyt : y.t = .sink sp q cap l most) (hl : l.length ≤ 1000000000) (w : World) (R : Hp)
    (h : Sat w (tabHp tb fb pb hm L n * (bufHp q cap l * R))) :
    Calls Tryz.prog 20 #[pp tb, .int .i64 id] w fun e w' => (e = .returned (.tuple #[.string ⟨l.toArray⟩, .int .i64 0]) ∧ Sat w' (tabHp tb fb pb hm L n * (bufHp q cap l * R))) ∧ Ran w w' := by
  have HGt := get_calls tb fb pb hm n L id hid w _ h
  unfold getE at HGt
  rw [show hblk L id = some y.b by unfold hblk; rw [hy]; rfl, hy] at HGt
  unfold pv at HGt
  have HGt := Lib.hid HGt
  obtain ⟨X, S1, back⟩ := tab_node h hy
  obtain ⟨d0, d1⟩ := hn_cells S1
  have hup : updA L id y = L := updA_same L id y hy
  rw [hyt] at S1 d1
  unfold thT at d1
  unfold thO at S1
  have hmi := meth_sink_info y.xb
  have hmw2 := meth_sink_read y.xb
  have S2 := S1.perm (show _ = pts y.xb (skO sp q l.length cap most) * (bufHp q cap l * (X * R * pts y.b (hnO y))) by ac_rfl)
  have HIn := Lib.hid (sinfo_calls y.xb sp q l.length cap most w _ S2)
  have S2 := Lib.hid S2
  have HFW := Lib.hid (fun W hW => sread_calls y.xb sp q cap l most 1048576 hl W (X * R * pts y.b (hnO y)) hW)
  have Back := Lib.hid back
  have Hyt := Lib.hid hyt
  have hf1 := field_kind 3 0 (l.length : Int) 0 false true false
  clear h S1 back hyt hy hl
  go_enter Tryz.func20, Tryz.ntmps20
  go_wp2_with fail
  refine HGt.out.mono ?_
  rintro e w1 ⟨rfl, rfl⟩
  go_wp2_with fail
  refine HIn.out.mono ?_
  rintro e w1 ⟨rfl, hB⟩
  have S3 := S2.out.below hB
  have R3 := Lib.hid (below_ran hB)
  obtain ⟨e0, e1⟩ := hn_cells (S3.perm (show _ = pts y.b (hnO y) * (pts y.xb (skO sp q l.length cap most) * (bufHp q cap l * (X * R))) by ac_rfl))
  rw [Hyt.out] at e1
  unfold thT at e1
  have HW := Lib.hid (HFW.out _ S3)
  clear hB HIn HFW HGt d0 d1 S3 S2
  go_wp2_with fail
  refine HW.out.mono ?_
  rintro e w2 ⟨⟨rfl, S4⟩, R4⟩
  have R4 := Lib.hid (Below.trans R3.out R4)
  have S5 := Lib.hid (Back.out w2 y (bufHp q cap l * R) rfl (S4.perm (show _ = pts y.b (hnO y) * (pts y.xb (thO fb y.t) * (X * (bufHp q cap l * R))) by rw [Hyt.out]; unfold thO; ac_rfl)))
  rw [hup] at S5
  clear S4 HW
  go_wp2_with fail
  go_ret2
  exact ⟨⟨rfl, S5.out⟩, R4.out⟩
end Go.Proofs.YtljlpkeddbfpaaaGreatDoor.Hd

namespace Go.Proofs.YtljlpkeddbfpaaaGreatDoor.Hd
open Go.RowKit Go.Maps Go.Proofs.YtljlpkeddbfpaaaGreatDoor Go.Proofs.YtljlpkeddbfpaaaGreatDoor.Hp
set_option linter.unusedVariables false
attribute [local go_sem] Oper.semAt_some

set_option maxRecDepth 100000 in
set_option maxHeartbeats 4000000 in
theorem Unref_last_sink (tb fb pb hm n : Nat) (L : HL) (id : Int) (y : Hn) (hid : I64 id) (hy : findA L id = some y) (hnd : NodupK L) (h1 : y.refs = 1) (w : World) (R R' : Hp)
    (hT : thT y.t = 116)
    (HG : ∀ W, Sat W (pts y.xb (thO fb y.t) * (tabHp tb fb pb hm (delA L id) n * R)) → Calls Tryz.prog 232 #[pp y.xb] W fun e w' => (e = .returned (.tuple #[]) ∧ Sat w' (tabHp tb fb pb hm (delA L id) n * R')) ∧ Ran W w')
    (h : Sat w (tabHp tb fb pb hm L n * R)) :
    Calls Tryz.prog 27 #[pp tb, .int .i64 id] w fun e w' => (e = .returned (.int .i64 0) ∧ Sat w' (tabHp tb fb pb hm (delA L id) n * R')) ∧ Ran w w' := by
  have HGt := get_calls tb fb pb hm n L id hid w _ h
  unfold getE at HGt
  rw [show hblk L id = some y.b by unfold hblk; rw [hy]; rfl, hy] at HGt
  unfold pv at HGt
  have HGt := Lib.hid HGt
  obtain ⟨X, e1, -, e3⟩ := focusA (hnHp fb) L id y hy
  have hlen := delA_len L id (by rw [hy]; rfl)
  have S1 := h.perm (show _ = pts y.b (hnO y) * (pmap hm (hblk L) ((delA L id).length + 1) n * (pts y.xb (thO fb y.t) * (pts tb (tbO fb pb hm) * (X * R)))) by unfold tabHp; rw [e1, ← hlen]; unfold hnHp; ac_rfl)
  obtain ⟨d0, d1⟩ := hn_cells S1
  rw [h1] at d0
  have f0 : ∀ i, w.frozen? ⟨y.b, i, none⟩ = false := fun i => free_at S1.get i
  have S2 := S1.set (i := 0) (.int .i64 0)
  obtain ⟨q0, q1⟩ := hn_cells (x := { y with refs := 0 }) S2
  have c2 : (w.setCell ⟨y.b, 0, none⟩ (.int .i64 0)).cell? ⟨tb, 2, none⟩ = some (.map (some hm)) := by
    rw [cell_at (S2.perm (show _ = pts tb (tbO fb pb hm) * (pts y.b (hnO { y with refs := 0 }) * (pmap hm (hblk L) ((delA L id).length + 1) n * (pts y.xb (thO fb y.t) * (X * R)))) by show pts y.b (hnO { y with refs := 0 }) * _ = _; ac_rfl)).get]; rfl
  obtain ⟨w2, hrun, S3, R3⟩ := pmap_del Tryz.underlying79 (S2.perm (show _ = pmap hm (hblk L) ((delA L id).length + 1) n * (pts y.b (hnO { y with refs := 0 }) * (pts y.xb (thO fb y.t) * (pts tb (tbO fb pb hm) * (X * R)))) by show pts y.b (hnO { y with refs := 0 }) * _ = _; ac_rfl)) id hid (by unfold hblk; rw [hy]; rfl) 0
  obtain ⟨x0, x1⟩ := hn_cells (x := { y with refs := 0 }) (S3.perm (show _ = pts y.b (hnO { y with refs := 0 }) * (pmap hm (delP (hblk L) id) (delA L id).length n * (pts y.xb (thO fb y.t) * (pts tb (tbO fb pb hm) * (X * R)))) by ac_rfl))
  have S4 := S3.perm (show _ = pts y.b (hnO { y with refs := 0 }) * (pts y.xb (thO fb y.t) * (tabHp tb fb pb hm (delA L id) n * R)) by unfold tabHp; rw [hblk_del hnd, e3]; ac_rfl)
  have HGo := Lib.hid (HG w2 S4.right)
  have R4 := Lib.hid (Below.trans (Ran.set (Below.refl 0 w) ⟨y.b, 0, none⟩ (.int .i64 0)) R3)
  have hmt := meth_sink_gone y.xb
  dsimp only at q1 x1
  rw [hT] at d1 q1 x1
  clear h S1 S2 S3 S4 HG hT e1 e3 hlen R3
  go_enter Tryz.func27, Tryz.ntmps27
  go_wp2_with fail
  refine HGt.out.mono ?_
  rintro e w1 ⟨rfl, rfl⟩
  go_wp2_with fail
  refine HGo.out.mono ?_
  rintro e w3 ⟨⟨rfl, S5⟩, R5⟩
  have R5 := Lib.hid (Below.trans R4.out R5)
  have S5 := Lib.hid S5
  clear HGo R4
  go_wp2_with fail
  go_ret
  exact ⟨⟨rfl, S5.out⟩, R5.out⟩
theorem gone_text (xb : Nat) (w : World) : Calls Tryz.prog 211 #[pp xb] w fun e w' => e = .returned (.tuple #[]) ∧ w = w' := by
  go_enter Tryz.func211, Tryz.ntmps211
  go_wp2_with fail
  go_end0
  exact ⟨rfl, rfl⟩
theorem gone_sink (xb : Nat) (w : World) : Calls Tryz.prog 232 #[pp xb] w fun e w' => e = .returned (.tuple #[]) ∧ w = w' := by
  go_enter Tryz.func232, Tryz.ntmps232
  go_wp2_with fail
  go_end0
  exact ⟨rfl, rfl⟩
theorem Unref_text_one (tb fb pb hm n : Nat) (L : HL) (id : Int) (y : Hn) (s : ByteArray) (a : Nat) (hid : I64 id) (hy : findA L id = some y) (hyt : y.t = .text s a) (hnd : NodupK L) (h1 : y.refs = 1) (w : World) (R : Hp)
    (h : Sat w (tabHp tb fb pb hm L n * R)) :
    Calls Tryz.prog 27 #[pp tb, .int .i64 id] w fun e w' => (e = .returned (.int .i64 0) ∧ Sat w' (tabHp tb fb pb hm (delA L id) n * R)) ∧ Ran w w' := by
  refine Unref_last_text tb fb pb hm n L id y hid hy hnd h1 w R R (by rw [hyt]; rfl) (fun W hW => ?_) h
  refine (gone_text y.xb W).mono ?_
  rintro e w' ⟨rfl, rfl⟩
  exact ⟨⟨rfl, hW.right⟩, Below.refl 0 W⟩
theorem Unref_sink_one (tb fb pb hm n : Nat) (L : HL) (id : Int) (y : Hn) (sp q : Option Addr) (cap : Nat) (l : List UInt8) (most : Nat) (hid : I64 id) (hy : findA L id = some y) (hyt : y.t = .sink sp q cap l most) (hnd : NodupK L) (h1 : y.refs = 1) (w : World) (R : Hp)
    (h : Sat w (tabHp tb fb pb hm L n * R)) :
    Calls Tryz.prog 27 #[pp tb, .int .i64 id] w fun e w' => (e = .returned (.int .i64 0) ∧ Sat w' (tabHp tb fb pb hm (delA L id) n * R)) ∧ Ran w w' := by
  refine Unref_last_sink tb fb pb hm n L id y hid hy hnd h1 w R R (by rw [hyt]; rfl) (fun W hW => ?_) h
  refine (gone_sink y.xb W).mono ?_
  rintro e w' ⟨rfl, rfl⟩
  exact ⟨⟨rfl, hW.right⟩, Below.refl 0 W⟩
set_option maxRecDepth 100000 in
set_option maxHeartbeats 4000000 in
theorem wwrite_full (xb bb eb bp held used opn tot frm : Nat) (data : List UInt8) (d : ByteArray) (hh : 40 < held + d.size) (hh2 : held ≤ 40) (w : World) (R : Hp)
    (h : Sat w (pts xb (wrO bb eb) * (Spill.poolX bp 40 3 4 held used opn tot * (Spill.bufX bb bp 3 4 frm data * R)))) :
    Calls Tryz.prog 229 #[pp xb, .string d] w fun e w' => (e = .returned (.int .i64 41) ∧ Sat w' (pts xb (wrO bb eb) * (Spill.poolX bp 40 3 4 held used opn tot * (Spill.bufX bb bp 3 4 frm data * R)))) ∧ Ran w w' := by
  obtain ⟨d0, d1⟩ := rd_cells h
  have HA := Lib.hid (Spill.append_full bp bb 40 3 4 held used opn tot frm data d (pts xb (wrO bb eb) * R) w (by omega) hh hh2 (h.perm (show _ = Spill.poolX bp 40 3 4 held used opn tot * (Spill.bufX bb bp 3 4 frm data * (pts xb (wrO bb eb) * R)) by ac_rfl)))
  have H := Lib.hid h
  clear h
  go_enter Tryz.func229, Tryz.ntmps229
  go_wp2_with fail
  refine HA.out.mono ?_
  rintro e w1 ⟨rfl, nn, rfl⟩
  have S1 := Lib.hid (H.out.drewN nn)
  have R1 := Lib.hid (Ran.drewN (Below.refl 0 w) nn)
  clear HA
  go_wp2_with fail
  go_ret
  exact ⟨⟨rfl, S1.out⟩, R1.out⟩
set_option maxRecDepth 100000 in
set_option maxHeartbeats 4000000 in
theorem TWrite_writer_full (tb fb bp hm n held used opn tot frm : Nat) (L : HL) (id : Int) (y : Hn) (bb eb : Nat) (data : List UInt8) (d : ByteArray) (hid : I64 id) (hy : findA L id = some y) (hyt : y.t = .writer bb eb) (hh : 40 < held + d.size) (hh2 : held ≤ 40) (hf : frm + data.length + 100000 ≤ 1000000000) (w : World) (R : Hp)
    (h : Sat w (tabHp tb fb bp hm L n * (Spill.poolX bp 40 3 4 held used opn tot * (Spill.bufX bb bp 3 4 frm data * R)))) :
    Calls Tryz.prog 11 #[pp tb, .int .i64 id, .string d] w fun e w' => (e = .returned (.int .i64 41) ∧ Sat w' (tabHp tb fb bp hm L n * (Spill.poolX bp 40 3 4 held used opn tot * (Spill.bufX bb bp 3 4 frm data * R)))) ∧ Ran w w' := by
  have HGt := get_calls tb fb bp hm n L id hid w _ h
  unfold getE at HGt
  rw [show hblk L id = some y.b by unfold hblk; rw [hy]; rfl, hy] at HGt
  unfold pv at HGt
  have HGt := Lib.hid HGt
  obtain ⟨X, S1, back⟩ := tab_node h hy
  obtain ⟨d0, d1⟩ := hn_cells S1
  have hup : updA L id y = L := updA_same L id y hy
  rw [hyt] at S1 d1
  unfold thT at d1
  unfold thO at S1
  have hmi := meth_writer_info y.xb
  have hmw2 := meth_writer_write y.xb
  have S2 := S1.perm (show _ = pts y.xb (wrO bb eb) * (Spill.bufX bb bp 3 4 frm data * (Spill.poolX bp 40 3 4 held used opn tot * (X * R * pts y.b (hnO y)))) by ac_rfl)
  have HIn := Lib.hid (winfo_calls y.xb bb eb bp frm data (by omega) w _ S2)
  have S2 := Lib.hid S2
  have hf1 := field_mode 5 0 (data.length : Int) 0 false true false
  have hf2 := field_w false true false
  have Back := Lib.hid back
  have Hyt := Lib.hid hyt
  skip
  clear h S1 back hyt hy
  go_enter Tryz.func11, Tryz.ntmps11
  go_wp2_with fail
  refine HGt.out.mono ?_
  rintro e w1 ⟨rfl, rfl⟩
  go_wp2_with fail
  refine HIn.out.mono ?_
  rintro e w1 ⟨rfl, hB⟩
  have S3 := S2.out.below hB
  have R3 := Lib.hid (below_ran hB)
  obtain ⟨e0, e1⟩ := hn_cells (S3.perm (show _ = pts y.b (hnO y) * (pts y.xb (wrO bb eb) * (Spill.bufX bb bp 3 4 frm data * (Spill.poolX bp 40 3 4 held used opn tot * (X * R)))) by ac_rfl))
  rw [Hyt.out] at e1
  unfold thT at e1
  have HW := Lib.hid (wwrite_full y.xb bb eb bp held used opn tot frm data d hh hh2 w1 (X * R * pts y.b (hnO y)) (S3.perm (by ac_rfl)))
  clear hB HIn HGt d0 d1 S3 S2
  go_wp2_with fail
  refine HW.out.mono ?_
  rintro e w2 ⟨⟨rfl, S4⟩, R4⟩
  have R4 := Lib.hid (Below.trans R3.out R4)
  have S5 := Lib.hid (Back.out w2 y (Spill.poolX bp 40 3 4 held used opn tot * (Spill.bufX bb bp 3 4 frm data * R)) rfl (S4.perm (show _ = pts y.b (hnO y) * (pts y.xb (thO fb y.t) * (X * (Spill.poolX bp 40 3 4 held used opn tot * (Spill.bufX bb bp 3 4 frm data * R)))) by rw [Hyt.out]; unfold thO; ac_rfl)))
  rw [hup] at S5
  clear S4 HW
  go_wp2_with fail
  go_ret
  exact ⟨⟨rfl, S5.out⟩, R4.out⟩
end Go.Proofs.YtljlpkeddbfpaaaGreatDoor.Hd

