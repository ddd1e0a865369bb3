/- The last Unref; a file's gone; Stat of a table walked. -/
import Derived.Test.YtljlpkeddbfpaaaGreatDoorHdU
namespace Go.Proofs.YtljlpkeddbfpaaaGreatDoor.Hd
open Go.RowKit Go.Maps Go.Proofs.YtljlpkeddbfpaaaGreatDoor Go.Proofs.YtljlpkeddbfpaaaGreatDoor.Hp
set_option linter.unusedVariables false
attribute [local go_sem] Oper.semAt_some

def NodupK (L : HL) : Prop := (L.map Prod.fst).Nodup
theorem findA_del {α : Type} : ∀ (L : List (Int × α)) (k j : Int), (L.map Prod.fst).Nodup → findA (delA L k) j = if j = k then none else findA L j
  | [], k, j, _ => by unfold delA findA; simp
  | p :: L, k, j, h => by
    rw [List.map_cons, List.nodup_cons] at h
    unfold delA
    by_cases e : p.1 = k
    · rw [if_pos e]
      by_cases e2 : j = k
      · rw [if_pos e2]
        cases hf : findA L j with
        | none => rfl
        | some z => exact absurd (findA_mem L j (by rw [hf]; rfl)) (by rw [e2, ← e]; exact h.1)
      · rw [if_neg e2]
        show _ = (if p.1 = j then some p.2 else findA L j)
        rw [if_neg (fun h => e2 (by rw [← h, e]))]
    · rw [if_neg e]
      show (if p.1 = j then some p.2 else findA (delA L k) j) = if j = k then none else (if p.1 = j then some p.2 else findA L j)
      by_cases e2 : p.1 = j
      · rw [if_pos e2, if_pos e2, if_neg (fun h => e (by rw [e2, h]))]
      · rw [if_neg e2, if_neg e2, findA_del L k j h.2]
theorem delA_len {α : Type} : ∀ (L : List (Int × α)) (k : Int), (findA L k).isSome = true → (delA L k).length + 1 = L.length
  | [], k, h => by cases h
  | p :: L, k, h => by
    unfold findA at h
    unfold delA
    by_cases e : p.1 = k
    · rw [if_pos e]; rfl
    · rw [if_neg e] at h ⊢
      show (delA L k).length + 1 + 1 = L.length + 1
      rw [delA_len L k h]
theorem hblk_del {L : HL} (hn : NodupK L) (k : Int) : hblk (delA L k) = delP (hblk L) k := by
  funext j
  unfold hblk delP
  rw [findA_del L k j hn]
  by_cases e : j = k
  · rw [if_pos e, if_pos e]; rfl
  · rw [if_neg e, if_neg e]
-- KINDS{
set_option maxRecDepth 100000 in
set_option maxHeartbeats 4000000 in
/-- The last Unref, by what the thing's gone does. -/
theorem Unref_last_file (tb fb pb hm n : Nat) (L : HL) (id : Int) (y : Hn) (hid : I64 id) (hy : findA L id = some y) (hnd : NodupK L) (h1 : y.refs = 1) (w : World) (R R' : Hp)
    (hT : thT y.t = 83)
    (HG : ∀ W, Sat W (pts y.xb (thO fb y.t) * (tabHp tb fb pb hm (delA L id) n * R)) → Calls Tryz.prog 205 #[pp y.xb] W fun e w' => (e = .returned (.tuple #[]) ∧ Sat w' (tabHp tb fb pb hm (delA L id) n * R')) ∧ Ran W w')
    (h : Sat w (tabHp tb fb pb hm L n * R)) :
    Calls Tryz.prog 27 #[pp tb, .int .i64 id] w fun e w' => (e = .returned (.int .i64 0) ∧ Sat w' (tabHp tb fb pb hm (delA L id) n * R')) ∧ Ran w w' := by
  have HGt := get_calls tb fb pb hm n L id hid w _ h
  unfold getE at HGt
  rw [show hblk L id = some y.b by unfold hblk; rw [hy]; rfl, hy] at HGt
  unfold pv at HGt
  have HGt := Lib.hid HGt
  obtain ⟨X, e1, -, e3⟩ := focusA (hnHp fb) L id y hy
  have hlen := delA_len L id (by rw [hy]; rfl)
  have S1 := h.perm (show _ = pts y.b (hnO y) * (pmap hm (hblk L) ((delA L id).length + 1) n * (pts y.xb (thO fb y.t) * (pts tb (tbO fb pb hm) * (X * R)))) by unfold tabHp; rw [e1, ← hlen]; unfold hnHp; ac_rfl)
  obtain ⟨d0, d1⟩ := hn_cells S1
  rw [h1] at d0
  have f0 : ∀ i, w.frozen? ⟨y.b, i, none⟩ = false := fun i => free_at S1.get i
  have S2 := S1.set (i := 0) (.int .i64 0)
  obtain ⟨q0, q1⟩ := hn_cells (x := { y with refs := 0 }) S2
  have c2 : (w.setCell ⟨y.b, 0, none⟩ (.int .i64 0)).cell? ⟨tb, 2, none⟩ = some (.map (some hm)) := by
    rw [cell_at (S2.perm (show _ = pts tb (tbO fb pb hm) * (pts y.b (hnO { y with refs := 0 }) * (pmap hm (hblk L) ((delA L id).length + 1) n * (pts y.xb (thO fb y.t) * (X * R)))) by show pts y.b (hnO { y with refs := 0 }) * _ = _; ac_rfl)).get]; rfl
  obtain ⟨w2, hrun, S3, R3⟩ := pmap_del Tryz.underlying79 (S2.perm (show _ = pmap hm (hblk L) ((delA L id).length + 1) n * (pts y.b (hnO { y with refs := 0 }) * (pts y.xb (thO fb y.t) * (pts tb (tbO fb pb hm) * (X * R)))) by show pts y.b (hnO { y with refs := 0 }) * _ = _; ac_rfl)) id hid (by unfold hblk; rw [hy]; rfl) 0
  obtain ⟨x0, x1⟩ := hn_cells (x := { y with refs := 0 }) (S3.perm (show _ = pts y.b (hnO { y with refs := 0 }) * (pmap hm (delP (hblk L) id) (delA L id).length n * (pts y.xb (thO fb y.t) * (pts tb (tbO fb pb hm) * (X * R)))) by ac_rfl))
  have S4 := S3.perm (show _ = pts y.b (hnO { y with refs := 0 }) * (pts y.xb (thO fb y.t) * (tabHp tb fb pb hm (delA L id) n * R)) by unfold tabHp; rw [hblk_del hnd, e3]; ac_rfl)
  have HGo := Lib.hid (HG w2 S4.right)
  have R4 := Lib.hid (Below.trans (Ran.set (Below.refl 0 w) ⟨y.b, 0, none⟩ (.int .i64 0)) R3)
  have hmt := meth_file_gone y.xb
  dsimp only at q1 x1
  rw [hT] at d1 q1 x1
  clear h S1 S2 S3 S4 HG hT e1 e3 hlen R3
  go_enter Tryz.func27, Tryz.ntmps27
  go_wp2_with fail
  refine HGt.out.mono ?_
  rintro e w1 ⟨rfl, rfl⟩
  go_wp2_with fail
  refine HGo.out.mono ?_
  rintro e w3 ⟨⟨rfl, S5⟩, R5⟩
  have R5 := Lib.hid (Below.trans R4.out R5)
  have S5 := Lib.hid S5
  clear HGo R4
  go_wp2_with fail
  go_ret
  exact ⟨⟨rfl, S5.out⟩, R5.out⟩
set_option maxRecDepth 100000 in
set_option maxHeartbeats 4000000 in
/-- The last Unref, by what the thing's gone does. -/
theorem Unref_last_text (tb fb pb hm n : Nat) (L : HL) (id : Int) (y : Hn) (hid : I64 id) (hy : findA L id = some y) (hnd : NodupK L) (h1 : y.refs = 1) (w : World) (R R' : Hp)
    (hT : thT y.t = 105)
    (HG : ∀ W, Sat W (pts y.xb (thO fb y.t) * (tabHp tb fb pb hm (delA L id) n * R)) → Calls Tryz.prog 211 #[pp y.xb] W fun e w' => (e = .returned (.tuple #[]) ∧ Sat w' (tabHp tb fb pb hm (delA L id) n * R')) ∧ Ran W w')
    (h : Sat w (tabHp tb fb pb hm L n * R)) :
    Calls Tryz.prog 27 #[pp tb, .int .i64 id] w fun e w' => (e = .returned (.int .i64 0) ∧ Sat w' (tabHp tb fb pb hm (delA L id) n * R')) ∧ Ran w w' := by
  have HGt := get_calls tb fb pb hm n L id hid w _ h
  unfold getE at HGt
  rw [show hblk L id = some y.b by unfold hblk; rw [hy]; rfl, hy] at HGt
  unfold pv at HGt
  have HGt := Lib.hid HGt
  obtain ⟨X, e1, -, e3⟩ := focusA (hnHp fb) L id y hy
  have hlen := delA_len L id (by rw [hy]; rfl)
  have S1 := h.perm (show _ = pts y.b (hnO y) * (pmap hm (hblk L) ((delA L id).length + 1) n * (pts y.xb (thO fb y.t) * (pts tb (tbO fb pb hm) * (X * R)))) by unfold tabHp; rw [e1, ← hlen]; unfold hnHp; ac_rfl)
  obtain ⟨d0, d1⟩ := hn_cells S1
  rw [h1] at d0
  have f0 : ∀ i, w.frozen? ⟨y.b, i, none⟩ = false := fun i => free_at S1.get i
  have S2 := S1.set (i := 0) (.int .i64 0)
  obtain ⟨q0, q1⟩ := hn_cells (x := { y with refs := 0 }) S2
  have c2 : (w.setCell ⟨y.b, 0, none⟩ (.int .i64 0)).cell? ⟨tb, 2, none⟩ = some (.map (some hm)) := by
    rw [cell_at (S2.perm (show _ = pts tb (tbO fb pb hm) * (pts y.b (hnO { y with refs := 0 }) * (pmap hm (hblk L) ((delA L id).length + 1) n * (pts y.xb (thO fb y.t) * (X * R)))) by show pts y.b (hnO { y with refs := 0 }) * _ = _; ac_rfl)).get]; rfl
  obtain ⟨w2, hrun, S3, R3⟩ := pmap_del Tryz.underlying79 (S2.perm (show _ = pmap hm (hblk L) ((delA L id).length + 1) n * (pts y.b (hnO { y with refs := 0 }) * (pts y.xb (thO fb y.t) * (pts tb (tbO fb pb hm) * (X * R)))) by show pts y.b (hnO { y with refs := 0 }) * _ = _; ac_rfl)) id hid (by unfold hblk; rw [hy]; rfl) 0
  obtain ⟨x0, x1⟩ := hn_cells (x := { y with refs := 0 }) (S3.perm (show _ = pts y.b (hnO { y with refs := 0 }) * (pmap hm (delP (hblk L) id) (delA L id).length n * (pts y.xb (thO fb y.t) * (pts tb (tbO fb pb hm) * (X * R)))) by ac_rfl))
  have S4 := S3.perm (show _ = pts y.b (hnO { y with refs := 0 }) * (pts y.xb (thO fb y.t) * (tabHp tb fb pb hm (delA L id) n * R)) by unfold tabHp; rw [hblk_del hnd, e3]; ac_rfl)
  have HGo := Lib.hid (HG w2 S4.right)
  have R4 := Lib.hid (Below.trans (Ran.set (Below.refl 0 w) ⟨y.b, 0, none⟩ (.int .i64 0)) R3)
  have hmt := meth_text_gone y.xb
  dsimp only at q1 x1
  rw [hT] at d1 q1 x1
  clear h S1 S2 S3 S4 HG hT e1 e3 hlen R3
  go_enter Tryz.func27, Tryz.ntmps27
  go_wp2_with fail
  refine HGt.out.mono ?_
  rintro e w1 ⟨rfl, rfl⟩
  go_wp2_with fail
  refine HGo.out.mono ?_
  rintro e w3 ⟨⟨rfl, S5⟩, R5⟩
  have R5 := Lib.hid (Below.trans R4.out R5)
  have S5 := Lib.hid S5
  clear HGo R4
  go_wp2_with fail
  go_ret
  exact ⟨⟨rfl, S5.out⟩, R5.out⟩
set_option maxRecDepth 100000 in
set_option maxHeartbeats 4000000 in
/-- The last Unref, by what the thing's gone does. -/
theorem Unref_last_reader (tb fb pb hm n : Nat) (L : HL) (id : Int) (y : Hn) (hid : I64 id) (hy : findA L id = some y) (hnd : NodupK L) (h1 : y.refs = 1) (w : World) (R R' : Hp)
    (hT : thT y.t = 110)
    (HG : ∀ W, Sat W (pts y.xb (thO fb y.t) * (tabHp tb fb pb hm (delA L id) n * R)) → Calls Tryz.prog 216 #[pp y.xb] W fun e w' => (e = .returned (.tuple #[]) ∧ Sat w' (tabHp tb fb pb hm (delA L id) n * R')) ∧ Ran W w')
    (h : Sat w (tabHp tb fb pb hm L n * R)) :
    Calls Tryz.prog 27 #[pp tb, .int .i64 id] w fun e w' => (e = .returned (.int .i64 0) ∧ Sat w' (tabHp tb fb pb hm (delA L id) n * R')) ∧ Ran w w' := by
  have HGt := get_calls tb fb pb hm n L id hid w _ h
  unfold getE at HGt
  rw [show hblk L id = some y.b by unfold hblk; rw [hy]; rfl, hy] at HGt
  unfold pv at HGt
  have HGt := Lib.hid HGt
  obtain ⟨X, e1, -, e3⟩ := focusA (hnHp fb) L id y hy
  have hlen := delA_len L id (by rw [hy]; rfl)
  have S1 := h.perm (show _ = pts y.b (hnO y) * (pmap hm (hblk L) ((delA L id).length + 1) n * (pts y.xb (thO fb y.t) * (pts tb (tbO fb pb hm) * (X * R)))) by unfold tabHp; rw [e1, ← hlen]; unfold hnHp; ac_rfl)
  obtain ⟨d0, d1⟩ := hn_cells S1
  rw [h1] at d0
  have f0 : ∀ i, w.frozen? ⟨y.b, i, none⟩ = false := fun i => free_at S1.get i
  have S2 := S1.set (i := 0) (.int .i64 0)
  obtain ⟨q0, q1⟩ := hn_cells (x := { y with refs := 0 }) S2
  have c2 : (w.setCell ⟨y.b, 0, none⟩ (.int .i64 0)).cell? ⟨tb, 2, none⟩ = some (.map (some hm)) := by
    rw [cell_at (S2.perm (show _ = pts tb (tbO fb pb hm) * (pts y.b (hnO { y with refs := 0 }) * (pmap hm (hblk L) ((delA L id).length + 1) n * (pts y.xb (thO fb y.t) * (X * R)))) by show pts y.b (hnO { y with refs := 0 }) * _ = _; ac_rfl)).get]; rfl
  obtain ⟨w2, hrun, S3, R3⟩ := pmap_del Tryz.underlying79 (S2.perm (show _ = pmap hm (hblk L) ((delA L id).length + 1) n * (pts y.b (hnO { y with refs := 0 }) * (pts y.xb (thO fb y.t) * (pts tb (tbO fb pb hm) * (X * R)))) by show pts y.b (hnO { y with refs := 0 }) * _ = _; ac_rfl)) id hid (by unfold hblk; rw [hy]; rfl) 0
  obtain ⟨x0, x1⟩ := hn_cells (x := { y with refs := 0 }) (S3.perm (show _ = pts y.b (hnO { y with refs := 0 }) * (pmap hm (delP (hblk L) id) (delA L id).length n * (pts y.xb (thO fb y.t) * (pts tb (tbO fb pb hm) * (X * R)))) by ac_rfl))
  have S4 := S3.perm (show _ = pts y.b (hnO { y with refs := 0 }) * (pts y.xb (thO fb y.t) * (tabHp tb fb pb hm (delA L id) n * R)) by unfold tabHp; rw [hblk_del hnd, e3]; ac_rfl)
  have HGo := Lib.hid (HG w2 S4.right)
  have R4 := Lib.hid (Below.trans (Ran.set (Below.refl 0 w) ⟨y.b, 0, none⟩ (.int .i64 0)) R3)
  have hmt := meth_reader_gone y.xb
  dsimp only at q1 x1
  rw [hT] at d1 q1 x1
  clear h S1 S2 S3 S4 HG hT e1 e3 hlen R3
  go_enter Tryz.func27, Tryz.ntmps27
  go_wp2_with fail
  refine HGt.out.mono ?_
  rintro e w1 ⟨rfl, rfl⟩
  go_wp2_with fail
  refine HGo.out.mono ?_
  rintro e w3 ⟨⟨rfl, S5⟩, R5⟩
  have R5 := Lib.hid (Below.trans R4.out R5)
  have S5 := Lib.hid S5
  clear HGo R4
  go_wp2_with fail
  go_ret
  exact ⟨⟨rfl, S5.out⟩, R5.out⟩
set_option maxRecDepth 100000 in
set_option maxHeartbeats 4000000 in
/-- The last Unref, by what the thing's gone does. -/
theorem Unref_last_writer (tb fb pb hm n : Nat) (L : HL) (id : Int) (y : Hn) (hid : I64 id) (hy : findA L id = some y) (hnd : NodupK L) (h1 : y.refs = 1) (w : World) (R R' : Hp)
    (hT : thT y.t = 114)
    (HG : ∀ W, Sat W (pts y.xb (thO fb y.t) * (tabHp tb fb pb hm (delA L id) n * R)) → Calls Tryz.prog 226 #[pp y.xb] W fun e w' => (e = .returned (.tuple #[]) ∧ Sat w' (tabHp tb fb pb hm (delA L id) n * R')) ∧ Ran W w')
    (h : Sat w (tabHp tb fb pb hm L n * R)) :
    Calls Tryz.prog 27 #[pp tb, .int .i64 id] w fun e w' => (e = .returned (.int .i64 0) ∧ Sat w' (tabHp tb fb pb hm (delA L id) n * R')) ∧ Ran w w' := by
  have HGt := get_calls tb fb pb hm n L id hid w _ h
  unfold getE at HGt
  rw [show hblk L id = some y.b by unfold hblk; rw [hy]; rfl, hy] at HGt
  unfold pv at HGt
  have HGt := Lib.hid HGt
  obtain ⟨X, e1, -, e3⟩ := focusA (hnHp fb) L id y hy
  have hlen := delA_len L id (by rw [hy]; rfl)
  have S1 := h.perm (show _ = pts y.b (hnO y) * (pmap hm (hblk L) ((delA L id).length + 1) n * (pts y.xb (thO fb y.t) * (pts tb (tbO fb pb hm) * (X * R)))) by unfold tabHp; rw [e1, ← hlen]; unfold hnHp; ac_rfl)
  obtain ⟨d0, d1⟩ := hn_cells S1
  rw [h1] at d0
  have f0 : ∀ i, w.frozen? ⟨y.b, i, none⟩ = false := fun i => free_at S1.get i
  have S2 := S1.set (i := 0) (.int .i64 0)
  obtain ⟨q0, q1⟩ := hn_cells (x := { y with refs := 0 }) S2
  have c2 : (w.setCell ⟨y.b, 0, none⟩ (.int .i64 0)).cell? ⟨tb, 2, none⟩ = some (.map (some hm)) := by
    rw [cell_at (S2.perm (show _ = pts tb (tbO fb pb hm) * (pts y.b (hnO { y with refs := 0 }) * (pmap hm (hblk L) ((delA L id).length + 1) n * (pts y.xb (thO fb y.t) * (X * R)))) by show pts y.b (hnO { y with refs := 0 }) * _ = _; ac_rfl)).get]; rfl
  obtain ⟨w2, hrun, S3, R3⟩ := pmap_del Tryz.underlying79 (S2.perm (show _ = pmap hm (hblk L) ((delA L id).length + 1) n * (pts y.b (hnO { y with refs := 0 }) * (pts y.xb (thO fb y.t) * (pts tb (tbO fb pb hm) * (X * R)))) by show pts y.b (hnO { y with refs := 0 }) * _ = _; ac_rfl)) id hid (by unfold hblk; rw [hy]; rfl) 0
  obtain ⟨x0, x1⟩ := hn_cells (x := { y with refs := 0 }) (S3.perm (show _ = pts y.b (hnO { y with refs := 0 }) * (pmap hm (delP (hblk L) id) (delA L id).length n * (pts y.xb (thO fb y.t) * (pts tb (tbO fb pb hm) * (X * R)))) by ac_rfl))
  have S4 := S3.perm (show _ = pts y.b (hnO { y with refs := 0 }) * (pts y.xb (thO fb y.t) * (tabHp tb fb pb hm (delA L id) n * R)) by unfold tabHp; rw [hblk_del hnd, e3]; ac_rfl)
  have HGo := Lib.hid (HG w2 S4.right)
  have R4 := Lib.hid (Below.trans (Ran.set (Below.refl 0 w) ⟨y.b, 0, none⟩ (.int .i64 0)) R3)
  have hmt := meth_writer_gone y.xb
  dsimp only at q1 x1
  rw [hT] at d1 q1 x1
  clear h S1 S2 S3 S4 HG hT e1 e3 hlen R3
  go_enter Tryz.func27, Tryz.ntmps27
  go_wp2_with fail
  refine HGt.out.mono ?_
  rintro e w1 ⟨rfl, rfl⟩
  go_wp2_with fail
  refine HGo.out.mono ?_
  rintro e w3 ⟨⟨rfl, S5⟩, R5⟩
  have R5 := Lib.hid (Below.trans R4.out R5)
  have S5 := Lib.hid S5
  clear HGo R4
  go_wp2_with fail
  go_ret
  exact ⟨⟨rfl, S5.out⟩, R5.out⟩
-- }KINDS
set_option maxRecDepth 100000 in
set_option maxHeartbeats 4000000 in
theorem fgone_calls (xb fb mb : Nat) (F : Fs) (k : Int) (a : Nat) (m : Md) (x : Nd) (hk : I64 k) (hs : FsOk F) (hx : find F.L k = some x) (hn : 1 ≤ x.names) (w : World) (R : Hp)
    (h : Sat w (fsHp fb mb F * (pts xb (flO fb k a m) * R))) :
    Calls Tryz.prog 205 #[pp xb] w fun e w' => (e = .returned (.tuple #[]) ∧ Sat w' (fsHp fb mb (dropP F k) * (pts xb (flO fb k a m) * R))) ∧ Ran w w' := by
  have HD := Lib.hid (Drop_calls fb mb F k x hk hs hx hn w.drew _ h.drew)
  obtain ⟨d0', d1', -⟩ := fl_cells h.right.drew
  clear h
  go_enter Tryz.func205, Tryz.ntmps205
  go_wp2_with fail
  refine Go.Proofs.YtljlpkeddbfpaaaGreatDoor.region_plan (S := (fun w' => w'.cell? ⟨xb, 0, none⟩ = some (pp fb) ∧ w'.cell? ⟨xb, 1, none⟩ = some (.int .i64 k))) [(0, true), (1, true), (2, true), (3, true), (4, true), (5, true), (6, true), (7, true), (8, false)] (by kernel_rfl) (by kernel_rfl) (by kernel_rfl) ?_ ?_
  · ((try dsimp only); (first | done | (first | exact ⟨d0', d1'⟩ | exact K5)))
  simp only [Go.Proofs.YtljlpkeddbfpaaaGreatDoor.planOps, List.map_cons, List.map_nil, List.getElem?_toArray, List.getElem?_cons_zero, List.getElem?_cons_succ]
  repeat (first
    | ((refine Go.Proofs.YtljlpkeddbfpaaaGreatDoor.plan_yes (v := ?_) (by rfl) ?_ ?_); rotate_left; (focus (intro w hSw; (try dsimp only at hSw); go_simp; try (with_reducible rfl))); (try simp only [Act.put, List.setIfInBounds_toArray, List.set_cons_zero, List.set_cons_succ]))
    | ((refine Go.Proofs.YtljlpkeddbfpaaaGreatDoor.plan_no (by rfl) ?_); (try simp only [Act.put, List.setIfInBounds_toArray, List.set_cons_zero, List.set_cons_succ]))
    | ((refine Go.Proofs.YtljlpkeddbfpaaaGreatDoor.plan_step (fun K hK => ?_)); (first | ((go_at_call 209; refine HD.out.mono ?_; rintro e w5 ⟨⟨rfl, S5⟩, R5⟩; have K5 := (And.intro (fl_cells S5.right).1 (fl_cells S5.right).2.1))) | (go_simp; ((go_at_call 209; refine HD.out.mono ?_; rintro e w5 ⟨⟨rfl, S5⟩, R5⟩; have K5 := (And.intro (fl_cells S5.right).1 (fl_cells S5.right).2.1))); (try go_wp2_with fail)) | go_simp); (refine hK.out _ _ ?_ (fun hHeld => ?_)); (focus ((try dsimp only); (first | done | (first | exact ⟨d0', d1'⟩ | exact K5)))); clear hK K; (try simp only [Act.put, List.setIfInBounds_toArray, List.set_cons_zero, List.set_cons_succ])))
  refine Go.Proofs.YtljlpkeddbfpaaaGreatDoor.plan_done ?_
  have S5 := Lib.hid S5
  have R5 := Lib.hid (Below.trans (Ran.drewN (Below.refl 0 w) 1) R5)
  go_wp2_with fail
  go_end0
  exact ⟨⟨rfl, S5.out⟩, R5.out⟩
end Go.Proofs.YtljlpkeddbfpaaaGreatDoor.Hd
