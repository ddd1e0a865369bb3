/- HandlesPlays, part 7 of 34: the texts HdV HdW HdX HdY, joined by a program. -/
import Derived.Test.YtljlpkeddbfpaaaGreatDoorHm6
namespace Go.Proofs.YtljlpkeddbfpaaaGreatDoor.Hd
open Go.RowKit Go.Maps Go.Proofs.YtljlpkeddbfpaaaGreatDoor Go.Proofs.YtljlpkeddbfpaaaGreatDoor.Hp
set_option linter.unusedVariables false
attribute [local go_sem] Oper.semAt_some

def NodupK (L : HL) : Prop := (L.map Prod.fst).Nodup
theorem findA_del {α : Type} : ∀ (L : List (Int × α)) (k j : Int), (L.map Prod.fst).Nodup → findA (delA L k) j = if j = k then none else findA L j
  | [], k, j, _ => by unfold delA findA; simp
  | p :: L, k, j, h => by
    rw [List.map_cons, List.nodup_cons] at h
    unfold delA
    by_cases e : p.1 = k
    · rw [if_pos e]
      by_cases e2 : j = k
      · rw [if_pos e2]
        cases hf : findA L j with
        | none => rfl
        | some z => exact absurd (findA_mem L j (by rw [hf]; rfl)) (by rw [e2, ← e]; exact h.1)
      · rw [if_neg e2]
        show _ = (if p.1 = j then some p.2 else findA L j)
        rw [if_neg (fun h => e2 (by rw [← h, e]))]
    · rw [if_neg e]
      show (if p.1 = j then some p.2 else findA (delA L k) j) = if j = k then none else (if p.1 = j then some p.2 else findA L j)
      by_cases e2 : p.1 = j
      · rw [if_pos e2, if_pos e2, if_neg (fun h => e (by rw [e2, h]))]
      · rw [if_neg e2, if_neg e2, findA_del L k j h.2]
theorem delA_len {α : Type} : ∀ (L : List (Int × α)) (k : Int), (findA L k).isSome = true → (delA L k).length + 1 = L.length
  | [], k, h => by cases h
  | p :: L, k, h => by
    unfold findA at h
    unfold delA
    by_cases e : p.1 = k
    · rw [if_pos e]; rfl
    · rw [if_neg e] at h ⊢
      show (delA L k).length + 1 + 1 = L.length + 1
      rw [delA_len L k h]
theorem hblk_del {L : HL} (hn : NodupK L) (k : Int) : hblk (delA L k) = delP (hblk L) k := by
  funext j
  unfold hblk delP
  rw [findA_del L k j hn]
  by_cases e : j = k
  · rw [if_pos e, if_pos e]; rfl
  · rw [if_neg e, if_neg e]
-- KINDS{
set_option maxRecDepth 100000 in
set_option maxHeartbeats 4000000 in
/-- The last Unref, by what the thing's gone does. -/
theorem Unref_last_file (tb fb pb hm n : Nat) (L : HL) (id : Int) (y : Hn) (hid : I64 id) (hy : findA L id = some y) (hnd : NodupK L) (h1 : y.refs = 1) (w : World) (R R' : Hp)
    (hT : thT y.t = 83)
    (HG : ∀ W, Sat W (pts y.xb (thO fb y.t) * (tabHp tb fb pb hm (delA L id) n * R)) → Calls Tryz.prog 205 #[pp y.xb] W fun e w' => (e = .returned (.tuple #[]) ∧ Sat w' (tabHp tb fb pb hm (delA L id) n * R')) ∧ Ran W w')
    (h : Sat w (tabHp tb fb pb hm L n * R)) :
    Calls Tryz.prog 27 #[pp tb, .int .i64 id] w fun e w' => (e = .returned (.int .i64 0) ∧ Sat w' (tabHp tb fb pb hm (delA L id) n * R')) ∧ Ran w w' := by
  have HGt := get_calls tb fb pb hm n L id hid w _ h
  unfold getE at HGt
  rw [show hblk L id = some y.b by unfold hblk; rw [hy]; rfl, hy] at HGt
  unfold pv at HGt
  have HGt := Lib.hid HGt
  obtain ⟨X, e1, -, e3⟩ := focusA (hnHp fb) L id y hy
  have hlen := delA_len L id (by rw [hy]; rfl)
  have S1 := h.perm (show _ = pts y.b (hnO y) * (pmap hm (hblk L) ((delA L id).length + 1) n * (pts y.xb (thO fb y.t) * (pts tb (tbO fb pb hm) * (X * R)))) by unfold tabHp; rw [e1, ← hlen]; unfold hnHp; ac_rfl)
  obtain ⟨d0, d1⟩ := hn_cells S1
  rw [h1] at d0
  have f0 : ∀ i, w.frozen? ⟨y.b, i, none⟩ = false := fun i => free_at S1.get i
  have S2 := S1.set (i := 0) (.int .i64 0)
  obtain ⟨q0, q1⟩ := hn_cells (x := { y with refs := 0 }) S2
  have c2 : (w.setCell ⟨y.b, 0, none⟩ (.int .i64 0)).cell? ⟨tb, 2, none⟩ = some (.map (some hm)) := by
    rw [cell_at (S2.perm (show _ = pts tb (tbO fb pb hm) * (pts y.b (hnO { y with refs := 0 }) * (pmap hm (hblk L) ((delA L id).length + 1) n * (pts y.xb (thO fb y.t) * (X * R)))) by show pts y.b (hnO { y with refs := 0 }) * _ = _; ac_rfl)).get]; rfl
  obtain ⟨w2, hrun, S3, R3⟩ := pmap_del Tryz.underlying79 (S2.perm (show _ = pmap hm (hblk L) ((delA L id).length + 1) n * (pts y.b (hnO { y with refs := 0 }) * (pts y.xb (thO fb y.t) * (pts tb (tbO fb pb hm) * (X * R)))) by show pts y.b (hnO { y with refs := 0 }) * _ = _; ac_rfl)) id hid (by unfold hblk; rw [hy]; rfl) 0
  obtain ⟨x0, x1⟩ := hn_cells (x := { y with refs := 0 }) (S3.perm (show _ = pts y.b (hnO { y with refs := 0 }) * (pmap hm (delP (hblk L) id) (delA L id).length n * (pts y.xb (thO fb y.t) * (pts tb (tbO fb pb hm) * (X * R)))) by ac_rfl))
  have S4 := S3.perm (show _ = pts y.b (hnO { y with refs := 0 }) * (pts y.xb (thO fb y.t) * (tabHp tb fb pb hm (delA L id) n * R)) by unfold tabHp; rw [hblk_del hnd, e3]; ac_rfl)
  have HGo := Lib.hid (HG w2 S4.right)
  have R4 := Lib.hid (Below.trans (Ran.set (Below.refl 0 w) ⟨y.b, 0, none⟩ (.int .i64 0)) R3)
  have hmt := meth_file_gone y.xb
  dsimp only at q1 x1
  rw [hT] at d1 q1 x1
  clear h S1 S2 S3 S4 HG hT e1 e3 hlen R3
  go_enter Tryz.func27, Tryz.ntmps27
  go_wp2_with fail
  refine HGt.out.mono ?_
  rintro e w1 ⟨rfl, rfl⟩
  go_wp2_with fail
  refine HGo.out.mono ?_
  rintro e w3 ⟨⟨rfl, S5⟩, R5⟩
  have R5 := Lib.hid (Below.trans R4.out R5)
  have S5 := Lib.hid S5
  clear HGo R4
  go_wp2_with fail
  go_ret
  exact ⟨⟨rfl, S5.out⟩, R5.out⟩
set_option maxRecDepth 100000 in
set_option maxHeartbeats 4000000 in
/-- The last Unref, by what the thing's gone does. -/
theorem Unref_last_text (tb fb pb hm n : Nat) (L : HL) (id : Int) (y : Hn) (hid : I64 id) (hy : findA L id = some y) (hnd : NodupK L) (h1 : y.refs = 1) (w : World) (R R' : Hp)
    (hT : thT y.t = 105)
    (HG : ∀ W, Sat W (pts y.xb (thO fb y.t) * (tabHp tb fb pb hm (delA L id) n * R)) → Calls Tryz.prog 211 #[pp y.xb] W fun e w' => (e = .returned (.tuple #[]) ∧ Sat w' (tabHp tb fb pb hm (delA L id) n * R')) ∧ Ran W w')
    (h : Sat w (tabHp tb fb pb hm L n * R)) :
    Calls Tryz.prog 27 #[pp tb, .int .i64 id] w fun e w' => (e = .returned (.int .i64 0) ∧ Sat w' (tabHp tb fb pb hm (delA L id) n * R')) ∧ Ran w w' := by
  have HGt := get_calls tb fb pb hm n L id hid w _ h
  unfold getE at HGt
  rw [show hblk L id = some y.b by unfold hblk; rw [hy]; rfl, hy] at HGt
  unfold pv at HGt
  have HGt := Lib.hid HGt
  obtain ⟨X, e1, -, e3⟩ := focusA (hnHp fb) L id y hy
  have hlen := delA_len L id (by rw [hy]; rfl)
  have S1 := h.perm (show _ = pts y.b (hnO y) * (pmap hm (hblk L) ((delA L id).length + 1) n * (pts y.xb (thO fb y.t) * (pts tb (tbO fb pb hm) * (X * R)))) by unfold tabHp; rw [e1, ← hlen]; unfold hnHp; ac_rfl)
  obtain ⟨d0, d1⟩ := hn_cells S1
  rw [h1] at d0
  have f0 : ∀ i, w.frozen? ⟨y.b, i, none⟩ = false := fun i => free_at S1.get i
  have S2 := S1.set (i := 0) (.int .i64 0)
  obtain ⟨q0, q1⟩ := hn_cells (x := { y with refs := 0 }) S2
  have c2 : (w.setCell ⟨y.b, 0, none⟩ (.int .i64 0)).cell? ⟨tb, 2, none⟩ = some (.map (some hm)) := by
    rw [cell_at (S2.perm (show _ = pts tb (tbO fb pb hm) * (pts y.b (hnO { y with refs := 0 }) * (pmap hm (hblk L) ((delA L id).length + 1) n * (pts y.xb (thO fb y.t) * (X * R)))) by show pts y.b (hnO { y with refs := 0 }) * _ = _; ac_rfl)).get]; rfl
  obtain ⟨w2, hrun, S3, R3⟩ := pmap_del Tryz.underlying79 (S2.perm (show _ = pmap hm (hblk L) ((delA L id).length + 1) n * (pts y.b (hnO { y with refs := 0 }) * (pts y.xb (thO fb y.t) * (pts tb (tbO fb pb hm) * (X * R)))) by show pts y.b (hnO { y with refs := 0 }) * _ = _; ac_rfl)) id hid (by unfold hblk; rw [hy]; rfl) 0
  obtain ⟨x0, x1⟩ := hn_cells (x := { y with refs := 0 }) (S3.perm (show _ = pts y.b (hnO { y with refs := 0 }) * (pmap hm (delP (hblk L) id) (delA L id).length n * (pts y.xb (thO fb y.t) * (pts tb (tbO fb pb hm) * (X * R)))) by ac_rfl))
  have S4 := S3.perm (show _ = pts y.b (hnO { y with refs := 0 }) * (pts y.xb (thO fb y.t) * (tabHp tb fb pb hm (delA L id) n * R)) by unfold tabHp; rw [hblk_del hnd, e3]; ac_rfl)
  have HGo := Lib.hid (HG w2 S4.right)
  have R4 := Lib.hid (Below.trans (Ran.set (Below.refl 0 w) ⟨y.b, 0, none⟩ (.int .i64 0)) R3)
  have hmt := meth_text_gone y.xb
  dsimp only at q1 x1
  rw [hT] at d1 q1 x1
  clear h S1 S2 S3 S4 HG hT e1 e3 hlen R3
  go_enter Tryz.func27, Tryz.ntmps27
  go_wp2_with fail
  refine HGt.out.mono ?_
  rintro e w1 ⟨rfl, rfl⟩
  go_wp2_with fail
  refine HGo.out.mono ?_
  rintro e w3 ⟨⟨rfl, S5⟩, R5⟩
  have R5 := Lib.hid (Below.trans R4.out R5)
  have S5 := Lib.hid S5
  clear HGo R4
  go_wp2_with fail
  go_ret
  exact ⟨⟨rfl, S5.out⟩, R5.out⟩
set_option maxRecDepth 100000 in
set_option maxHeartbeats 4000000 in
/-- The last Unref, by what the thing's gone does. -/
theorem Unref_last_reader (tb fb pb hm n : Nat) (L : HL) (id : Int) (y : Hn) (hid : I64 id) (hy : findA L id = some y) (hnd : NodupK L) (h1 : y.refs = 1) (w : World) (R R' : Hp)
    (hT : thT y.t = 110)
    (HG : ∀ W, Sat W (pts y.xb (thO fb y.t) * (tabHp tb fb pb hm (delA L id) n * R)) → Calls Tryz.prog 216 #[pp y.xb] W fun e w' => (e = .returned (.tuple #[]) ∧ Sat w' (tabHp tb fb pb hm (delA L id) n * R')) ∧ Ran W w')
    (h : Sat w (tabHp tb fb pb hm L n * R)) :
    Calls Tryz.prog 27 #[pp tb, .int .i64 id] w fun e w' => (e = .returned (.int .i64 0) ∧ Sat w' (tabHp tb fb pb hm (delA L id) n * R')) ∧ Ran w w' := by
  have HGt := get_calls tb fb pb hm n L id hid w _ h
  unfold getE at HGt
  rw [show hblk L id = some y.b by unfold hblk; rw [hy]; rfl, hy] at HGt
  unfold pv at HGt
  have HGt := Lib.hid HGt
  obtain ⟨X, e1, -, e3⟩ := focusA (hnHp fb) L id y hy
  have hlen := delA_len L id (by rw [hy]; rfl)
  have S1 := h.perm (show _ = pts y.b (hnO y) * (pmap hm (hblk L) ((delA L id).length + 1) n * (pts y.xb (thO fb y.t) * (pts tb (tbO fb pb hm) * (X * R)))) by unfold tabHp; rw [e1, ← hlen]; unfold hnHp; ac_rfl)
  obtain ⟨d0, d1⟩ := hn_cells S1
  rw [h1] at d0
  have f0 : ∀ i, w.frozen? ⟨y.b, i, none⟩ = false := fun i => free_at S1.get i
  have S2 := S1.set (i := 0) (.int .i64 0)
  obtain ⟨q0, q1⟩ := hn_cells (x := { y with refs := 0 }) S2
  have c2 : (w.setCell ⟨y.b, 0, none⟩ (.int .i64 0)).cell? ⟨tb, 2, none⟩ = some (.map (some hm)) := by
    rw [cell_at (S2.perm (show _ = pts tb (tbO fb pb hm) * (pts y.b (hnO { y with refs := 0 }) * (pmap hm (hblk L) ((delA L id).length + 1) n * (pts y.xb (thO fb y.t) * (X * R)))) by show pts y.b (hnO { y with refs := 0 }) * _ = _; ac_rfl)).get]; rfl
  obtain ⟨w2, hrun, S3, R3⟩ := pmap_del Tryz.underlying79 (S2.perm (show _ = pmap hm (hblk L) ((delA L id).length + 1) n * (pts y.b (hnO { y with refs := 0 }) * (pts y.xb (thO fb y.t) * (pts tb (tbO fb pb hm) * (X * R)))) by show pts y.b (hnO { y with refs := 0 }) * _ = _; ac_rfl)) id hid (by unfold hblk; rw [hy]; rfl) 0
  obtain ⟨x0, x1⟩ := hn_cells (x := { y with refs := 0 }) (S3.perm (show _ = pts y.b (hnO { y with refs := 0 }) * (pmap hm (delP (hblk L) id) (delA L id).length n * (pts y.xb (thO fb y.t) * (pts tb (tbO fb pb hm) * (X * R)))) by ac_rfl))
  have S4 := S3.perm (show _ = pts y.b (hnO { y with refs := 0 }) * (pts y.xb (thO fb y.t) * (tabHp tb fb pb hm (delA L id) n * R)) by unfold tabHp; rw [hblk_del hnd, e3]; ac_rfl)
  have HGo := Lib.hid (HG w2 S4.right)
  have R4 := Lib.hid (Below.trans (Ran.set (Below.refl 0 w) ⟨y.b, 0, none⟩ (.int .i64 0)) R3)
  have hmt := meth_reader_gone y.xb
  dsimp only at q1 x1
  rw [hT] at d1 q1 x1
  clear h S1 S2 S3 S4 HG hT e1 e3 hlen R3
  go_enter Tryz.func27, Tryz.ntmps27
  go_wp2_with fail
  refine HGt.out.mono ?_
  rintro e w1 ⟨rfl, rfl⟩
  go_wp2_with fail
  refine HGo.out.mono ?_
  rintro e w3 ⟨⟨rfl, S5⟩, R5⟩
  have R5 := Lib.hid (Below.trans R4.out R5)
  have S5 := Lib.hid S5
  clear HGo R4
  go_wp2_with fail
  go_ret
  exact ⟨⟨rfl, S5.out⟩, R5.out⟩
set_option maxRecDepth 100000 in
set_option maxHeartbeats 4000000 in
/-- The last Unref, by what the thing's gone does. -/
theorem Unref_last_writer (tb fb pb hm n : Nat) (L : HL) (id : Int) (y : Hn) (hid : I64 id) (hy : findA L id = some y) (hnd : NodupK L) (h1 : y.refs = 1) (w : World) (R R' : Hp)
    (hT : thT y.t = 114)
    (HG : ∀ W, Sat W (pts y.xb (thO fb y.t) * (tabHp tb fb pb hm (delA L id) n * R)) → Calls Tryz.prog 226 #[pp y.xb] W fun e w' => (e = .returned (.tuple #[]) ∧ Sat w' (tabHp tb fb pb hm (delA L id) n * R')) ∧ Ran W w')
    (h : Sat w (tabHp tb fb pb hm L n * R)) :
    Calls Tryz.prog 27 #[pp tb, .int .i64 id] w fun e w' => (e = .returned (.int .i64 0) ∧ Sat w' (tabHp tb fb pb hm (delA L id) n * R')) ∧ Ran w w' := by
  have HGt := get_calls tb fb pb hm n L id hid w _ h
  unfold getE at HGt
  rw [show hblk L id = some y.b by unfold hblk; rw [hy]; rfl, hy] at HGt
  unfold pv at HGt
  have HGt := Lib.hid HGt
  obtain ⟨X, e1, -, e3⟩ := focusA (hnHp fb) L id y hy
  have hlen := delA_len L id (by rw [hy]; rfl)
  have S1 := h.perm (show _ = pts y.b (hnO y) * (pmap hm (hblk L) ((delA L id).length + 1) n * (pts y.xb (thO fb y.t) * (pts tb (tbO fb pb hm) * (X * R)))) by unfold tabHp; rw [e1, ← hlen]; unfold hnHp; ac_rfl)
  obtain ⟨d0, d1⟩ := hn_cells S1
  rw [h1] at d0
  have f0 : ∀ i, w.frozen? ⟨y.b, i, none⟩ = false := fun i => free_at S1.get i
  have S2 := S1.set (i := 0) (.int .i64 0)
  obtain ⟨q0, q1⟩ := hn_cells (x := { y with refs := 0 }) S2
  have c2 : (w.setCell ⟨y.b, 0, none⟩ (.int .i64 0)).cell? ⟨tb, 2, none⟩ = some (.map (some hm)) := by
    rw [cell_at (S2.perm (show _ = pts tb (tbO fb pb hm) * (pts y.b (hnO { y with refs := 0 }) * (pmap hm (hblk L) ((delA L id).length + 1) n * (pts y.xb (thO fb y.t) * (X * R)))) by show pts y.b (hnO { y with refs := 0 }) * _ = _; ac_rfl)).get]; rfl
  obtain ⟨w2, hrun, S3, R3⟩ := pmap_del Tryz.underlying79 (S2.perm (show _ = pmap hm (hblk L) ((delA L id).length + 1) n * (pts y.b (hnO { y with refs := 0 }) * (pts y.xb (thO fb y.t) * (pts tb (tbO fb pb hm) * (X * R)))) by show pts y.b (hnO { y with refs := 0 }) * _ = _; ac_rfl)) id hid (by unfold hblk; rw [hy]; rfl) 0
  obtain ⟨x0, x1⟩ := hn_cells (x := { y with refs := 0 }) (S3.perm (show _ = pts y.b (hnO { y with refs := 0 }) * (pmap hm (delP (hblk L) id) (delA L id).length n * (pts y.xb (thO fb y.t) * (pts tb (tbO fb pb hm) * (X * R)))) by ac_rfl))
  have S4 := S3.perm (show _ = pts y.b (hnO { y with refs := 0 }) * (pts y.xb (thO fb y.t) * (tabHp tb fb pb hm (delA L id) n * R)) by unfold tabHp; rw [hblk_del hnd, e3]; ac_rfl)
  have HGo := Lib.hid (HG w2 S4.right)
  have R4 := Lib.hid (Below.trans (Ran.set (Below.refl 0 w) ⟨y.b, 0, none⟩ (.int .i64 0)) R3)
  have hmt := meth_writer_gone y.xb
  dsimp only at q1 x1
  rw [hT] at d1 q1 x1
  clear h S1 S2 S3 S4 HG hT e1 e3 hlen R3
  go_enter Tryz.func27, Tryz.ntmps27
  go_wp2_with fail
  refine HGt.out.mono ?_
  rintro e w1 ⟨rfl, rfl⟩
  go_wp2_with fail
  refine HGo.out.mono ?_
  rintro e w3 ⟨⟨rfl, S5⟩, R5⟩
  have R5 := Lib.hid (Below.trans R4.out R5)
  have S5 := Lib.hid S5
  clear HGo R4
  go_wp2_with fail
  go_ret
  exact ⟨⟨rfl, S5.out⟩, R5.out⟩
-- }KINDS
set_option maxRecDepth 100000 in
set_option maxHeartbeats 4000000 in
theorem fgone_calls (xb fb mb : Nat) (F : Fs) (k : Int) (a : Nat) (m : Md) (x : Nd) (hk : I64 k) (hs : FsOk F) (hx : find F.L k = some x) (hn : 1 ≤ x.names) (w : World) (R : Hp)
    (h : Sat w (fsHp fb mb F * (pts xb (flO fb k a m) * R))) :
    Calls Tryz.prog 205 #[pp xb] w fun e w' => (e = .returned (.tuple #[]) ∧ Sat w' (fsHp fb mb (dropP F k) * (pts xb (flO fb k a m) * R))) ∧ Ran w w' := by
  have HD := Lib.hid (Drop_calls fb mb F k x hk hs hx hn w.drew _ h.drew)
  obtain ⟨d0', d1', -⟩ := fl_cells h.right.drew
  clear h
  go_enter Tryz.func205, Tryz.ntmps205
  go_wp2_with fail
  refine region_plan (S := (fun w' => w'.cell? ⟨xb, 0, none⟩ = some (pp fb) ∧ w'.cell? ⟨xb, 1, none⟩ = some (.int .i64 k))) [(0, true), (1, true), (2, true), (3, true), (4, true), (5, true), (6, true), (7, true), (8, false)] (by kernel_rfl) (by kernel_rfl) (by kernel_rfl) ?_ ?_
  · ((try dsimp only); (first | done | (first | exact ⟨d0', d1'⟩ | exact K5)))
  simp only [planOps, List.map_cons, List.map_nil, List.getElem?_toArray, List.getElem?_cons_zero, List.getElem?_cons_succ]
  repeat (first
    | ((refine plan_yes (v := ?_) (by rfl) ?_ ?_); rotate_left; (focus (intro w hSw; (try dsimp only at hSw); go_simp; try (with_reducible rfl))); (try simp only [Act.put, List.setIfInBounds_toArray, List.set_cons_zero, List.set_cons_succ]))
    | ((refine plan_no (by rfl) ?_); (try simp only [Act.put, List.setIfInBounds_toArray, List.set_cons_zero, List.set_cons_succ]))
    | ((refine plan_step (fun K hK => ?_)); (first | (go_simp; ((go_at_call 209; refine HD.out.mono ?_; rintro e w5 ⟨⟨rfl, S5⟩, R5⟩; have K5 := (And.intro (fl_cells S5.right).1 (fl_cells S5.right).2.1))); (try go_wp2_with fail)) | go_simp); (refine hK.out _ _ ?_ (fun hHeld => ?_)); (focus ((try dsimp only); (first | done | (first | exact ⟨d0', d1'⟩ | exact K5)))); clear hK K; (try simp only [Act.put, List.setIfInBounds_toArray, List.set_cons_zero, List.set_cons_succ])))
  refine plan_done ?_
  have S5 := Lib.hid S5
  have R5 := Lib.hid (Below.trans (Ran.drewN (Below.refl 0 w) 1) R5)
  go_wp2_with fail
  go_end0
  exact ⟨⟨rfl, S5.out⟩, R5.out⟩
end Go.Proofs.YtljlpkeddbfpaaaGreatDoor.Hd

namespace Go.Proofs.YtljlpkeddbfpaaaGreatDoor.Hd
open Go.RowKit Go.Maps Go.Proofs.YtljlpkeddbfpaaaGreatDoor Go.Proofs.YtljlpkeddbfpaaaGreatDoor.Hp
set_option linter.unusedVariables false
attribute [local go_sem] Oper.semAt_some

set_option maxRecDepth 100000 in
set_option maxHeartbeats 8000000 in
theorem TStat_file (tb fb pb hm n : Nat) (L : HL) (id k : Int) (y : Hn) (a : Nat) (m : Md) (hid : I64 id) (hy : findA L id = some y) (hyt : y.t = .file k a m) (w : World) (R : Hp)
    (h : Sat w (tabHp tb fb pb hm L n * R)) :
    Calls Tryz.prog 24 #[pp tb, .int .i64 id] w fun e w' => e = .returned (.tuple #[inV 1 y.refs a k m, .int .i64 0]) ∧ Below w.heap.size w w' := by
  have S0 := (h.alloc (inO 0 0 0 0 ⟨false, false, false⟩)).perm (show _ = tabHp tb fb pb hm L n * (pts w.heap.size (inO 0 0 0 0 ⟨false, false, false⟩) * R) by ac_rfl)
  have hB0 := (Below.refl w.heap.size w).alloc (Nat.le_refl _) (inO 0 0 0 0 ⟨false, false, false⟩)
  have HGt := get_calls tb fb pb hm n L id hid _ _ S0
  unfold getE at HGt
  rw [show hblk L id = some y.b by unfold hblk; rw [hy]; rfl, hy] at HGt
  unfold pv at HGt
  have HGt := Lib.hid HGt
  obtain ⟨X, S1, back⟩ := tab_node S0 hy
  obtain ⟨d0, d1⟩ := hn_cells S1
  rw [hyt] at S1 d1
  unfold thT at d1
  unfold thO at S1
  have hmi := meth_file_info y.xb
  have S2 := S1.perm (show _ = pts y.xb (flO fb k a m) * (X * (pts w.heap.size (inO 0 0 0 0 ⟨false, false, false⟩) * R) * pts y.b (hnO y)) by ac_rfl)
  have HIn := Lib.hid (finfo_calls y.xb fb k a m _ _ S2)
  have S2 := Lib.hid S2
  have hB0 := Lib.hid hB0
  obtain ⟨mr, mw, mm⟩ := m
  clear h S0 S1 back hy
  go_enter Tryz.func24, Tryz.ntmps24
  go_wp2_with fail
  refine HGt.out.mono ?_
  rintro e w1 ⟨rfl, rfl⟩
  go_wp2_with fail
  refine HIn.out.mono ?_
  rintro e w1 ⟨rfl, hB⟩
  have S3 := (S2.out.below hB).alloc (inO 1 0 a k ⟨mr, mw, mm⟩)
  have S4 := (S2.out.below hB).alloc (inO 1 y.refs a k ⟨mr, mw, mm⟩)
  obtain ⟨p0, p1⟩ := hn_cells (S3.perm (show _ = pts y.b (hnO y) * (pts w1.heap.size (inO 1 0 a k ⟨mr, mw, mm⟩) * (pts y.xb (flO fb k a ⟨mr, mw, mm⟩) * (X * (pts w.heap.size (inO 0 0 0 0 ⟨false, false, false⟩) * R)))) by ac_rfl))
  obtain ⟨u0, u1, u2, u3, u4, u5, u6⟩ := in_cells S4
  have S5 := S4.perm (show _ = pts w.heap.size (inO 0 0 0 0 ⟨false, false, false⟩) * (pts w1.heap.size (inO 1 y.refs a k ⟨mr, mw, mm⟩) * (pts y.b (hnO y) * (pts y.xb (flO fb k a ⟨mr, mw, mm⟩) * (X * R)))) by ac_rfl)
  obtain ⟨z0, z1, z2, z3, z4, z5, z6⟩ := in_cells S5
  have f0 : ∀ i, (w1.alloc (inO 1 y.refs a k ⟨mr, mw, mm⟩)).frozen? ⟨w.heap.size, i, none⟩ = false := fun i => free_at S5.get i
  have S6 := ((((((S5.set (i := 0) (.int .i64 1)).set (i := 1) (.int .i64 y.refs)).set (i := 2) (.int .i64 a)).set (i := 3) (.int .i64 k)).set (i := 4) (.bool mr)).set (i := 5) (.bool mw)).set (i := 6) (.bool mm)
  obtain ⟨r0, r1, r2, r3, r4, r5, r6⟩ := in_cells (k := 1) (rf := y.refs) (a := a) (n := k) (m := ⟨mr, mw, mm⟩) S6
  have hle : w.heap.size ≤ w1.heap.size := Nat.le_trans hB0.out.size hB.size
  have HB := Lib.hid (((((((((hB0.out.trans (hB.mono hB0.out.size)).alloc hle (inO 1 y.refs a k ⟨mr, mw, mm⟩)).setCell (Nat.le_refl _) (p := ⟨w.heap.size, 0, none⟩) (.int .i64 1)).setCell (Nat.le_refl _) (p := ⟨w.heap.size, 1, none⟩) (.int .i64 y.refs)).setCell (Nat.le_refl _) (p := ⟨w.heap.size, 2, none⟩) (.int .i64 a)).setCell (Nat.le_refl _) (p := ⟨w.heap.size, 3, none⟩) (.int .i64 k)).setCell (Nat.le_refl _) (p := ⟨w.heap.size, 4, none⟩) (.bool mr)).setCell (Nat.le_refl _) (p := ⟨w.heap.size, 5, none⟩) (.bool mw)).setCell (Nat.le_refl _) (p := ⟨w.heap.size, 6, none⟩) (.bool mm))
  dsimp only at z4 z5 z6 u4 u5 u6 r4 r5 r6
  clear hB HIn HGt d0 d1 S3 S4 S5 S6 S2 hB0 hle
  go_wp2_with fail
  refine bodyPost_ret (v := .tuple #[inV 1 y.refs a k ⟨mr, mw, mm⟩, .int .i64 0]) (by simp [results, Tryz.results24, go_sem, r0, r1, r2, r3, r4, r5, r6]) rfl ⟨rfl, HB.out⟩
end Go.Proofs.YtljlpkeddbfpaaaGreatDoor.Hd

namespace Go.Proofs.YtljlpkeddbfpaaaGreatDoor.Hd
open Go.RowKit Go.Maps Go.Proofs.YtljlpkeddbfpaaaGreatDoor Go.Proofs.YtljlpkeddbfpaaaGreatDoor.Hp
set_option linter.unusedVariables false
attribute [local go_sem] Oper.semAt_some

abbrev ebO (k : Int) : Obj := .cells #[.int .i64 k] 3 (0, 0)
abbrev rdO (bb eb : Nat) : Obj := .cells #[pp bb, pp eb] 113 (0, 0)
abbrev wrO (bb eb : Nat) : Obj := .cells #[pp bb, pp eb] 115 (0, 0)
set_option maxRecDepth 100000 in
set_option maxHeartbeats 8000000 in
theorem Pipe_calls (tb fb bp hm n held used opn tot : Nat) (L : HL) (g1 g2 : Nat) (hg1 : Free L g1) (hg2 : ∀ x, Free (((g1 : Int), x) :: L) g2) (hn : n ≤ 900000) (ho : opn ≤ 1000000) (w : World) (R : Hp)
    (h : Sat w (tabHp tb fb bp hm L n * (Spill.poolX bp 40 3 4 held used opn tot * R))) :
    Calls Tryz.prog 16 #[pp tb] w fun e w' => (e = .returned (.tuple #[.int .i64 (g1 : Int), .int .i64 (g2 : Int), .int .i64 0]) ∧
      ∃ bb eb h1 x1 h2 x2, Sat w' (tabHp tb fb bp hm (((g2 : Int), ⟨h2, 1, x2, .writer bb eb⟩) :: ((g1 : Int), ⟨h1, 1, x1, .reader bb eb⟩) :: L) (n + 2) * (Spill.poolX bp 40 3 4 held used (opn + 1) tot * (Spill.bufX bb bp 3 4 0 [] * (pts eb (ebO 2) * R))))) ∧ Ran w w' := by
  have S1 := h.alloc (ebO 2)
  obtain ⟨t0, t1, t2⟩ := tab_cells (S1.perm (show _ = tabHp tb fb bp hm L n * (pts w.heap.size (ebO 2) * (Spill.poolX bp 40 3 4 held used opn tot * R)) by ac_rfl))
  have HOp := Lib.hid (Spill.xopen bp 40 3 4 held used opn tot _ _ (by omega) (by omega) (by omega) (S1.perm (show _ = Spill.poolX bp 40 3 4 held used opn tot * (tabHp tb fb bp hm L n * (pts w.heap.size (ebO 2) * R)) by ac_rfl)))
  have R1 := Lib.hid (Ran.new (Below.refl 0 w) (ebO 2))
  clear h S1
  go_enter Tryz.func16, Tryz.ntmps16
  go_wp2_with fail
  refine HOp.out.mono ?_
  rintro e w1 ⟨bb, rfl, S2, R2⟩
  have R2 := Lib.hid (Ran.new (Below.trans R1.out R2) (rdO bb w.heap.size))
  have HA1 := Lib.hid (add_calls tb fb bp hm n L (.reader bb w.heap.size) w1.heap.size g1 hg1 (by omega) _ _ ((S2.alloc (rdO bb w.heap.size)).perm (show pts w1.heap.size (thO fb (.reader bb w.heap.size)) * _ = tabHp tb fb bp hm L n * (pts w1.heap.size (thO fb (.reader bb w.heap.size)) * (Spill.poolX bp 40 3 4 held used (opn + 1) tot * (Spill.bufX bb bp 3 4 0 [] * (pts w.heap.size (ebO 2) * R)))) by ac_rfl)))
  clear S2 HOp R1 t0 t1 t2
  go_wp2_with fail
  refine HA1.out.mono ?_
  rintro e w2 ⟨⟨rfl, h1, S3⟩, R3⟩
  have R3 := Lib.hid (Ran.new (Below.trans R2.out R3) (wrO bb w.heap.size))
  have HA2 := Lib.hid (add_calls tb fb bp hm (n + 1) _ (.writer bb w.heap.size) w2.heap.size g2 (hg2 _) (by omega) _ _ ((S3.alloc (wrO bb w.heap.size)).perm (show pts w2.heap.size (thO fb (.writer bb w.heap.size)) * _ = tabHp tb fb bp hm (((g1 : Int), ⟨h1, 1, w1.heap.size, .reader bb w.heap.size⟩) :: L) (n + 1) * (pts w2.heap.size (thO fb (.writer bb w.heap.size)) * (Spill.poolX bp 40 3 4 held used (opn + 1) tot * (Spill.bufX bb bp 3 4 0 [] * (pts w.heap.size (ebO 2) * R)))) by ac_rfl)))
  clear S3 HA1 R2
  go_wp2_with fail
  refine HA2.out.mono ?_
  rintro e w3 ⟨⟨rfl, h2, S4⟩, R4⟩
  have R4 := Lib.hid (Below.trans R3.out R4)
  have S4 := Lib.hid S4
  clear HA2 R3
  go_wp2_with fail
  refine bodyPost_ret (v := .tuple #[.int .i64 (g1 : Int), .int .i64 (g2 : Int), .int .i64 0]) (by simp [results, Tryz.results16, go_sem]) rfl ?_
  exact ⟨⟨rfl, bb, w.heap.size, h1, w1.heap.size, h2, w2.heap.size, S4.out⟩, R4.out⟩
theorem rd_cells {w : World} {b bb eb : Nat} {S : Hp} {T : TypeId} (h : Sat w (pts b (.cells #[pp bb, pp eb] T (0, 0)) * S)) : w.cell? ⟨b, 0, none⟩ = some (pp bb) ∧ w.cell? ⟨b, 1, none⟩ = some (pp eb) := by
  have hb := h.get
  refine ⟨?_, ?_⟩ <;> rw [cell_at hb] <;> rfl
end Go.Proofs.YtljlpkeddbfpaaaGreatDoor.Hd

namespace Go.Proofs.YtljlpkeddbfpaaaGreatDoor.Hd
open Go.RowKit Go.Maps Go.Proofs.YtljlpkeddbfpaaaGreatDoor Go.Proofs.YtljlpkeddbfpaaaGreatDoor.Hp
set_option linter.unusedVariables false
attribute [local go_sem] Oper.semAt_some

set_option maxRecDepth 100000 in
set_option maxHeartbeats 4000000 in
theorem rinfo_calls (xb bb eb bp frm : Nat) (data : List UInt8) (hf : frm + data.length ≤ 1000000000) (w : World) (R : Hp) (h : Sat w (pts xb (rdO bb eb) * (Spill.bufX bb bp 3 4 frm data * R))) :
    Calls Tryz.prog 217 #[pp xb] w fun e w' => e = .returned (inV 4 0 (data.length : Int) 0 ⟨true, false, false⟩) ∧ Below w.heap.size w w' := by
  have S1 := h.alloc (inO 0 0 0 0 ⟨false, false, false⟩)
  obtain ⟨d0, d1⟩ := rd_cells (S1.perm (show _ = pts xb (rdO bb eb) * (pts w.heap.size (inO 0 0 0 0 ⟨false, false, false⟩) * (Spill.bufX bb bp 3 4 frm data * R)) by ac_rfl))
  have HL := Lib.hid (Spill.xlen bb bp 3 4 frm data _ _ hf (S1.perm (show _ = Spill.bufX bb bp 3 4 frm data * (pts xb (rdO bb eb) * (pts w.heap.size (inO 0 0 0 0 ⟨false, false, false⟩) * R)) by ac_rfl)))
  have S1 := Lib.hid S1
  clear h
  go_enter Tryz.func217, Tryz.ntmps217
  go_wp2_with fail
  refine HL.out.mono ?_
  rintro e w1 ⟨rfl, nn, hw1⟩
  have S2 : Sat w1 (pts w.heap.size (inO 0 0 0 0 ⟨false, false, false⟩) * (pts xb (rdO bb eb) * (Spill.bufX bb bp 3 4 frm data * R))) := by rw [hw1]; exact S1.out.drewN nn
  have hfalse : Below w.heap.size w w1 := by rw [hw1]; exact ((Below.refl w.heap.size w).alloc (Nat.le_refl _) _).trans ⟨rfl, rfl, rfl, Nat.le_refl _, fun _ _ => rfl⟩
  obtain ⟨z0, z1, z2, z3, z4, z5, z6⟩ := in_cells S2
  have f0 : ∀ i, w1.frozen? ⟨w.heap.size, i, none⟩ = false := fun i => free_at S2.get i
  have S3 := ((((((S2.set (i := 0) (.int .i64 4)).set (i := 1) (.int .i64 0)).set (i := 2) (.int .i64 (data.length : Int))).set (i := 3) (.int .i64 0)).set (i := 4) (.bool true)).set (i := 5) (.bool false)).set (i := 6) (.bool false)
  obtain ⟨r0, r1, r2, r3, r4, r5, r6⟩ := in_cells (k := 4) (rf := 0) (a := (data.length : Int)) (n := 0) (m := ⟨true, false, false⟩) S3
  have HB := Lib.hid (((((((hfalse.setCell (Nat.le_refl _) (p := ⟨w.heap.size, 0, none⟩) (.int .i64 4)).setCell (Nat.le_refl _) (p := ⟨w.heap.size, 1, none⟩) (.int .i64 0)).setCell (Nat.le_refl _) (p := ⟨w.heap.size, 2, none⟩) (.int .i64 (data.length : Int))).setCell (Nat.le_refl _) (p := ⟨w.heap.size, 3, none⟩) (.int .i64 0)).setCell (Nat.le_refl _) (p := ⟨w.heap.size, 4, none⟩) (.bool true)).setCell (Nat.le_refl _) (p := ⟨w.heap.size, 5, none⟩) (.bool false)).setCell (Nat.le_refl _) (p := ⟨w.heap.size, 6, none⟩) (.bool false))
  dsimp only at z4 z5 z6 r4 r5 r6
  clear hw1 S1 S2 S3 hfalse HL d0 d1
  go_wp2_with fail
  exact bodyPost_ret (v := inV 4 0 (data.length : Int) 0 ⟨true, false, false⟩) (by simp [results, Tryz.results217, go_sem, r0, r1, r2, r3, r4, r5, r6]) rfl ⟨rfl, HB.out⟩
set_option maxRecDepth 100000 in
set_option maxHeartbeats 4000000 in
theorem winfo_calls (xb bb eb bp frm : Nat) (data : List UInt8) (hf : frm + data.length ≤ 1000000000) (w : World) (R : Hp) (h : Sat w (pts xb (wrO bb eb) * (Spill.bufX bb bp 3 4 frm data * R))) :
    Calls Tryz.prog 227 #[pp xb] w fun e w' => e = .returned (inV 5 0 (data.length : Int) 0 ⟨false, true, false⟩) ∧ Below w.heap.size w w' := by
  have S1 := h.alloc (inO 0 0 0 0 ⟨false, false, false⟩)
  obtain ⟨d0, d1⟩ := rd_cells (S1.perm (show _ = pts xb (wrO bb eb) * (pts w.heap.size (inO 0 0 0 0 ⟨false, false, false⟩) * (Spill.bufX bb bp 3 4 frm data * R)) by ac_rfl))
  have HL := Lib.hid (Spill.xlen bb bp 3 4 frm data _ _ hf (S1.perm (show _ = Spill.bufX bb bp 3 4 frm data * (pts xb (wrO bb eb) * (pts w.heap.size (inO 0 0 0 0 ⟨false, false, false⟩) * R)) by ac_rfl)))
  have S1 := Lib.hid S1
  clear h
  go_enter Tryz.func227, Tryz.ntmps227
  go_wp2_with fail
  refine HL.out.mono ?_
  rintro e w1 ⟨rfl, nn, hw1⟩
  have S2 : Sat w1 (pts w.heap.size (inO 0 0 0 0 ⟨false, false, false⟩) * (pts xb (wrO bb eb) * (Spill.bufX bb bp 3 4 frm data * R))) := by rw [hw1]; exact S1.out.drewN nn
  have htrue : Below w.heap.size w w1 := by rw [hw1]; exact ((Below.refl w.heap.size w).alloc (Nat.le_refl _) _).trans ⟨rfl, rfl, rfl, Nat.le_refl _, fun _ _ => rfl⟩
  obtain ⟨z0, z1, z2, z3, z4, z5, z6⟩ := in_cells S2
  have f0 : ∀ i, w1.frozen? ⟨w.heap.size, i, none⟩ = false := fun i => free_at S2.get i
  have S3 := ((((((S2.set (i := 0) (.int .i64 5)).set (i := 1) (.int .i64 0)).set (i := 2) (.int .i64 (data.length : Int))).set (i := 3) (.int .i64 0)).set (i := 4) (.bool false)).set (i := 5) (.bool true)).set (i := 6) (.bool false)
  obtain ⟨r0, r1, r2, r3, r4, r5, r6⟩ := in_cells (k := 5) (rf := 0) (a := (data.length : Int)) (n := 0) (m := ⟨false, true, false⟩) S3
  have HB := Lib.hid (((((((htrue.setCell (Nat.le_refl _) (p := ⟨w.heap.size, 0, none⟩) (.int .i64 5)).setCell (Nat.le_refl _) (p := ⟨w.heap.size, 1, none⟩) (.int .i64 0)).setCell (Nat.le_refl _) (p := ⟨w.heap.size, 2, none⟩) (.int .i64 (data.length : Int))).setCell (Nat.le_refl _) (p := ⟨w.heap.size, 3, none⟩) (.int .i64 0)).setCell (Nat.le_refl _) (p := ⟨w.heap.size, 4, none⟩) (.bool false)).setCell (Nat.le_refl _) (p := ⟨w.heap.size, 5, none⟩) (.bool true)).setCell (Nat.le_refl _) (p := ⟨w.heap.size, 6, none⟩) (.bool false))
  dsimp only at z4 z5 z6 r4 r5 r6
  clear hw1 S1 S2 S3 htrue HL d0 d1
  go_wp2_with fail
  exact bodyPost_ret (v := inV 5 0 (data.length : Int) 0 ⟨false, true, false⟩) (by simp [results, Tryz.results227, go_sem, r0, r1, r2, r3, r4, r5, r6]) rfl ⟨rfl, HB.out⟩
theorem updA_same {α : Type} : ∀ (L : List (Int × α)) (k : Int) (x : α), findA L k = some x → updA L k x = L
  | [], _, _, h => by cases h
  | p :: L, k, x, h => by
    unfold findA at h
    unfold updA
    by_cases e : p.1 = k
    · rw [if_pos e] at h ⊢
      injection h with h
      rw [← h, ← e]
    · rw [if_neg e] at h ⊢
      rw [updA_same L k x h]
set_option maxRecDepth 100000 in
set_option maxHeartbeats 4000000 in
theorem wwrite_calls (xb bb eb bp held U opn tot frm : Nat) (data dl : List UInt8) (hh : held + dl.length ≤ 40) (hf : frm + data.length + dl.length ≤ 1000000000) (hU : U ≤ 1000000000) (htot : tot ≤ 1000000000) (w : World) (R : Hp)
    (h : Sat w (pts xb (wrO bb eb) * (Spill.poolX bp 40 3 4 held (U + (Spill.cl 3 4 (frm + data.length) - Spill.gn 3 4 frm)) opn tot * (Spill.bufX bb bp 3 4 frm data * R)))) :
    Calls Tryz.prog 229 #[pp xb, .string ⟨dl.toArray⟩] w fun e w' => (e = .returned (.int .i64 0) ∧ Sat w' (pts xb (wrO bb eb) * (Spill.poolX bp 40 3 4 (held + dl.length) (U + (Spill.cl 3 4 (frm + (data ++ dl).length) - Spill.gn 3 4 frm)) opn (tot + dl.length) * (Spill.bufX bb bp 3 4 frm (data ++ dl) * R)))) ∧ Ran w w' := by
  obtain ⟨d0, d1⟩ := rd_cells h
  have HA := Lib.hid (Spill.append_loop bp bb 40 3 4 held U opn tot frm data dl _ w (by omega) (by omega) (by omega) (by omega) (by omega) (by omega) hU htot (h.perm (show _ = Spill.poolX bp 40 3 4 held (U + (Spill.cl 3 4 (frm + data.length) - Spill.gn 3 4 frm)) opn tot * (Spill.bufX bb bp 3 4 frm data * (pts xb (wrO bb eb) * R)) by ac_rfl)))
  clear h
  go_enter Tryz.func229, Tryz.ntmps229
  go_wp2_with fail
  refine HA.out.mono ?_
  rintro e w1 ⟨rfl, S1, R1⟩
  have S1 := Lib.hid S1
  have R1 := Lib.hid R1
  clear HA
  go_wp2_with fail
  go_ret
  exact ⟨⟨rfl, S1.out.perm (by ac_rfl)⟩, R1.out⟩
set_option maxRecDepth 100000 in
set_option maxHeartbeats 4000000 in
theorem rread_calls (xb bb eb bp held U opn tot frm q : Nat) (data : List UInt8) (hh : held ≤ 1000000000) (hd : data.length ≤ held) (hf : frm + data.length ≤ 1000000000) (hU : U ≤ 1000000000) (htot : tot ≤ 1000000000) (hq : q ≤ 9223372036854775807) (w : World) (R : Hp)
    (h : Sat w (pts xb (rdO bb eb) * (Spill.poolX bp 40 3 4 held (U + (Spill.cl 3 4 (frm + data.length) - Spill.gn 3 4 frm)) opn tot * (Spill.bufX bb bp 3 4 frm data * R)))) :
    Calls Tryz.prog 218 #[pp xb, .int .i64 q] w fun e w' => (e = .returned (.tuple #[.string ⟨(data.take (min q data.length)).toArray⟩, .int .i64 0]) ∧ Sat w' (pts xb (rdO bb eb) * (Spill.poolX bp 40 3 4 (held - min q data.length) (U + (Spill.cl 3 4 (frm + data.length) - Spill.gn 3 4 (frm + min q data.length))) opn tot * (Spill.bufX bb bp 3 4 (frm + min q data.length) (data.drop (min q data.length)) * R)))) ∧ Ran w w' := by
  obtain ⟨d0, d1⟩ := rd_cells h
  have HA := Lib.hid (Spill.drain_calls bp bb 40 3 4 held U opn tot frm (frm + data.length) q (min q data.length) data _ w (by omega) (by omega) (by omega) hh hd hf hU htot (by omega) rfl rfl (h.perm (show _ = Spill.poolX bp 40 3 4 held (U + (Spill.cl 3 4 (frm + data.length) - Spill.gn 3 4 frm)) opn tot * (Spill.bufX bb bp 3 4 frm data * (pts xb (rdO bb eb) * R)) by ac_rfl)))
  clear h
  go_enter Tryz.func218, Tryz.ntmps218
  go_wp2_with fail
  refine HA.out.mono ?_
  rintro e w1 ⟨rfl, S1, R1⟩
  have S1 := Lib.hid S1
  have R1 := Lib.hid R1
  clear HA
  go_wp2_with fail
  go_ret2
  exact ⟨⟨rfl, S1.out.perm (by ac_rfl)⟩, R1.out⟩
set_option maxRecDepth 100000 in
set_option maxHeartbeats 4000000 in
theorem TWrite_writer (tb fb bp hm n held U opn tot frm : Nat) (L : HL) (id : Int) (y : Hn) (bb eb : Nat) (data : List UInt8) (dl : List UInt8) (hid : I64 id) (hy : findA L id = some y) (hyt : y.t = .writer bb eb) (hh : held + dl.length ≤ 40) (hf : frm + data.length + 100000 ≤ 1000000000) (hU : U ≤ 1000000000) (htot : tot ≤ 1000000000) (w : World) (R : Hp)
    (h : Sat w (tabHp tb fb bp hm L n * (Spill.poolX bp 40 3 4 held (U + (Spill.cl 3 4 (frm + data.length) - Spill.gn 3 4 frm)) opn tot * (Spill.bufX bb bp 3 4 frm data * R)))) :
    Calls Tryz.prog 11 #[pp tb, .int .i64 id, .string ⟨dl.toArray⟩] w fun e w' => (e = .returned (.int .i64 0) ∧ Sat w' (tabHp tb fb bp hm L n * (Spill.poolX bp 40 3 4 (held + dl.length) (U + (Spill.cl 3 4 (frm + (data ++ dl).length) - Spill.gn 3 4 frm)) opn (tot + dl.length) * (Spill.bufX bb bp 3 4 frm (data ++ dl) * R)))) ∧ Ran w w' := by
  have HGt := get_calls tb fb bp hm n L id hid w _ h
  unfold getE at HGt
  rw [show hblk L id = some y.b by unfold hblk; rw [hy]; rfl, hy] at HGt
  unfold pv at HGt
  have HGt := Lib.hid HGt
  obtain ⟨X, S1, back⟩ := tab_node h hy
  obtain ⟨d0, d1⟩ := hn_cells S1
  have hup : updA L id y = L := updA_same L id y hy
  rw [hyt] at S1 d1
  unfold thT at d1
  unfold thO at S1
  have hmi := meth_writer_info y.xb
  have hmw2 := meth_writer_write y.xb
  have S2 := S1.perm (show _ = pts y.xb (wrO bb eb) * (Spill.bufX bb bp 3 4 frm data * (Spill.poolX bp 40 3 4 held (U + (Spill.cl 3 4 (frm + data.length) - Spill.gn 3 4 frm)) opn tot * (X * R * pts y.b (hnO y)))) by ac_rfl)
  have HIn := Lib.hid (winfo_calls y.xb bb eb bp frm data (by omega) w _ S2)
  have S2 := Lib.hid S2
  have hf1 := field_mode 5 0 (data.length : Int) 0 false true false
  have hf2 := field_w false true false
  have Back := Lib.hid back
  have Hyt := Lib.hid hyt
  skip
  clear h S1 back hyt hy
  go_enter Tryz.func11, Tryz.ntmps11
  go_wp2_with fail
  refine HGt.out.mono ?_
  rintro e w1 ⟨rfl, rfl⟩
  go_wp2_with fail
  refine HIn.out.mono ?_
  rintro e w1 ⟨rfl, hB⟩
  have S3 := S2.out.below hB
  have R3 := Lib.hid (below_ran hB)
  obtain ⟨e0, e1⟩ := hn_cells (S3.perm (show _ = pts y.b (hnO y) * (pts y.xb (wrO bb eb) * (Spill.bufX bb bp 3 4 frm data * (Spill.poolX bp 40 3 4 held (U + (Spill.cl 3 4 (frm + data.length) - Spill.gn 3 4 frm)) opn tot * (X * R)))) by ac_rfl))
  rw [Hyt.out] at e1
  unfold thT at e1
  have HW := Lib.hid (wwrite_calls y.xb bb eb bp held U opn tot frm data dl hh (by omega) hU htot w1 (X * R * pts y.b (hnO y)) (S3.perm (by ac_rfl)))
  clear hB HIn HGt d0 d1 S3 S2
  go_wp2_with fail
  refine HW.out.mono ?_
  rintro e w2 ⟨⟨rfl, S4⟩, R4⟩
  have R4 := Lib.hid (Below.trans R3.out R4)
  have S5 := Lib.hid (Back.out w2 y (Spill.poolX bp 40 3 4 (held + dl.length) (U + (Spill.cl 3 4 (frm + (data ++ dl).length) - Spill.gn 3 4 frm)) opn (tot + dl.length) * (Spill.bufX bb bp 3 4 frm (data ++ dl) * R)) rfl (S4.perm (show _ = pts y.b (hnO y) * (pts y.xb (thO fb y.t) * (X * (Spill.poolX bp 40 3 4 (held + dl.length) (U + (Spill.cl 3 4 (frm + (data ++ dl).length) - Spill.gn 3 4 frm)) opn (tot + dl.length) * (Spill.bufX bb bp 3 4 frm (data ++ dl) * R)))) by rw [Hyt.out]; unfold thO; ac_rfl)))
  rw [hup] at S5
  clear S4 HW
  go_wp2_with fail
  go_ret
  exact ⟨⟨rfl, S5.out⟩, R4.out⟩
set_option maxRecDepth 100000 in
set_option maxHeartbeats 4000000 in
theorem TRead_reader (tb fb bp hm n held U opn tot frm : Nat) (L : HL) (id : Int) (y : Hn) (bb eb : Nat) (data : List UInt8) (q : Nat) (hid : I64 id) (hy : findA L id = some y) (hyt : y.t = .reader bb eb) (hh : held ≤ 1000000000) (hdl : data.length ≤ held) (hq : q ≤ 9223372036854775807) (hf : frm + data.length + 100000 ≤ 1000000000) (hU : U ≤ 1000000000) (htot : tot ≤ 1000000000) (w : World) (R : Hp)
    (h : Sat w (tabHp tb fb bp hm L n * (Spill.poolX bp 40 3 4 held (U + (Spill.cl 3 4 (frm + data.length) - Spill.gn 3 4 frm)) opn tot * (Spill.bufX bb bp 3 4 frm data * R)))) :
    Calls Tryz.prog 19 #[pp tb, .int .i64 id, .int .i64 q] w fun e w' => (e = .returned (.tuple #[.string ⟨(data.take (min q data.length)).toArray⟩, .int .i64 0]) ∧ Sat w' (tabHp tb fb bp hm L n * (Spill.poolX bp 40 3 4 (held - min q data.length) (U + (Spill.cl 3 4 (frm + data.length) - Spill.gn 3 4 (frm + min q data.length))) opn tot * (Spill.bufX bb bp 3 4 (frm + min q data.length) (data.drop (min q data.length)) * R)))) ∧ Ran w w' := by
  have HGt := get_calls tb fb bp hm n L id hid w _ h
  unfold getE at HGt
  rw [show hblk L id = some y.b by unfold hblk; rw [hy]; rfl, hy] at HGt
  unfold pv at HGt
  have HGt := Lib.hid HGt
  obtain ⟨X, S1, back⟩ := tab_node h hy
  obtain ⟨d0, d1⟩ := hn_cells S1
  have hup : updA L id y = L := updA_same L id y hy
  rw [hyt] at S1 d1
  unfold thT at d1
  unfold thO at S1
  have hmi := meth_reader_info y.xb
  have hmw2 := meth_reader_read y.xb
  have S2 := S1.perm (show _ = pts y.xb (rdO bb eb) * (Spill.bufX bb bp 3 4 frm data * (Spill.poolX bp 40 3 4 held (U + (Spill.cl 3 4 (frm + data.length) - Spill.gn 3 4 frm)) opn tot * (X * R * pts y.b (hnO y)))) by ac_rfl)
  have HIn := Lib.hid (rinfo_calls y.xb bb eb bp frm data (by omega) w _ S2)
  have S2 := Lib.hid S2
  have hf1 := field_mode 4 0 (data.length : Int) 0 true false false
  have hf2 := field_r true false false
  have Back := Lib.hid back
  have Hyt := Lib.hid hyt
  have hq0 : (0 : Int) ≤ (q : Int) := by omega
  clear h S1 back hyt hy
  go_enter Tryz.func19, Tryz.ntmps19
  go_wp2_with fail
  refine HGt.out.mono ?_
  rintro e w1 ⟨rfl, rfl⟩
  go_wp2_with fail
  refine HIn.out.mono ?_
  rintro e w1 ⟨rfl, hB⟩
  have S3 := S2.out.below hB
  have R3 := Lib.hid (below_ran hB)
  obtain ⟨e0, e1⟩ := hn_cells (S3.perm (show _ = pts y.b (hnO y) * (pts y.xb (rdO bb eb) * (Spill.bufX bb bp 3 4 frm data * (Spill.poolX bp 40 3 4 held (U + (Spill.cl 3 4 (frm + data.length) - Spill.gn 3 4 frm)) opn tot * (X * R)))) by ac_rfl))
  rw [Hyt.out] at e1
  unfold thT at e1
  have HW := Lib.hid (rread_calls y.xb bb eb bp held U opn tot frm q data hh hdl (by omega) hU htot hq w1 (X * R * pts y.b (hnO y)) (S3.perm (by ac_rfl)))
  clear hB HIn HGt d0 d1 S3 S2
  go_wp2_with fail
  refine HW.out.mono ?_
  rintro e w2 ⟨⟨rfl, S4⟩, R4⟩
  have R4 := Lib.hid (Below.trans R3.out R4)
  have S5 := Lib.hid (Back.out w2 y (Spill.poolX bp 40 3 4 (held - min q data.length) (U + (Spill.cl 3 4 (frm + data.length) - Spill.gn 3 4 (frm + min q data.length))) opn tot * (Spill.bufX bb bp 3 4 (frm + min q data.length) (data.drop (min q data.length)) * R)) rfl (S4.perm (show _ = pts y.b (hnO y) * (pts y.xb (thO fb y.t) * (X * (Spill.poolX bp 40 3 4 (held - min q data.length) (U + (Spill.cl 3 4 (frm + data.length) - Spill.gn 3 4 (frm + min q data.length))) opn tot * (Spill.bufX bb bp 3 4 (frm + min q data.length) (data.drop (min q data.length)) * R)))) by rw [Hyt.out]; unfold thO; ac_rfl)))
  rw [hup] at S5
  clear S4 HW
  go_wp2_with fail
  go_ret2
  exact ⟨⟨rfl, S5.out⟩, R4.out⟩
end Go.Proofs.YtljlpkeddbfpaaaGreatDoor.Hd

