/- HandlesPlays, part 7 of 29: the texts StN, joined by a program. -/
import Derived.Test.YtlmjidandjemjaaGreatDoorSp3
import Derived.Test.YtlmjidandjemjaaGreatDoorSp1
namespace Go.Proofs.YtlmjidandjemjaaGreatDoor.Undo.NM
open Go.RowKit Go.Maps Go.Proofs.YtlmjidandjemjaaGreatDoor Go.Proofs.YtlmjidandjemjaaGreatDoor.Hp Go.Proofs.YtlmjidandjemjaaGreatDoor.Undo
set_option linter.unusedVariables false
attribute [local go_sem] Oper.semAt_some

structure T where
  kind : Int
  name : ByteArray
def zt : T := ⟨0, ⟨#[]⟩⟩
abbrev enc (x : T) : Value := (.agg #[.int .i64 (x).kind, .bool false, .string (x).name, .bool false, .slice none 0 0, .slice none 0 0, .slice none 0 0, .slice none 0 0, .slice none 0 0])
def mapHe (b n : Nat) (M : ByteArray → Option T) : Hp := Undo.mapHp b n (mapM enc M)
theorem zeroV (w : World) : (zeroValue 96).run Tryz.prog w = .ok (enc zt) w := by kernel_rfl
theorem underM : Tryz.prog.underlying 139 = some (.map 9 96) := Tryz.underlying139
theorem run_put {w : World} {b n : Nat} {M : ByteArray → Option T} {S : Hp} (h : Sat w (mapHe b n M * S)) (hn : n < maxLen) (s : ByteArray) (hs : s.size ≤ maxLen) (c : T) :
    ∃ w', (Instr.mapUpdate 139 (.map (some b)) (.string s) (.agg #[.int .i64 (c).kind, .bool false, .string (c).name, .bool false, .slice none 0 0, .slice none 0 0, .slice none 0 0, .slice none 0 0, .slice none 0 0])).run Tryz.prog w = .ok () w' ∧ Sat w' (mapHe b (n + 1) (putM M s c) * S) ∧ Ran w w' := by
  unfold mapHe at h ⊢
  rw [mapM_put]
  exact run_putV _ _ underM h hn s hs (enc c)
theorem run_del {w : World} {b n : Nat} {M : ByteArray → Option T} {S : Hp} (h : Sat w (mapHe b n M * S)) (s : ByteArray) (hs : s.size ≤ maxLen) (ty : TypeId) :
    ∃ w', (Builtin.delete_ #[139, 9] ty #[.map (some b), .string s]).run Tryz.prog w = .ok (.tuple #[]) w' ∧ Sat w' (mapHe b n (delM M s) * S) ∧ Ran w w' := by
  unfold mapHe at h ⊢
  rw [mapM_del]
  exact run_delV _ _ underM h s hs ty
theorem run_look {w : World} {b n : Nat} {M : ByteArray → Option T} {S : Hp} (h : Sat w (mapHe b n M * S)) (s : ByteArray) (hs : s.size ≤ maxLen) :
    (Instr.lookup 139 (.map (some b)) (.string s) true).run Tryz.prog w = .ok (.tuple #[(.agg #[.int .i64 ((M s).getD zt).kind, .bool false, .string ((M s).getD zt).name, .bool false, .slice none 0 0, .slice none 0 0, .slice none 0 0, .slice none 0 0, .slice none 0 0]), .bool (M s).isSome]) w := by
  have e1 : (mapM enc M s).getD (enc zt) = enc ((M s).getD zt) := by unfold mapM; cases M s <;> rfl
  have e2 : (mapM enc M s).isSome = (M s).isSome := by unfold mapM; cases M s <;> rfl
  have h1 := run_lookV _ _ underM (enc zt) (zeroV w) h s hs
  rw [e1, e2] at h1
  exact h1
theorem map_made {w : World} {S : Hp} (h : Sat w S) : Sat (w.alloc (.map #[] 0)) (mapHe w.heap.size 0 (fun _ => none) * S) := Undo.map_made h
abbrev mapO (lb : Option Addr) (mp : Nat) : Obj := .cells #[.pointer lb, .map (some mp)] 141 (0, 0)
def WfM (M : ByteArray → Option T) : Prop := True
/-- A map of a log that has M; so often something may be laid in it: B. -/
def MapAt (mb : Nat) (lb : Option Addr) (B : Nat) (M : ByteArray → Option T) : Hp :=
  ex fun mp : Nat => ex fun n : Nat => fact (n ≤ B ∧ WfM M) * (pts mb (mapO lb mp) * mapHe mp n M)
theorem mapAt_out {w : World} {mb : Nat} {lb : Option Addr} {B : Nat} {M : ByteArray → Option T} {S : Hp} (h : Sat w (MapAt mb lb B M * S)) :
    ∃ mp n, n ≤ B ∧ WfM M ∧ Sat w (pts mb (mapO lb mp) * (mapHe mp n M * S)) := by
  unfold MapAt at h
  obtain ⟨mp, h⟩ := h.ex_out
  obtain ⟨n, h⟩ := h.ex_out
  rw [sep_assoc] at h
  obtain ⟨⟨h1, h2⟩, h⟩ := h.fact_out
  exact ⟨mp, n, h1, h2, h.perm (by ac_rfl)⟩
theorem mapAt_in {w : World} {mb : Nat} {lb : Option Addr} {B : Nat} {M : ByteArray → Option T} {S : Hp} {mp n : Nat} (h : Sat w (pts mb (mapO lb mp) * (mapHe mp n M * S))) (h1 : n ≤ B) (h2 : WfM M) : Sat w (MapAt mb lb B M * S) := by
  unfold MapAt
  refine Sat.ex_in mp (Sat.ex_in n ?_)
  rw [sep_assoc]
  exact (h.perm (by ac_rfl)).fact_in ⟨h1, h2⟩
theorem mapAt_more {w : World} {mb : Nat} {lb : Option Addr} {B B' : Nat} {M : ByteArray → Option T} {S : Hp} (h : Sat w (MapAt mb lb B M * S)) (hB : B ≤ B') : Sat w (MapAt mb lb B' M * S) := by
  obtain ⟨mp, n, h1, h2, h⟩ := mapAt_out h
  exact mapAt_in h (Nat.le_trans h1 hB) h2
theorem wfM_put {M : ByteArray → Option T} (h : WfM M) {k : ByteArray} {v : T} (hv : True) : WfM (putM M k v) := trivial
theorem wfM_del {M : ByteArray → Option T} (h : WfM M) {k : ByteArray} : WfM (delM M k) := trivial
abbrev mO (mb : Nat) : Obj := .cells #[.pointer (some ⟨mb, 0, none⟩)] 75 (0, 0)
abbrev isO (o : Option T) : Obj := .cells #[.bool o.isSome] 4 (0, 0)
abbrev wasO (o : Option T) : Obj := .cells #[.int .i64 (o.getD zt).kind, .bool false, .string (o.getD zt).name, .bool false, .slice none 0 0, .slice none 0 0, .slice none 0 0, .slice none 0 0, .slice none 0 0] 96 (0, 0)
theorem was_cells {w : World} {b : Nat} {o : Option T} {S : Hp} (h : Sat w (pts b (wasO o) * S)) : w.cell? ⟨b, 0, none⟩ = some (.int .i64 (o.getD zt).kind) ∧ w.cell? ⟨b, 1, none⟩ = some (.bool false) ∧ w.cell? ⟨b, 2, none⟩ = some (.string (o.getD zt).name) ∧ w.cell? ⟨b, 3, none⟩ = some (.bool false) ∧ w.cell? ⟨b, 4, none⟩ = some (.slice none 0 0) ∧ w.cell? ⟨b, 5, none⟩ = some (.slice none 0 0) ∧ w.cell? ⟨b, 6, none⟩ = some (.slice none 0 0) ∧ w.cell? ⟨b, 7, none⟩ = some (.slice none 0 0) ∧ w.cell? ⟨b, 8, none⟩ = some (.slice none 0 0) :=
  ⟨by rw [cell_at h.get]; rfl, by rw [cell_at h.get]; rfl, by rw [cell_at h.get]; rfl, by rw [cell_at h.get]; rfl, by rw [cell_at h.get]; rfl, by rw [cell_at h.get]; rfl, by rw [cell_at h.get]; rfl, by rw [cell_at h.get]; rfl, by rw [cell_at h.get]; rfl⟩
/-- What a map's note holds. -/
def noteB (isb wasb mbx kbx mb : Nat) (k : ByteArray) (o : Option T) : Hp :=
  pts isb (isO o) * (pts wasb (wasO o) * (pts mbx (mO mb) * pts kbx (kO k)))
def noteC (isb wasb mbx kbx : Nat) : Array Value := #[.pointer (some ⟨isb, 0, none⟩), .pointer (some ⟨wasb, 0, none⟩), .pointer (some ⟨mbx, 0, none⟩), .pointer (some ⟨kbx, 0, none⟩)]
theorem map_cells {w : World} {mb mp : Nat} {lb : Option Addr} {S : Hp} (h : Sat w (pts mb (mapO lb mp) * S)) : w.cell? ⟨mb, 0, none⟩ = some (.pointer lb) ∧ w.cell? ⟨mb, 1, none⟩ = some (.map (some mp)) :=
  ⟨by rw [cell_at h.get]; rfl, by rw [cell_at h.get]; rfl⟩
theorem note_cells {w : World} {isb wasb mbx kbx mb mp : Nat} {lb : Option Addr} {k : ByteArray} {o : Option T} {S : Hp} (h : Sat w (noteB isb wasb mbx kbx mb k o * (pts mb (mapO lb mp) * S))) :
    w.cell? ⟨mb, 1, none⟩ = some (.map (some mp)) ∧ w.cell? ⟨isb, 0, none⟩ = some (.bool o.isSome) ∧ (w.cell? ⟨wasb, 0, none⟩ = some (.int .i64 (o.getD zt).kind) ∧ w.cell? ⟨wasb, 1, none⟩ = some (.bool false) ∧ w.cell? ⟨wasb, 2, none⟩ = some (.string (o.getD zt).name) ∧ w.cell? ⟨wasb, 3, none⟩ = some (.bool false) ∧ w.cell? ⟨wasb, 4, none⟩ = some (.slice none 0 0) ∧ w.cell? ⟨wasb, 5, none⟩ = some (.slice none 0 0) ∧ w.cell? ⟨wasb, 6, none⟩ = some (.slice none 0 0) ∧ w.cell? ⟨wasb, 7, none⟩ = some (.slice none 0 0) ∧ w.cell? ⟨wasb, 8, none⟩ = some (.slice none 0 0)) ∧ w.cell? ⟨mbx, 0, none⟩ = some (.pointer (some ⟨mb, 0, none⟩)) ∧ w.cell? ⟨kbx, 0, none⟩ = some (.string k) := by
  unfold noteB at h
  refine ⟨(map_cells (h.perm (show _ = pts mb (mapO lb mp) * (pts isb (isO o) * (pts wasb (wasO o) * (pts mbx (mO mb) * (pts kbx (kO k) * S)))) by ac_rfl))).2, one_cell (h.perm (show _ = pts isb (isO o) * (pts wasb (wasO o) * (pts mbx (mO mb) * (pts kbx (kO k) * (pts mb (mapO lb mp) * S)))) by ac_rfl)),
    was_cells (h.perm (show _ = pts wasb (wasO o) * (pts isb (isO o) * (pts mbx (mO mb) * (pts kbx (kO k) * (pts mb (mapO lb mp) * S)))) by ac_rfl)), one_cell (h.perm (show _ = pts mbx (mO mb) * (pts isb (isO o) * (pts wasb (wasO o) * (pts kbx (kO k) * (pts mb (mapO lb mp) * S)))) by ac_rfl)), one_cell (h.perm (show _ = pts kbx (kO k) * (pts isb (isO o) * (pts wasb (wasO o) * (pts mbx (mO mb) * (pts mb (mapO lb mp) * S)))) by ac_rfl))⟩
set_option maxRecDepth 100000 in
set_option maxHeartbeats 1000000 in
/-- What a note of a map does: the key has again what it had. -/
theorem note1_calls (isb wasb mbx kbx mb : Nat) (lb : Option Addr) (k : ByteArray) (o : Option T) (B : Nat) (M : ByteArray → Option T) (w : World) (S : Hp) (hk : k.size ≤ maxLen) (hB : B < maxLen) (ho : True)
    (h : Sat w (noteB isb wasb mbx kbx mb k o * (MapAt mb lb B M * S))) :
    Calls Tryz.prog 162 (noteC isb wasb mbx kbx) w fun e w' => (∃ v, e = .returned v) ∧ Sat w' (MapAt mb lb (B + 1) (rest M k o) * S) ∧ Ran w w' := by
  obtain ⟨mp, n, hn, hM, HS⟩ := mapAt_out (h.perm (show _ = MapAt mb lb B M * (noteB isb wasb mbx kbx mb k o * S) by ac_rfl))
  obtain ⟨c1, d0, ⟨d1_0, d1_1, d1_2, d1_3, d1_4, d1_5, d1_6, d1_7, d1_8⟩, d2, d3⟩ := note_cells (HS.perm (show _ = noteB isb wasb mbx kbx mb k o * (pts mb (mapO lb mp) * (mapHe mp n M * S)) by ac_rfl))
  have HP := (HS.perm (show _ = mapHe mp n M * (pts mb (mapO lb mp) * (noteB isb wasb mbx kbx mb k o * S)) by ac_rfl)).drew
  have hn2 : n < maxLen := by omega
  clear HS h
  unfold noteC
  cases o with
  | some v =>
    have hv := trivial
    obtain ⟨w', hrun, hs', hr'⟩ := run_put HP hn2 k hk v
    obtain ⟨x1, x0, ⟨x4_0, x4_1, x4_2, x4_3, x4_4, x4_5, x4_6, x4_7, x4_8⟩, x2, x3⟩ := note_cells (hs'.perm (show _ = noteB isb wasb mbx kbx mb k (some v) * (pts mb (mapO lb mp) * (mapHe mp (n + 1) (putM M k v) * S)) by ac_rfl))
    have Hfin : Hid (Sat w' (MapAt mb lb (B + 1) (rest M k (some v)) * S)) := Lib.hid (by
      have h2 := mapAt_in (lb := lb) (B := B + 1) (hs'.perm (show _ = pts mb (mapO lb mp) * (mapHe mp (n + 1) (putM M k v) * (S * noteB isb wasb mbx kbx mb k (some v))) by ac_rfl)) (by omega) (wfM_put hM hv)
      rw [rest_some]
      exact (h2.perm (show _ = noteB isb wasb mbx kbx mb k (some v) * (MapAt mb lb (B + 1) (putM M k v) * S) by ac_rfl)).right)
    clear HP hs' hn hn2 hM ho hv
    simp only [Option.isSome_some, Option.getD_some] at d0 d1_0 d1_1 d1_2 d1_3 d1_4 d1_5 d1_6 d1_7 d1_8 x0 x4_0 x4_1 x4_2 x4_3 x4_4 x4_5 x4_6 x4_7 x4_8
    go_enter Tryz.func162, Tryz.ntmps162
    go_wp2_with fail
    refine region_plan (S := (fun w' => w'.cell? ⟨mbx, 0, none⟩ = some (.pointer (some ⟨mb, 0, none⟩)) ∧ w'.cell? ⟨mb, 1, none⟩ = some (.map (some mp)) ∧ w'.cell? ⟨kbx, 0, none⟩ = some (.string k) ∧ w'.cell? ⟨wasb, 0, none⟩ = some (.int .i64 (v).kind) ∧ w'.cell? ⟨wasb, 1, none⟩ = some (.bool false) ∧ w'.cell? ⟨wasb, 2, none⟩ = some (.string (v).name) ∧ w'.cell? ⟨wasb, 3, none⟩ = some (.bool false) ∧ w'.cell? ⟨wasb, 4, none⟩ = some (.slice none 0 0) ∧ w'.cell? ⟨wasb, 5, none⟩ = some (.slice none 0 0) ∧ w'.cell? ⟨wasb, 6, none⟩ = some (.slice none 0 0) ∧ w'.cell? ⟨wasb, 7, none⟩ = some (.slice none 0 0) ∧ w'.cell? ⟨wasb, 8, none⟩ = some (.slice none 0 0))) [(0, true), (1, true), (2, true), (3, true), (4, true), (5, true), (6, false)] (by kernel_rfl) (by kernel_rfl) (by kernel_rfl) ?_ ?_
    · ((try dsimp only); (first | done | (first | exact ⟨d2, c1, d3, d1_0, d1_1, d1_2, d1_3, d1_4, d1_5, d1_6, d1_7, d1_8⟩ | exact ⟨x2, x1, x3, x4_0, x4_1, x4_2, x4_3, x4_4, x4_5, x4_6, x4_7, x4_8⟩)))
    simp only [planOps, List.map_cons, List.map_nil, List.getElem?_toArray, List.getElem?_cons_zero, List.getElem?_cons_succ]
    repeat (first
      | ((refine plan_yes (v := ?_) (by rfl) ?_ ?_); rotate_left; (focus (intro w hSw; (try dsimp only at hSw); go_simp; try (with_reducible rfl))); (try simp only [Act.put, List.setIfInBounds_toArray, List.set_cons_zero, List.set_cons_succ]))
      | ((refine plan_no (by rfl) ?_); (try simp only [Act.put, List.setIfInBounds_toArray, List.set_cons_zero, List.set_cons_succ]))
      | ((refine plan_step (fun K hK => ?_)); (first | (fail) | (go_simp; (fail); (try go_wp2_with fail)) | go_simp); (refine hK.out _ _ ?_ (fun hHeld => ?_)); (focus ((try dsimp only); (first | done | (first | exact ⟨d2, c1, d3, d1_0, d1_1, d1_2, d1_3, d1_4, d1_5, d1_6, d1_7, d1_8⟩ | exact ⟨x2, x1, x3, x4_0, x4_1, x4_2, x4_3, x4_4, x4_5, x4_6, x4_7, x4_8⟩)))); clear hK K; (try simp only [Act.put, List.setIfInBounds_toArray, List.set_cons_zero, List.set_cons_succ])))
    refine plan_done ?_
    go_wp2_with fail
    go_end0
    exact ⟨⟨_, rfl⟩, Hfin.out, Below.trans (Ran.drewN (Below.refl 0 w) 1) hr'⟩
  | none =>
    obtain ⟨w', hrun, hs', hr'⟩ := run_del HP k hk 0
    obtain ⟨x1, x0, ⟨x4_0, x4_1, x4_2, x4_3, x4_4, x4_5, x4_6, x4_7, x4_8⟩, x2, x3⟩ := note_cells (hs'.perm (show _ = noteB isb wasb mbx kbx mb k none * (pts mb (mapO lb mp) * (mapHe mp n (delM M k) * S)) by ac_rfl))
    have Hfin : Hid (Sat w' (MapAt mb lb (B + 1) (rest M k none) * S)) := Lib.hid (by
      have h2 := mapAt_in (lb := lb) (B := B + 1) (hs'.perm (show _ = pts mb (mapO lb mp) * (mapHe mp n (delM M k) * (S * noteB isb wasb mbx kbx mb k none)) by ac_rfl)) (by omega) (wfM_del hM)
      rw [rest_none]
      exact (h2.perm (show _ = noteB isb wasb mbx kbx mb k none * (MapAt mb lb (B + 1) (delM M k) * S) by ac_rfl)).right)
    clear HP hs' hn hn2 hM ho
    simp only [Option.isSome_none, Option.getD_none] at d0 d1_0 d1_1 d1_2 d1_3 d1_4 d1_5 d1_6 d1_7 d1_8 x0 x4_0 x4_1 x4_2 x4_3 x4_4 x4_5 x4_6 x4_7 x4_8
    go_enter Tryz.func162, Tryz.ntmps162
    go_wp2_with fail
    refine region_plan (S := (fun w' => w'.cell? ⟨mbx, 0, none⟩ = some (.pointer (some ⟨mb, 0, none⟩)) ∧ w'.cell? ⟨mb, 1, none⟩ = some (.map (some mp)) ∧ w'.cell? ⟨kbx, 0, none⟩ = some (.string k))) [(0, true), (1, true), (2, true), (3, true), (4, true), (5, false)] (by kernel_rfl) (by kernel_rfl) (by kernel_rfl) ?_ ?_
    · ((try dsimp only); (first | done | (first | exact ⟨d2, c1, d3⟩ | exact ⟨x2, x1, x3⟩)))
    simp only [planOps, List.map_cons, List.map_nil, List.getElem?_toArray, List.getElem?_cons_zero, List.getElem?_cons_succ]
    repeat (first
      | ((refine plan_yes (v := ?_) (by rfl) ?_ ?_); rotate_left; (focus (intro w hSw; (try dsimp only at hSw); go_simp; try (with_reducible rfl))); (try simp only [Act.put, List.setIfInBounds_toArray, List.set_cons_zero, List.set_cons_succ]))
      | ((refine plan_no (by rfl) ?_); (try simp only [Act.put, List.setIfInBounds_toArray, List.set_cons_zero, List.set_cons_succ]))
      | ((refine plan_step (fun K hK => ?_)); (first | (fail) | (go_simp; (fail); (try go_wp2_with fail)) | go_simp); (refine hK.out _ _ ?_ (fun hHeld => ?_)); (focus ((try dsimp only); (first | done | (first | exact ⟨d2, c1, d3⟩ | exact ⟨x2, x1, x3⟩)))); clear hK K; (try simp only [Act.put, List.setIfInBounds_toArray, List.set_cons_zero, List.set_cons_succ])))
    refine plan_done ?_
    go_wp2_with fail
    go_end0
    exact ⟨⟨_, rfl⟩, Hfin.out, Below.trans (Ran.drewN (Below.refl 0 w) 1) hr'⟩
abbrev zO : Obj := .cells #[.int .i64 0, .bool false, .string ⟨#[]⟩, .bool false, .slice none 0 0, .slice none 0 0, .slice none 0 0, .slice none 0 0, .slice none 0 0] 96 (0, 0)
abbrev boxO (x : T) : Obj := .cells #[.int .i64 (x).kind, .bool false, .string (x).name, .bool false, .slice none 0 0, .slice none 0 0, .slice none 0 0, .slice none 0 0, .slice none 0 0] 96 (0, 0)
theorem box_cells {w : World} {b : Nat} {x : T} {S : Hp} (h : Sat w (pts b (boxO x) * S)) : w.cell? ⟨b, 0, none⟩ = some (.int .i64 (x).kind) ∧ w.cell? ⟨b, 1, none⟩ = some (.bool false) ∧ w.cell? ⟨b, 2, none⟩ = some (.string (x).name) ∧ w.cell? ⟨b, 3, none⟩ = some (.bool false) ∧ w.cell? ⟨b, 4, none⟩ = some (.slice none 0 0) ∧ w.cell? ⟨b, 5, none⟩ = some (.slice none 0 0) ∧ w.cell? ⟨b, 6, none⟩ = some (.slice none 0 0) ∧ w.cell? ⟨b, 7, none⟩ = some (.slice none 0 0) ∧ w.cell? ⟨b, 8, none⟩ = some (.slice none 0 0) :=
  ⟨by rw [cell_at h.get]; rfl, by rw [cell_at h.get]; rfl, by rw [cell_at h.get]; rfl, by rw [cell_at h.get]; rfl, by rw [cell_at h.get]; rfl, by rw [cell_at h.get]; rfl, by rw [cell_at h.get]; rfl, by rw [cell_at h.get]; rfl, by rw [cell_at h.get]; rfl⟩
end Go.Proofs.YtlmjidandjemjaaGreatDoor.Undo.NM
namespace Go.Proofs.YtlmjidandjemjaaGreatDoor.Undo.NM
open Go.RowKit Go.Proofs.YtlmjidandjemjaaGreatDoor Go.Proofs.YtlmjidandjemjaaGreatDoor.Hp Go.Proofs.YtlmjidandjemjaaGreatDoor.Undo
set_option linter.unusedVariables false
attribute [local go_sem] Oper.semAt_some

/-- What the map's note lays: a note with its cells, or none. -/
def NoteSays (lb mb : Nat) (most nest : Int) (fs : List Value) (ms : List Nat) (k : ByteArray) (B : Nat) (M : ByteArray → Option T) (R : Hp) (e : Ending) (w' : World) : Prop :=
  ∃ isb wasb mbx kbx, e = .returned (.int .i64 (nE most fs ms)) ∧ LogAt w' lb most nest (nF most fs ms (.func (.func 162) #[] (noteC isb wasb mbx kbx))) ms (noteB isb wasb mbx kbx mb k (M k) * (MapAt mb (some ⟨lb, 0, none⟩) B M * R))
set_option maxRecDepth 100000 in
set_option maxHeartbeats 4000000 in
theorem mnote_calls (lb mb : Nat) (most nest : Int) (fs : List Value) (ms : List Nat) (k : ByteArray) (B : Nat) (M : ByteArray → Option T) (w : World) (R : Hp) (hk : k.size ≤ maxLen) (hb : fs.length ≤ 1000000000) (hms : ms.length ≤ 1000000)
    (h : LogAt w lb most nest fs ms (MapAt mb (some ⟨lb, 0, none⟩) B M * R)) :
    Calls Tryz.prog 137 #[.pointer (some ⟨mb, 0, none⟩), .string k] w fun e w' => NoteSays lb mb most nest fs ms k B M R e w' ∧ Ran w w' := by
  obtain ⟨np, nc, qp, qc, HL⟩ := h
  obtain ⟨mp, n, hn, hM, HS⟩ := mapAt_out (HL.perm (show _ = MapAt mb (some ⟨lb, 0, none⟩) B M * (pts lb (logO most nest np fs.length nc qp ms.length qc) * (notes np fs.length nc fs * (marksA qp qc ms * R))) by ac_rfl))
  have HA := (HS.alloc (mO mb)).alloc (kO k)
  have hsz1 : (w.alloc (mO mb)).heap.size = w.heap.size + 1 := World.size_alloc _ _
  rw [hsz1] at HA
  have HD := HA.drew
  obtain ⟨w1, hw1⟩ : ∃ w1, w1 = ((w.alloc (mO mb)).alloc (kO k)).drew := ⟨_, rfl⟩
  rw [← hw1] at HD
  have R1 : Ran w w1 := by rw [hw1]; exact Below.drew (Ran.new (Ran.new (Below.refl 0 w) _) _) 
  have hb1 : ∀ W, Below w1.heap.size w1 W → (Instr.lookup 139 (.map (some mp)) (.string k) true).run Tryz.prog W = .ok (.tuple #[(.agg #[.int .i64 ((M k).getD zt).kind, .bool false, .string ((M k).getD zt).name, .bool false, .slice none 0 0, .slice none 0 0, .slice none 0 0, .slice none 0 0, .slice none 0 0]), .bool (M k).isSome]) W ∧ W.cell? ⟨mb, 1, none⟩ = some (.map (some mp)) ∧ W.cell? ⟨w.heap.size, 0, none⟩ = some (.pointer (some ⟨mb, 0, none⟩)) ∧ W.cell? ⟨w.heap.size + 1, 0, none⟩ = some (.string k) := by
    intro W hW
    have h2 := HD.below hW
    refine ⟨run_look (pull3 h2) k hk, (map_cells (pull2 h2)).2, one_cell (pull1 h2), one_cell h2⟩
  have hlog : ∀ W, Sat W (pts mb (mapO (some ⟨lb, 0, none⟩) mp) * R) → True := fun _ _ => trivial
  have HB1 := Lib.hid hb1
  have HHD := Lib.hid HD
  have hbl : Hid (fs.length ≤ 1000000000 ∧ ms.length ≤ 1000000 ∧ n ≤ B ∧ WfM M) := Lib.hid ⟨hb, hms, hn, hM⟩
  have hls : w.heap.size + 2 = w1.heap.size := by rw [hw1]; show _ = ((w.alloc (mO mb)).alloc (kO k)).heap.size; rw [World.size_alloc, hsz1]
  obtain ⟨d0, d1, d2, d3⟩ := hb1 w1 (Below.refl _ _)
  clear HA HD hb1 HS HL hb hms hn hM hlog
  go_enter Tryz.func137, Tryz.ntmps137
  go_wp2_with fail
  refine region_tree (S := (fun w' => (Instr.lookup 139 (.map (some mp)) (.string k) true).run Tryz.prog w' = .ok (.tuple #[(.agg #[.int .i64 ((M k).getD zt).kind, .bool false, .string ((M k).getD zt).name, .bool false, .slice none 0 0, .slice none 0 0, .slice none 0 0, .slice none 0 0, .slice none 0 0]), .bool (M k).isSome]) w' ∧ w'.cell? ⟨mb, 1, none⟩ = some (.map (some mp)) ∧ w'.cell? ⟨w.heap.size, 0, none⟩ = some (.pointer (some ⟨mb, 0, none⟩)) ∧ w'.cell? ⟨w.heap.size + 1, 0, none⟩ = some (.string k))) (.take 0 (.take 1 (.take 2 (.take 3 (.take 4 (.take 5 (.take 6 (.take 7 (.take 8 (.fork 9 (.step 10 (.step 11 (.step 12 (.nil)))) 10 (.step 9 (.step 11 (.step 12 (.nil)))))))))))))) (by kernel_rfl) (by kernel_rfl) (by kernel_rfl) ?_ ?_
  · ((try dsimp only); (first | done | ((try rw [← hw1]); refine HB1.out _ ?_; (first | exact Below.refl _ _ | exact Below.alloc (Below.refl _ _) (Nat.le_refl _) _ | exact Below.alloc (Below.alloc (Below.refl _ _) (Nat.le_refl _) _) (by rw [World.size_alloc]; exact Nat.le_succ _) _))))
  simp only [Plan.ops, List.getElem?_toArray, List.getElem?_cons_zero, List.getElem?_cons_succ]
  rw [← hw1]; clear hw1 hls hsz1 d0 d1 d2 d3
  ((first | ((refine tree_yes (v := ?_) (by rfl) ?_ ?_); rotate_left; (focus (intro w hSw; (try dsimp only at hSw); go_simp; try (with_reducible rfl)))) | (refine tree_no (by rfl) ?_)); (try simp only [Act.put, List.setIfInBounds_toArray, List.set_cons_zero, List.set_cons_succ]))
  ((first | ((refine tree_yes (v := ?_) (by rfl) ?_ ?_); rotate_left; (focus (intro w hSw; (try dsimp only at hSw); go_simp; try (with_reducible rfl)))) | (refine tree_no (by rfl) ?_)); (try simp only [Act.put, List.setIfInBounds_toArray, List.set_cons_zero, List.set_cons_succ]))
  ((first | ((refine tree_yes (v := ?_) (by rfl) ?_ ?_); rotate_left; (focus (intro w hSw; (try dsimp only at hSw); go_simp; try (with_reducible rfl)))) | (refine tree_no (by rfl) ?_)); (try simp only [Act.put, List.setIfInBounds_toArray, List.set_cons_zero, List.set_cons_succ]))
  ((first | ((refine tree_yes (v := ?_) (by rfl) ?_ ?_); rotate_left; (focus (intro w hSw; (try dsimp only at hSw); go_simp; try (with_reducible rfl)))) | (refine tree_no (by rfl) ?_)); (try simp only [Act.put, List.setIfInBounds_toArray, List.set_cons_zero, List.set_cons_succ]))
  ((first | ((refine tree_yes (v := ?_) (by rfl) ?_ ?_); rotate_left; (focus (intro w hSw; (try dsimp only at hSw); go_simp; try (with_reducible rfl)))) | (refine tree_no (by rfl) ?_)); (try simp only [Act.put, List.setIfInBounds_toArray, List.set_cons_zero, List.set_cons_succ]))
  ((first | ((refine tree_yes (v := ?_) (by rfl) ?_ ?_); rotate_left; (focus (intro w hSw; (try dsimp only at hSw); go_simp; try (with_reducible rfl)))) | (refine tree_no (by rfl) ?_)); (try simp only [Act.put, List.setIfInBounds_toArray, List.set_cons_zero, List.set_cons_succ]))
  ((first | ((refine tree_yes (v := ?_) (by rfl) ?_ ?_); rotate_left; (focus (intro w hSw; (try dsimp only at hSw); go_simp; try (with_reducible rfl)))) | (refine tree_no (by rfl) ?_)); (try simp only [Act.put, List.setIfInBounds_toArray, List.set_cons_zero, List.set_cons_succ]))
  ((first | ((refine tree_yes (v := ?_) (by rfl) ?_ ?_); rotate_left; (focus (intro w hSw; (try dsimp only at hSw); go_simp; try (with_reducible rfl)))) | (refine tree_no (by rfl) ?_)); (try simp only [Act.put, List.setIfInBounds_toArray, List.set_cons_zero, List.set_cons_succ]))
  ((first | ((refine tree_yes (v := ?_) (by rfl) ?_ ?_); rotate_left; (focus (intro w hSw; (try dsimp only at hSw); go_simp; try (with_reducible rfl)))) | (refine tree_no (by rfl) ?_)); (try simp only [Act.put, List.setIfInBounds_toArray, List.set_cons_zero, List.set_cons_succ]))
  refine tree_fork (fun K hK => ?_) (fun K hK => ?_)
  focus
    ((first | (fail) | (go_simp; (fail); (try go_wp2_with fail)) | go_simp); (refine hK.out _ _ ?_ (fun hHeld => ?_)); (focus ((try dsimp only); (first | done | ((try rw [← hw1]); refine HB1.out _ ?_; (first | exact Below.refl _ _ | exact Below.alloc (Below.refl _ _) (Nat.le_refl _) _ | exact Below.alloc (Below.alloc (Below.refl _ _) (Nat.le_refl _) _) (by rw [World.size_alloc]; exact Nat.le_succ _) _))))); clear hK K; (try simp only [Act.put, List.setIfInBounds_toArray, List.set_cons_zero, List.set_cons_succ]))
    ((refine tree_step (fun K hK => ?_)); (first | (fail) | (go_simp; (fail); (try go_wp2_with fail)) | go_simp); (refine hK.out _ _ ?_ (fun hHeld => ?_)); (focus ((try dsimp only); (first | done | ((try rw [← hw1]); refine HB1.out _ ?_; (first | exact Below.refl _ _ | exact Below.alloc (Below.refl _ _) (Nat.le_refl _) _ | exact Below.alloc (Below.alloc (Below.refl _ _) (Nat.le_refl _) _) (by rw [World.size_alloc]; exact Nat.le_succ _) _))))); clear hK K; (try simp only [Act.put, List.setIfInBounds_toArray, List.set_cons_zero, List.set_cons_succ]))
    ((refine tree_step (fun K hK => ?_)); (first | (fail) | (go_simp; (fail); (try go_wp2_with fail)) | go_simp); (refine hK.out _ _ ?_ (fun hHeld => ?_)); (focus ((try dsimp only); (first | done | ((try rw [← hw1]); refine HB1.out _ ?_; (first | exact Below.refl _ _ | exact Below.alloc (Below.refl _ _) (Nat.le_refl _) _ | exact Below.alloc (Below.alloc (Below.refl _ _) (Nat.le_refl _) _) (by rw [World.size_alloc]; exact Nat.le_succ _) _))))); clear hK K; (try simp only [Act.put, List.setIfInBounds_toArray, List.set_cons_zero, List.set_cons_succ]))
    ((refine tree_step (fun K hK => ?_)); (first | (fail) | (go_simp; (fail); (try go_wp2_with fail)) | go_simp); (refine hK.out _ _ ?_ (fun hHeld => ?_)); (focus ((try dsimp only); (first | done | ((try rw [← hw1]); refine HB1.out _ ?_; (first | exact Below.refl _ _ | exact Below.alloc (Below.refl _ _) (Nat.le_refl _) _ | exact Below.alloc (Below.alloc (Below.refl _ _) (Nat.le_refl _) _) (by rw [World.size_alloc]; exact Nat.le_succ _) _))))); clear hK K; (try simp only [Act.put, List.setIfInBounds_toArray, List.set_cons_zero, List.set_cons_succ]))
    refine tree_done ?_
  rotate_left 1
  focus
    ((first | (fail) | (go_simp; (fail); (try go_wp2_with fail)) | go_simp); (refine hK.out _ _ ?_ (fun hHeld => ?_)); (focus ((try dsimp only); (first | done | ((try rw [← hw1]); refine HB1.out _ ?_; (first | exact Below.refl _ _ | exact Below.alloc (Below.refl _ _) (Nat.le_refl _) _ | exact Below.alloc (Below.alloc (Below.refl _ _) (Nat.le_refl _) _) (by rw [World.size_alloc]; exact Nat.le_succ _) _))))); clear hK K; (try simp only [Act.put, List.setIfInBounds_toArray, List.set_cons_zero, List.set_cons_succ]))
    ((refine tree_step (fun K hK => ?_)); (first | (fail) | (go_simp; (fail); (try go_wp2_with fail)) | go_simp); (refine hK.out _ _ ?_ (fun hHeld => ?_)); (focus ((try dsimp only); (first | done | ((try rw [← hw1]); refine HB1.out _ ?_; (first | exact Below.refl _ _ | exact Below.alloc (Below.refl _ _) (Nat.le_refl _) _ | exact Below.alloc (Below.alloc (Below.refl _ _) (Nat.le_refl _) _) (by rw [World.size_alloc]; exact Nat.le_succ _) _))))); clear hK K; (try simp only [Act.put, List.setIfInBounds_toArray, List.set_cons_zero, List.set_cons_succ]))
    ((refine tree_step (fun K hK => ?_)); (first | (fail) | (go_simp; (fail); (try go_wp2_with fail)) | go_simp); (refine hK.out _ _ ?_ (fun hHeld => ?_)); (focus ((try dsimp only); (first | done | ((try rw [← hw1]); refine HB1.out _ ?_; (first | exact Below.refl _ _ | exact Below.alloc (Below.refl _ _) (Nat.le_refl _) _ | exact Below.alloc (Below.alloc (Below.refl _ _) (Nat.le_refl _) _) (by rw [World.size_alloc]; exact Nat.le_succ _) _))))); clear hK K; (try simp only [Act.put, List.setIfInBounds_toArray, List.set_cons_zero, List.set_cons_succ]))
    ((refine tree_step (fun K hK => ?_)); (first | (fail) | (go_simp; (fail); (try go_wp2_with fail)) | go_simp); (refine hK.out _ _ ?_ (fun hHeld => ?_)); (focus ((try dsimp only); (first | done | ((try rw [← hw1]); refine HB1.out _ ?_; (first | exact Below.refl _ _ | exact Below.alloc (Below.refl _ _) (Nat.le_refl _) _ | exact Below.alloc (Below.alloc (Below.refl _ _) (Nat.le_refl _) _) (by rw [World.size_alloc]; exact Nat.le_succ _) _))))); clear hK K; (try simp only [Act.put, List.setIfInBounds_toArray, List.set_cons_zero, List.set_cons_succ]))
    refine tree_done ?_
  all_goals
    (first
      | (have HS2 := (HHD.out.alloc (wasO (M k))).alloc (isO (M k)); rw [World.size_alloc] at HS2
         obtain ⟨w2, hw2⟩ : ∃ w2, w2 = (w1.alloc (wasO (M k))).alloc (isO (M k)) := ⟨_, rfl⟩
         rw [← hw2] at HS2; rw [← hw2]
         have HS3 := HS2
         have R2 : Ran w w2 := by rw [hw2]; exact Ran.new (Ran.new R1 _) _
         obtain ⟨isb, hisb⟩ : ∃ b, b = w1.heap.size + 1 := ⟨_, rfl⟩
         obtain ⟨wasb, hwasb⟩ : ∃ b, b = w1.heap.size := ⟨_, rfl⟩
         rw [← hisb, ← hwasb] at HS3; rw [← hisb, ← hwasb])
      | (have HS2 := (HHD.out.alloc (isO (M k))).alloc (wasO (M k)); rw [World.size_alloc] at HS2
         obtain ⟨w2, hw2⟩ : ∃ w2, w2 = (w1.alloc (isO (M k))).alloc (wasO (M k)) := ⟨_, rfl⟩
         rw [← hw2] at HS2; rw [← hw2]
         have HS3 := pull1 HS2
         have R2 : Ran w w2 := by rw [hw2]; exact Ran.new (Ran.new R1 _) _
         obtain ⟨wasb, hwasb⟩ : ∃ b, b = w1.heap.size + 1 := ⟨_, rfl⟩
         obtain ⟨isb, hisb⟩ : ∃ b, b = w1.heap.size := ⟨_, rfl⟩
         rw [← hwasb, ← hisb] at HS3; rw [← hwasb, ← hisb]))
    clear hisb hwasb hw2 HS2
    have HN : LogAt w2 lb most nest fs ms (noteB isb wasb w.heap.size (w.heap.size + 1) mb k (M k) * (MapAt mb (some ⟨lb, 0, none⟩) B M * R)) := by
      refine ⟨np, nc, qp, qc, ?_⟩
      have h5 := mapAt_in (pull4 (HS3.perm (show _ = pts isb (isO (M k)) * (pts wasb (wasO (M k)) * (pts w.heap.size (mO mb) * (pts (w.heap.size + 1) (kO k) * (pts mb (mapO (some ⟨lb, 0, none⟩) mp) * (mapHe mp n M * (pts lb (logO most nest np fs.length nc qp ms.length qc) * (notes np fs.length nc fs * (marksA qp qc ms * R)))))))) by ac_rfl) |>.perm (show _ = pts isb (isO (M k)) * (pts wasb (wasO (M k)) * (pts w.heap.size (mO mb) * (pts (w.heap.size + 1) (kO k) * (pts mb (mapO (some ⟨lb, 0, none⟩) mp) * (mapHe mp n M * (pts lb (logO most nest np fs.length nc qp ms.length qc) * (notes np fs.length nc fs * (marksA qp qc ms * R)))))))) from rfl)) |>.perm (show _ = pts mb (mapO (some ⟨lb, 0, none⟩) mp) * (mapHe mp n M * (pts isb (isO (M k)) * (pts wasb (wasO (M k)) * (pts w.heap.size (mO mb) * (pts (w.heap.size + 1) (kO k) * (pts lb (logO most nest np fs.length nc qp ms.length qc) * (notes np fs.length nc fs * (marksA qp qc ms * R)))))))) by ac_rfl)) hbl.out.2.2.1 hbl.out.2.2.2
      unfold noteB
      exact h5.perm (by ac_rfl)
    obtain ⟨x0, x1⟩ := map_cells (pull4 HS3)
    have x2 := one_cell (pull3 HS3)
    have hcall := note_any lb most nest fs ms 162 (noteC isb wasb w.heap.size (w.heap.size + 1)) w2 _ HN hbl.out.1 hbl.out.2.1
    have Hcall := Lib.hid hcall
    clear hcall HN HS3 HB1 HHD hbl
    go_wp2_with fail
    refine Hcall.out.mono ?_
    rintro e w3 ⟨rfl, hL, hr⟩
    go_wp2_with fail
    go_ret
    exact ⟨⟨isb, wasb, _, _, rfl, hL⟩, Below.trans R2 hr⟩
end Go.Proofs.YtlmjidandjemjaaGreatDoor.Undo.NM
namespace Go.Proofs.YtlmjidandjemjaaGreatDoor.Undo.NM
open Go.RowKit Go.Proofs.YtlmjidandjemjaaGreatDoor Go.Proofs.YtlmjidandjemjaaGreatDoor.Hp Go.Proofs.YtlmjidandjemjaaGreatDoor.Undo
set_option linter.unusedVariables false
attribute [local go_sem] Oper.semAt_some

theorem map_reads {w : World} {mb : Nat} {lb : Option Addr} {B : Nat} {M : ByteArray → Option T} {S : Hp} (h : Sat w (MapAt mb lb B M * S)) (k : ByteArray) (hk : k.size ≤ maxLen) :
    ∃ mp, w.cell? ⟨mb, 0, none⟩ = some (.pointer lb) ∧ w.cell? ⟨mb, 1, none⟩ = some (.map (some mp)) ∧ (Instr.lookup 139 (.map (some mp)) (.string k) true).run Tryz.prog w = .ok (.tuple #[(.agg #[.int .i64 ((M k).getD zt).kind, .bool false, .string ((M k).getD zt).name, .bool false, .slice none 0 0, .slice none 0 0, .slice none 0 0, .slice none 0 0, .slice none 0 0]), .bool (M k).isSome]) w := by
  obtain ⟨mp, n, hn, hM, HS⟩ := mapAt_out h
  exact ⟨mp, (map_cells HS).1, (map_cells HS).2, run_look (pull1 HS) k hk⟩
set_option maxRecDepth 100000 in
theorem has_calls (mb : Nat) (lb : Option Addr) (B : Nat) (M : ByteArray → Option T) (k : ByteArray) (hk : k.size ≤ maxLen) (w : World) (S : Hp) (h : Sat w (MapAt mb lb B M * S)) :
    Calls Tryz.prog 138 #[.pointer (some ⟨mb, 0, none⟩), .string k] w fun e w' => e = .returned (.bool (M k).isSome) ∧ Below w.heap.size w w' := by
  obtain ⟨mp, c0, c1, hl⟩ := map_reads h k hk
  clear h
  go_enter Tryz.func138, Tryz.ntmps138
  go_wp2_with fail
  go_ret
  refine ⟨rfl, ?_⟩
  first | assumption | exact Below.refl _ _ | exact (Below.refl _ _).alloc (Nat.le_refl _) _ | exact ((Below.refl _ _).alloc (Nat.le_refl _) _).alloc (by rw [World.size_alloc]; exact Nat.le_succ _) _
set_option maxRecDepth 100000 in
theorem get_calls (mb : Nat) (lb : Option Addr) (B : Nat) (M : ByteArray → Option T) (k : ByteArray) (hk : k.size ≤ maxLen) (w : World) (S : Hp) (h : Sat w (MapAt mb lb B M * S)) :
    Calls Tryz.prog 114 #[.pointer (some ⟨mb, 0, none⟩), .string k] w fun e w' => e = .returned (.tuple #[(.agg #[.int .i64 ((M k).getD zt).kind, .bool false, .string ((M k).getD zt).name, .bool false, .slice none 0 0, .slice none 0 0, .slice none 0 0, .slice none 0 0, .slice none 0 0]), .bool (M k).isSome]) ∧ Below w.heap.size w w' := by
  have H1 := h.alloc zO
  obtain ⟨mp, c0, c1, hl⟩ := map_reads (H1.perm (show _ = MapAt mb lb B M * (pts w.heap.size zO * S) by ac_rfl)) k hk
  generalize hx : (M k).getD zt = x at hl ⊢
  have H2 := H1.alloc (boxO x)
  obtain ⟨e0, e1, e2, e3, e4, e5, e6, e7, e8⟩ := box_cells H2
  have hs1 : (w.alloc zO).heap.size = w.heap.size + 1 := World.size_alloc _ _
  obtain ⟨r0, r1, r2, r3, r4, r5, r6, r7, r8⟩ := box_cells (pull1 ((h.alloc (boxO x)).alloc (boxO x)))
  clear h H1 hx
  go_enter Tryz.func114, Tryz.ntmps114
  go_wp2_with fail
  refine bodyPost_ret (v := .tuple #[(.agg #[.int .i64 (x).kind, .bool false, .string (x).name, .bool false, .slice none 0 0, .slice none 0 0, .slice none 0 0, .slice none 0 0, .slice none 0 0]), .bool (M k).isSome]) (by simp [results, Tryz.results114, go_sem, r0, r1, r2, r3, r4, r5, r6, r7, r8]) rfl ⟨rfl, ?_⟩
  exact ((Below.refl _ _).alloc (Nat.le_refl _) _).alloc (by rw [World.size_alloc]; exact Nat.le_succ _) _
/-- What Set and Delete leave; M2: what the map has when it is done. -/
def SetSays (lb mb : Nat) (most nest : Int) (fs : List Value) (ms : List Nat) (k : ByteArray) (B : Nat) (M M2 : ByteArray → Option T) (R : Hp) (e : Ending) (w' : World) : Prop :=
  ∃ isb wasb mbx kbx, e = .returned (.int .i64 (nE most fs ms)) ∧ LogAt w' lb most nest (nF most fs ms (.func (.func 162) #[] (noteC isb wasb mbx kbx))) ms (noteB isb wasb mbx kbx mb k (M k) * (MapAt mb (some ⟨lb, 0, none⟩) (B + 1) (if nE most fs ms = 0 then M2 else M) * R))
set_option maxRecDepth 100000 in
set_option maxHeartbeats 4000000 in
theorem set_calls (lb mb : Nat) (most nest : Int) (fs : List Value) (ms : List Nat) (k : ByteArray) (v : T) (B : Nat) (M : ByteArray → Option T) (w : World) (R : Hp) (hk : k.size ≤ maxLen) (hv : True) (hb : fs.length ≤ 1000000000) (hms : ms.length ≤ 1000000) (hB : B < maxLen)
    (h : LogAt w lb most nest fs ms (MapAt mb (some ⟨lb, 0, none⟩) B M * R)) :
    Calls Tryz.prog 110 #[.pointer (some ⟨mb, 0, none⟩), .string k, (.agg #[.int .i64 (v).kind, .bool false, .string (v).name, .bool false, .slice none 0 0, .slice none 0 0, .slice none 0 0, .slice none 0 0, .slice none 0 0])] w fun e w' => SetSays lb mb most nest fs ms k B M (putM M k v) R e w' ∧ Ran w w' := by
  obtain ⟨np, nc, qp, qc, HS⟩ := h
  have H1 := HS.alloc (boxO v)
  have h0 : LogAt (w.alloc (boxO v)) lb most nest fs ms (MapAt mb (some ⟨lb, 0, none⟩) B M * (pts w.heap.size (boxO v) * R)) := ⟨np, nc, qp, qc, H1.perm (by ac_rfl)⟩
  have Hn := Lib.hid (mnote_calls lb mb most nest fs ms k B M _ _ hk hb hms h0)
  have R0 : Ran w (w.alloc (boxO v)) := Ran.new (Below.refl 0 w) _
  clear HS H1 h0
  go_enter Tryz.func110, Tryz.ntmps110
  go_wp2_with fail
  refine Hn.out.mono ?_
  rintro e w1 ⟨⟨isb, wasb, mbx, kbx, rfl, HL⟩, R1⟩
  have R2 := Below.trans R0 R1
  obtain ⟨fl, hfl⟩ : ∃ f, f = nF most fs ms (.func (.func 162) #[] (noteC isb wasb mbx kbx)) := ⟨_, rfl⟩
  rw [← hfl] at HL
  have Hfl := Lib.hid hfl
  clear hfl R0 R1
  rcases nE_cases most fs ms with hE | hE
  · have HE := Lib.hid hE
    rw [hE]
    clear hE
    obtain ⟨np, nc, qp, qc, HS⟩ := HL
    obtain ⟨mp, n, hn, hM, HM⟩ := mapAt_out (pull4 HS)
    obtain ⟨c0, c1⟩ := map_cells HM
    have HM2 := HM.perm (show _ = pts w.heap.size (boxO v) * (pts mb (mapO (some ⟨lb, 0, none⟩) mp) * (mapHe mp n M * (pts lb (logO most nest np fl.length nc qp ms.length qc) * (notes np fl.length nc fl * (marksA qp qc ms * (noteB isb wasb mbx kbx mb k (M k) * R)))))) by ac_rfl)
    obtain ⟨e0, e1, e2, e3, e4, e5, e6, e7, e8⟩ := box_cells HM2
    obtain ⟨w', hrun, hs', hr'⟩ := run_put (HM2.perm (show _ = mapHe mp n M * (pts mb (mapO (some ⟨lb, 0, none⟩) mp) * (pts w.heap.size (boxO v) * (pts lb (logO most nest np fl.length nc qp ms.length qc) * (notes np fl.length nc fl * (marksA qp qc ms * (noteB isb wasb mbx kbx mb k (M k) * R)))))) by ac_rfl)).drew (show n < maxLen by omega) k hk v
    obtain ⟨x0, x1⟩ := map_cells (hs'.perm (show _ = pts mb (mapO (some ⟨lb, 0, none⟩) mp) * (mapHe mp (n + 1) (putM M k v) * (pts w.heap.size (boxO v) * (pts lb (logO most nest np fl.length nc qp ms.length qc) * (notes np fl.length nc fl * (marksA qp qc ms * (noteB isb wasb mbx kbx mb k (M k) * R)))))) by ac_rfl))
    obtain ⟨y0, y1, y2, y3, y4, y5, y6, y7, y8⟩ := box_cells (hs'.perm (show _ = pts w.heap.size (boxO v) * (pts mb (mapO (some ⟨lb, 0, none⟩) mp) * (mapHe mp (n + 1) (putM M k v) * (pts lb (logO most nest np fl.length nc qp ms.length qc) * (notes np fl.length nc fl * (marksA qp qc ms * (noteB isb wasb mbx kbx mb k (M k) * R)))))) by ac_rfl))
    have Hs := Lib.hid (mapAt_in (lb := some ⟨lb, 0, none⟩) (B := B + 1) (pull1 hs') (by omega) (wfM_put hM hv))
    clear HS HM HM2 hs' Hn
    go_wp2_with fail
    refine region_plan (S := (fun w' => w'.cell? ⟨mb, 1, none⟩ = some (.map (some mp)) ∧ w'.cell? ⟨w.heap.size, 0, none⟩ = some (.int .i64 (v).kind) ∧ w'.cell? ⟨w.heap.size, 1, none⟩ = some (.bool false) ∧ w'.cell? ⟨w.heap.size, 2, none⟩ = some (.string (v).name) ∧ w'.cell? ⟨w.heap.size, 3, none⟩ = some (.bool false) ∧ w'.cell? ⟨w.heap.size, 4, none⟩ = some (.slice none 0 0) ∧ w'.cell? ⟨w.heap.size, 5, none⟩ = some (.slice none 0 0) ∧ w'.cell? ⟨w.heap.size, 6, none⟩ = some (.slice none 0 0) ∧ w'.cell? ⟨w.heap.size, 7, none⟩ = some (.slice none 0 0) ∧ w'.cell? ⟨w.heap.size, 8, none⟩ = some (.slice none 0 0))) [(0, true), (1, true), (2, true), (3, true), (4, true), (5, true), (6, false)] (by kernel_rfl) (by kernel_rfl) (by kernel_rfl) ?_ ?_
    · ((try dsimp only); (first | done | (first | exact ⟨c1, e0, e1, e2, e3, e4, e5, e6, e7, e8⟩ | exact ⟨x1, y0, y1, y2, y3, y4, y5, y6, y7, y8⟩)))
    simp only [planOps, List.map_cons, List.map_nil, List.getElem?_toArray, List.getElem?_cons_zero, List.getElem?_cons_succ]
    repeat (first
      | ((refine plan_yes (v := ?_) (by rfl) ?_ ?_); rotate_left; (focus (intro w hSw; (try dsimp only at hSw); go_simp; try (with_reducible rfl))); (try simp only [Act.put, List.setIfInBounds_toArray, List.set_cons_zero, List.set_cons_succ]))
      | ((refine plan_no (by rfl) ?_); (try simp only [Act.put, List.setIfInBounds_toArray, List.set_cons_zero, List.set_cons_succ]))
      | ((refine plan_step (fun K hK => ?_)); (first | (fail) | (go_simp; (fail); (try go_wp2_with fail)) | go_simp); (refine hK.out _ _ ?_ (fun hHeld => ?_)); (focus ((try dsimp only); (first | done | (first | exact ⟨c1, e0, e1, e2, e3, e4, e5, e6, e7, e8⟩ | exact ⟨x1, y0, y1, y2, y3, y4, y5, y6, y7, y8⟩)))); clear hK K; (try simp only [Act.put, List.setIfInBounds_toArray, List.set_cons_zero, List.set_cons_succ])))
    refine plan_done ?_
    go_wp2_with fail
    go_ret
    refine ⟨⟨isb, wasb, mbx, kbx, by rw [HE.out]; rfl, ?_⟩, Below.trans (Ran.drewN R2 1) hr'⟩
    rw [if_pos HE.out, ← Hfl.out]
    exact ⟨np, nc, qp, qc, (Hs.out.perm (show _ = pts w.heap.size (boxO v) * (pts lb (logO most nest np fl.length nc qp ms.length qc) * (notes np fl.length nc fl * (marksA qp qc ms * (noteB isb wasb mbx kbx mb k (M k) * (MapAt mb (some ⟨lb, 0, none⟩) (B + 1) (putM M k v) * R))))) by ac_rfl)).right⟩
  · have HE := Lib.hid hE
    rw [hE]
    have HL0 := Lib.hid HL
    clear HL Hn hE
    go_wp2_with fail
    go_ret
    refine ⟨⟨isb, wasb, mbx, kbx, by rw [HE.out]; rfl, ?_⟩, R2⟩
    rw [if_neg (by rw [HE.out]; decide), ← Hfl.out]
    obtain ⟨np, nc, qp, qc, HS⟩ := HL0.out
    exact ⟨np, nc, qp, qc, ((mapAt_more (pull4 HS) (Nat.le_succ B)).perm (show _ = pts w.heap.size (boxO v) * (pts lb (logO most nest np fl.length nc qp ms.length qc) * (notes np fl.length nc fl * (marksA qp qc ms * (noteB isb wasb mbx kbx mb k (M k) * (MapAt mb (some ⟨lb, 0, none⟩) (B + 1) M * R))))) by ac_rfl)).right⟩
set_option maxRecDepth 100000 in
set_option maxHeartbeats 4000000 in
/-- Delete of a key that is there. -/
theorem del_calls (lb mb : Nat) (most nest : Int) (fs : List Value) (ms : List Nat) (k : ByteArray) (B : Nat) (M : ByteArray → Option T) (w : World) (R : Hp) (hk : k.size ≤ maxLen) (hb : fs.length ≤ 1000000000) (hms : ms.length ≤ 1000000) (hB : B < maxLen) (hsome : (M k).isSome = true)
    (h : LogAt w lb most nest fs ms (MapAt mb (some ⟨lb, 0, none⟩) B M * R)) :
    Calls Tryz.prog 111 #[.pointer (some ⟨mb, 0, none⟩), .string k] w fun e w' => SetSays lb mb most nest fs ms k B M (delM M k) R e w' ∧ Ran w w' := by
  have H0 := Lib.hid h
  obtain ⟨np, nc, qp, qc, HS⟩ := h
  have Hh := Lib.hid (has_calls mb (some ⟨lb, 0, none⟩) B M k hk w _ (pull3 HS))
  obtain ⟨mp, c0, c1, hl⟩ := map_reads (pull3 HS) k hk
  clear HS
  go_enter Tryz.func111, Tryz.ntmps111
  go_wp2_with fail
  refine Hh.out.mono ?_
  rintro e w0 ⟨rfl, hB0⟩
  have Hn := Lib.hid (mnote_calls lb mb most nest fs ms k B M w0 R hk hb hms (LogAt.below H0.out hB0))
  have R0 := Lib.hid (Below.mono (h := hB0) (Nat.zero_le _))
  clear c0 c1 hl hB0 H0
  rw [hsome]
  go_wp2_with fail
  refine Hn.out.mono ?_
  rintro e w1 ⟨⟨isb, wasb, mbx, kbx, rfl, HL⟩, R1⟩
  have R1 := Below.trans R0.out R1
  obtain ⟨fl, hfl⟩ : ∃ f, f = nF most fs ms (.func (.func 162) #[] (noteC isb wasb mbx kbx)) := ⟨_, rfl⟩
  rw [← hfl] at HL
  have Hfl := Lib.hid hfl
  clear hfl Hh
  rcases nE_cases most fs ms with hE | hE
  · have HE := Lib.hid hE
    rw [hE]
    clear hE
    obtain ⟨np, nc, qp, qc, HS⟩ := HL
    obtain ⟨mp, n, hn, hM, HM⟩ := mapAt_out (pull4 HS)
    obtain ⟨c0, c1⟩ := map_cells HM
    obtain ⟨w', hrun, hs', hr'⟩ := run_del (pull1 HM) k hk 0
    have Hs := Lib.hid (mapAt_in (lb := some ⟨lb, 0, none⟩) (B := B + 1) (pull1 hs') (by omega) (wfM_del hM))
    clear HS HM hs' Hn
    go_wp2_with fail
    go_ret
    refine ⟨⟨isb, wasb, mbx, kbx, by rw [HE.out]; rfl, ?_⟩, Below.trans R1 hr'⟩
    rw [if_pos HE.out, ← Hfl.out]
    exact ⟨np, nc, qp, qc, Hs.out.perm (by ac_rfl)⟩
  · have HE := Lib.hid hE
    rw [hE]
    have HL0 := Lib.hid HL
    clear HL Hn hE
    go_wp2_with fail
    go_ret
    refine ⟨⟨isb, wasb, mbx, kbx, by rw [HE.out]; rfl, ?_⟩, R1⟩
    rw [if_neg (by rw [HE.out]; decide), ← Hfl.out]
    obtain ⟨np, nc, qp, qc, HS⟩ := HL0.out
    exact ⟨np, nc, qp, qc, (mapAt_more (pull4 HS) (Nat.le_succ B)).perm (by ac_rfl)⟩
set_option maxRecDepth 100000 in
/-- Delete of a key that is not there. -/
theorem del_idle (lb mb : Nat) (B : Nat) (M : ByteArray → Option T) (k : ByteArray) (w : World) (S : Hp) (hk : k.size ≤ maxLen) (hnone : (M k).isSome = false) (h : Sat w (MapAt mb (some ⟨lb, 0, none⟩) B M * S)) :
    Calls Tryz.prog 111 #[.pointer (some ⟨mb, 0, none⟩), .string k] w fun e w' => e = .returned (.int .i64 0) ∧ Below w.heap.size w w' := by
  have Hh := Lib.hid (has_calls mb (some ⟨lb, 0, none⟩) B M k hk w _ h)
  obtain ⟨mp, c0, c1, hl⟩ := map_reads h k hk
  clear h
  go_enter Tryz.func111, Tryz.ntmps111
  go_wp2_with fail
  refine Hh.out.mono ?_
  rintro e w0 ⟨rfl, hB0⟩
  rw [hnone]
  go_wp2_with fail
  go_ret
  refine ⟨rfl, ?_⟩
  first | assumption | exact Below.refl _ _ | exact (Below.refl _ _).alloc (Nat.le_refl _) _ | exact ((Below.refl _ _).alloc (Nat.le_refl _) _).alloc (by rw [World.size_alloc]; exact Nat.le_succ _) _
theorem newmap_calls (lb : Option Addr) (w : World) (S : Hp) (h : Sat w S) :
    Calls Tryz.prog 61 #[.pointer lb] w fun e w' => ∃ mb, e = .returned (.pointer (some ⟨mb, 0, none⟩)) ∧ Sat w' (MapAt mb lb 0 (fun _ => none) * S) ∧ Ran w w' := by
  have H1 := (map_made h).alloc (mapO lb w.heap.size)
  have hM : WfM (fun _ => none) := trivial
  have H2 := Lib.hid (mapAt_in H1 (Nat.le_refl _) hM)
  clear H1 h
  have hmk : (Instr.makeMap 139 none).run Tryz.prog w = .ok (.map (some w.heap.size)) (w.alloc (.map #[] 0)) := rfl
  go_enter Tryz.func61, Tryz.ntmps61
  go_wp2_with fail
  go_ret
  rw [← World.size_alloc w (.map #[] 0)]
  exact ⟨_, rfl, H2.out, Ran.new (Ran.new (Below.refl 0 w) _) _⟩
end Go.Proofs.YtlmjidandjemjaaGreatDoor.Undo.NM

