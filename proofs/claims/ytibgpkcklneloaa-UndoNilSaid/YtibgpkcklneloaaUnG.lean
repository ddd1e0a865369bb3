/- A map of a log: its notes, note, Set, Delete, Get, has. -/
import Derived.Test.YtibgpkcklneloaaUnE
import Derived.Test.YtibgpkcklneloaaUnF
namespace Go.Proofs.Ytibgpkcklneloaa.Undo
open Go.RowKit Go.Proofs.Ytibgpkcklneloaa Go.Proofs.Ytibgpkcklneloaa.Hp
set_option linter.unusedVariables false
attribute [local go_sem] Oper.semAt_some

abbrev mapO (lb : Option Addr) (mp : Nat) : Obj := .cells #[.pointer lb, .map (some mp)] 87 (0, 0)
def WfM (M : ByteArray → Option Int) : Prop := ∀ k v, M k = some v → (Lit.int .i64 v).wf = true
/-- A map of a log that has M; so often something may be laid in it: B. -/
def MapAt (mb : Nat) (lb : Option Addr) (B : Nat) (M : ByteArray → Option Int) : Hp :=
  ex fun mp : Nat => ex fun n : Nat => fact (n ≤ B ∧ WfM M) * (pts mb (mapO lb mp) * mapHp mp n M)
theorem mapAt_out {w : World} {mb : Nat} {lb : Option Addr} {B : Nat} {M : ByteArray → Option Int} {S : Hp} (h : Sat w (MapAt mb lb B M * S)) :
    ∃ mp n, n ≤ B ∧ WfM M ∧ Sat w (pts mb (mapO lb mp) * (mapHp mp n M * S)) := by
  unfold MapAt at h
  obtain ⟨mp, h⟩ := h.ex_out
  obtain ⟨n, h⟩ := h.ex_out
  rw [sep_assoc] at h
  obtain ⟨⟨h1, h2⟩, h⟩ := h.fact_out
  exact ⟨mp, n, h1, h2, h.perm (by ac_rfl)⟩
theorem mapAt_in {w : World} {mb : Nat} {lb : Option Addr} {B : Nat} {M : ByteArray → Option Int} {S : Hp} {mp n : Nat} (h : Sat w (pts mb (mapO lb mp) * (mapHp mp n M * S))) (h1 : n ≤ B) (h2 : WfM M) : Sat w (MapAt mb lb B M * S) := by
  unfold MapAt
  refine Sat.ex_in mp (Sat.ex_in n ?_)
  rw [sep_assoc]
  exact (h.perm (by ac_rfl)).fact_in ⟨h1, h2⟩
theorem mapAt_more {w : World} {mb : Nat} {lb : Option Addr} {B B' : Nat} {M : ByteArray → Option Int} {S : Hp} (h : Sat w (MapAt mb lb B M * S)) (hB : B ≤ B') : Sat w (MapAt mb lb B' M * S) := by
  obtain ⟨mp, n, h1, h2, h⟩ := mapAt_out h
  exact mapAt_in h (Nat.le_trans h1 hB) h2
theorem wfM_put {M : ByteArray → Option Int} (h : WfM M) {k : ByteArray} {v : Int} (hv : (Lit.int .i64 v).wf = true) : WfM (putM M k v) := by
  intro t u e
  unfold putM at e
  by_cases c : t = k
  · rw [if_pos c] at e; cases e; exact hv
  · rw [if_neg c] at e; exact h t u e
theorem wfM_del {M : ByteArray → Option Int} (h : WfM M) {k : ByteArray} : WfM (delM M k) := by
  intro t u e
  unfold delM at e
  by_cases c : t = k
  · rw [if_pos c] at e; cases e
  · rw [if_neg c] at e; exact h t u e
/-- k has again what it had. -/
def rest (M : ByteArray → Option Int) (k : ByteArray) (o : Option Int) : ByteArray → Option Int := fun t => if t = k then o else M t
theorem rest_some (M : ByteArray → Option Int) (k : ByteArray) (v : Int) : rest M k (some v) = putM M k v := rfl
theorem rest_none (M : ByteArray → Option Int) (k : ByteArray) : rest M k none = delM M k := rfl
theorem rest_put (M : ByteArray → Option Int) (k : ByteArray) (v : Int) : rest (putM M k v) k (M k) = M := by
  funext t; unfold rest putM
  by_cases c : t = k
  · rw [if_pos c, c]
  · rw [if_neg c, if_neg c]
theorem rest_del (M : ByteArray → Option Int) (k : ByteArray) : rest (delM M k) k (M k) = M := by
  funext t; unfold rest delM
  by_cases c : t = k
  · rw [if_pos c, c]
  · rw [if_neg c, if_neg c]
abbrev mO (mb : Nat) : Obj := .cells #[.pointer (some ⟨mb, 0, none⟩)] 35 (0, 0)
abbrev kO (k : ByteArray) : Obj := .cells #[.string k] 9 (0, 0)
abbrev isO (o : Option Int) : Obj := .cells #[.bool o.isSome] 4 (0, 0)
abbrev wasO (o : Option Int) : Obj := .cells #[.int .i64 (o.getD 0)] 3 (0, 0)
/-- What a map's note holds. -/
def noteB (isb wasb mbx kbx mb : Nat) (k : ByteArray) (o : Option Int) : Hp :=
  pts isb (isO o) * (pts wasb (wasO o) * (pts mbx (mO mb) * pts kbx (kO k)))
def noteC (isb wasb mbx kbx : Nat) : Array Value := #[.pointer (some ⟨isb, 0, none⟩), .pointer (some ⟨wasb, 0, none⟩), .pointer (some ⟨mbx, 0, none⟩), .pointer (some ⟨kbx, 0, none⟩)]
theorem one_cell {w : World} {b : Nat} {v : Value} {T : TypeId} {S : Hp} (h : Sat w (pts b (.cells #[v] T (0, 0)) * S)) : w.cell? ⟨b, 0, none⟩ = some v := by rw [cell_at h.get]; rfl
theorem map_cells {w : World} {mb mp : Nat} {lb : Option Addr} {S : Hp} (h : Sat w (pts mb (mapO lb mp) * S)) : w.cell? ⟨mb, 0, none⟩ = some (.pointer lb) ∧ w.cell? ⟨mb, 1, none⟩ = some (.map (some mp)) :=
  ⟨by rw [cell_at h.get]; rfl, by rw [cell_at h.get]; rfl⟩
theorem note_cells {w : World} {isb wasb mbx kbx mb mp : Nat} {lb : Option Addr} {k : ByteArray} {o : Option Int} {S : Hp} (h : Sat w (noteB isb wasb mbx kbx mb k o * (pts mb (mapO lb mp) * S))) :
    w.cell? ⟨mb, 1, none⟩ = some (.map (some mp)) ∧ w.cell? ⟨isb, 0, none⟩ = some (.bool o.isSome) ∧ w.cell? ⟨wasb, 0, none⟩ = some (.int .i64 (o.getD 0)) ∧ w.cell? ⟨mbx, 0, none⟩ = some (.pointer (some ⟨mb, 0, none⟩)) ∧ w.cell? ⟨kbx, 0, none⟩ = some (.string k) := by
  unfold noteB at h
  refine ⟨(map_cells (h.perm (show _ = pts mb (mapO lb mp) * (pts isb (isO o) * (pts wasb (wasO o) * (pts mbx (mO mb) * (pts kbx (kO k) * S)))) by ac_rfl))).2, one_cell (h.perm (show _ = pts isb (isO o) * (pts wasb (wasO o) * (pts mbx (mO mb) * (pts kbx (kO k) * (pts mb (mapO lb mp) * S)))) by ac_rfl)),
    one_cell (h.perm (show _ = pts wasb (wasO o) * (pts isb (isO o) * (pts mbx (mO mb) * (pts kbx (kO k) * (pts mb (mapO lb mp) * S)))) by ac_rfl)), one_cell (h.perm (show _ = pts mbx (mO mb) * (pts isb (isO o) * (pts wasb (wasO o) * (pts kbx (kO k) * (pts mb (mapO lb mp) * S)))) by ac_rfl)), one_cell (h.perm (show _ = pts kbx (kO k) * (pts isb (isO o) * (pts wasb (wasO o) * (pts mbx (mO mb) * (pts mb (mapO lb mp) * S)))) by ac_rfl))⟩
set_option maxRecDepth 100000 in
set_option maxHeartbeats 1000000 in
/-- What a note of a map does: the key has again what it had. -/
theorem note1_calls (isb wasb mbx kbx mb : Nat) (lb : Option Addr) (k : ByteArray) (o : Option Int) (B : Nat) (M : ByteArray → Option Int) (w : World) (S : Hp) (hk : k.size ≤ maxLen) (hB : B < maxLen) (ho : ∀ v, o = some v → (Lit.int .i64 v).wf = true)
    (h : Sat w (noteB isb wasb mbx kbx mb k o * (MapAt mb lb B M * S))) :
    Calls Try.prog 54 (noteC isb wasb mbx kbx) w fun e w' => (∃ v, e = .returned v) ∧ Sat w' (MapAt mb lb (B + 1) (rest M k o) * S) ∧ Ran w w' := by
  obtain ⟨mp, n, hn, hM, HS⟩ := mapAt_out (h.perm (show _ = MapAt mb lb B M * (noteB isb wasb mbx kbx mb k o * S) by ac_rfl))
  obtain ⟨c1, d0, d1, d2, d3⟩ := note_cells (HS.perm (show _ = noteB isb wasb mbx kbx mb k o * (pts mb (mapO lb mp) * (mapHp mp n M * S)) by ac_rfl))
  have HP := (HS.perm (show _ = mapHp mp n M * (pts mb (mapO lb mp) * (noteB isb wasb mbx kbx mb k o * S)) by ac_rfl)).drew
  have hn2 : n < maxLen := by omega
  clear HS h
  unfold noteC
  cases o with
  | some v =>
    have hv := ho v rfl
    obtain ⟨w', hrun, hs', hr'⟩ := run_put HP hn2 k hk v hv
    obtain ⟨x1, x0, x4, x2, x3⟩ := note_cells (hs'.perm (show _ = noteB isb wasb mbx kbx mb k (some v) * (pts mb (mapO lb mp) * (mapHp mp (n + 1) (putM M k v) * S)) by ac_rfl))
    have Hfin : Hid (Sat w' (MapAt mb lb (B + 1) (rest M k (some v)) * S)) := Lib.hid (by
      have h2 := mapAt_in (lb := lb) (B := B + 1) (hs'.perm (show _ = pts mb (mapO lb mp) * (mapHp mp (n + 1) (putM M k v) * (S * noteB isb wasb mbx kbx mb k (some v))) by ac_rfl)) (by omega) (wfM_put hM hv)
      rw [rest_some]
      exact (h2.perm (show _ = noteB isb wasb mbx kbx mb k (some v) * (MapAt mb lb (B + 1) (putM M k v) * S) by ac_rfl)).right)
    clear HP hs' hn hn2 hM ho hv
    simp only [Option.isSome_some, Option.getD_some] at d0 d1 x0 x4
    go_enter Try.func54, Try.ntmps54
    go_wp2_with fail
    refine Go.Proofs.Ytibgpkcklneloaa.region_plan (S := (fun w' => w'.cell? ⟨mbx, 0, none⟩ = some (.pointer (some ⟨mb, 0, none⟩)) ∧ w'.cell? ⟨mb, 1, none⟩ = some (.map (some mp)) ∧ w'.cell? ⟨kbx, 0, none⟩ = some (.string k) ∧ w'.cell? ⟨wasb, 0, none⟩ = some (.int .i64 v))) [(0, true), (1, true), (2, true), (3, true), (4, true), (5, true), (6, false)] (by kernel_rfl) (by kernel_rfl) (by kernel_rfl) ?_ ?_
    · ((try dsimp only); (first | done | (first | exact ⟨d2, c1, d3, d1⟩ | exact ⟨x2, x1, x3, x4⟩)))
    simp only [Go.Proofs.Ytibgpkcklneloaa.planOps, List.map_cons, List.map_nil, List.getElem?_toArray, List.getElem?_cons_zero, List.getElem?_cons_succ]
    repeat (first
      | ((refine Go.Proofs.Ytibgpkcklneloaa.plan_yes (v := ?_) (by rfl) ?_ ?_); rotate_left; (focus (intro w hSw; (try dsimp only at hSw); go_simp; try (with_reducible rfl))); (try simp only [Act.put, List.setIfInBounds_toArray, List.set_cons_zero, List.set_cons_succ]))
      | ((refine Go.Proofs.Ytibgpkcklneloaa.plan_no (by rfl) ?_); (try simp only [Act.put, List.setIfInBounds_toArray, List.set_cons_zero, List.set_cons_succ]))
      | ((refine Go.Proofs.Ytibgpkcklneloaa.plan_step (fun K hK => ?_)); (first | (fail) | (go_simp; (fail); (try go_wp2_with fail)) | go_simp); (refine hK.out _ _ ?_ (fun hHeld => ?_)); (focus ((try dsimp only); (first | done | (first | exact ⟨d2, c1, d3, d1⟩ | exact ⟨x2, x1, x3, x4⟩)))); clear hK K; (try simp only [Act.put, List.setIfInBounds_toArray, List.set_cons_zero, List.set_cons_succ])))
    refine Go.Proofs.Ytibgpkcklneloaa.plan_done ?_
    go_wp2_with fail
    go_end0
    exact ⟨⟨_, rfl⟩, Hfin.out, Below.trans (Ran.drewN (Below.refl 0 w) 1) hr'⟩
  | none =>
    obtain ⟨w', hrun, hs', hr'⟩ := run_del HP k hk 0
    obtain ⟨x1, x0, x4, x2, x3⟩ := note_cells (hs'.perm (show _ = noteB isb wasb mbx kbx mb k none * (pts mb (mapO lb mp) * (mapHp mp n (delM M k) * S)) by ac_rfl))
    have Hfin : Hid (Sat w' (MapAt mb lb (B + 1) (rest M k none) * S)) := Lib.hid (by
      have h2 := mapAt_in (lb := lb) (B := B + 1) (hs'.perm (show _ = pts mb (mapO lb mp) * (mapHp mp n (delM M k) * (S * noteB isb wasb mbx kbx mb k none)) by ac_rfl)) (by omega) (wfM_del hM)
      rw [rest_none]
      exact (h2.perm (show _ = noteB isb wasb mbx kbx mb k none * (MapAt mb lb (B + 1) (delM M k) * S) by ac_rfl)).right)
    clear HP hs' hn hn2 hM ho
    simp only [Option.isSome_none, Option.getD_none] at d0 d1 x0 x4
    go_enter Try.func54, Try.ntmps54
    go_wp2_with fail
    refine Go.Proofs.Ytibgpkcklneloaa.region_plan (S := (fun w' => w'.cell? ⟨mbx, 0, none⟩ = some (.pointer (some ⟨mb, 0, none⟩)) ∧ w'.cell? ⟨mb, 1, none⟩ = some (.map (some mp)) ∧ w'.cell? ⟨kbx, 0, none⟩ = some (.string k))) [(0, true), (1, true), (2, true), (3, true), (4, true), (5, false)] (by kernel_rfl) (by kernel_rfl) (by kernel_rfl) ?_ ?_
    · ((try dsimp only); (first | done | (first | exact ⟨d2, c1, d3⟩ | exact ⟨x2, x1, x3⟩)))
    simp only [Go.Proofs.Ytibgpkcklneloaa.planOps, List.map_cons, List.map_nil, List.getElem?_toArray, List.getElem?_cons_zero, List.getElem?_cons_succ]
    repeat (first
      | ((refine Go.Proofs.Ytibgpkcklneloaa.plan_yes (v := ?_) (by rfl) ?_ ?_); rotate_left; (focus (intro w hSw; (try dsimp only at hSw); go_simp; try (with_reducible rfl))); (try simp only [Act.put, List.setIfInBounds_toArray, List.set_cons_zero, List.set_cons_succ]))
      | ((refine Go.Proofs.Ytibgpkcklneloaa.plan_no (by rfl) ?_); (try simp only [Act.put, List.setIfInBounds_toArray, List.set_cons_zero, List.set_cons_succ]))
      | ((refine Go.Proofs.Ytibgpkcklneloaa.plan_step (fun K hK => ?_)); (first | (fail) | (go_simp; (fail); (try go_wp2_with fail)) | go_simp); (refine hK.out _ _ ?_ (fun hHeld => ?_)); (focus ((try dsimp only); (first | done | (first | exact ⟨d2, c1, d3⟩ | exact ⟨x2, x1, x3⟩)))); clear hK K; (try simp only [Act.put, List.setIfInBounds_toArray, List.set_cons_zero, List.set_cons_succ])))
    refine Go.Proofs.Ytibgpkcklneloaa.plan_done ?_
    go_wp2_with fail
    go_end0
    exact ⟨⟨_, rfl⟩, Hfin.out, Below.trans (Ran.drewN (Below.refl 0 w) 1) hr'⟩
set_option maxRecDepth 100000 in
set_option maxHeartbeats 1000000 in
/-- Note with no room. -/
theorem note_full (lb : Nat) (most nest : Int) (fs : List Value) (ms : List Nat) (fn : Nat) (cs : Array Value) (w : World) (R : Hp) (h : LogAt w lb most nest fs ms R) (hm : ms ≠ []) (hl : most ≤ (fs.length : Int)) :
    Calls Try.prog 11 #[.pointer (some ⟨lb, 0, none⟩), .func (.func fn) #[] cs] w fun e w' => e = .returned (.int .i64 43) ∧ LogAt w' lb most nest fs ms R ∧ Ran w w' := by
  obtain ⟨np, nc, mp, mc, HS⟩ := h
  obtain ⟨c0, c1, c2, c3, cz⟩ := log_cells HS.get
  have hml : ((ms.length : Int) == 0) = false := by
    rw [beq_eq_false_iff_ne]
    have := List.length_pos_iff.2 hm
    omega
  have HS0 := Lib.hid HS
  clear HS hm
  have efn := eql_func_nil fn cs
  go_enter Try.func11, Try.ntmps11
  go_wp2_with fail
  go_quiet (fail)
  go_wp2_with fail
  go_ret
  exact ⟨rfl, ⟨np, nc, mp, mc, HS0.out.drewN _⟩, Ran.drewN (Below.refl 0 w) _⟩
/-- What Note answers; which notes there are behind it. -/
def nE (most : Int) (fs : List Value) (ms : List Nat) : Int := if ms = [] then 0 else if (fs.length : Int) < most then 0 else 43
def nF (most : Int) (fs : List Value) (ms : List Nat) (f : Value) : List Value := if ms = [] then fs else if (fs.length : Int) < most then fs ++ [f] else fs
theorem note_any (lb : Nat) (most nest : Int) (fs : List Value) (ms : List Nat) (fn : Nat) (cs : Array Value) (w : World) (R : Hp) (h : LogAt w lb most nest fs ms R) (hb : fs.length ≤ 1000000000) (hms : ms.length ≤ 1000000) :
    Calls Try.prog 11 #[.pointer (some ⟨lb, 0, none⟩), .func (.func fn) #[] cs] w fun e w' => e = .returned (.int .i64 (nE most fs ms)) ∧ LogAt w' lb most nest (nF most fs ms (.func (.func fn) #[] cs)) ms R ∧ Ran w w' := by
  unfold nE nF
  by_cases hm : ms = []
  · subst hm
    rw [if_pos rfl, if_pos rfl]
    exact (note_idle lb most nest fs fn cs w R h).mono fun e w' ⟨h1, h2⟩ => ⟨h1, h2 ▸ h, h2 ▸ Below.refl 0 w⟩
  · rw [if_neg hm, if_neg hm]
    by_cases hl : (fs.length : Int) < most
    · rw [if_pos hl, if_pos hl]
      exact note_calls lb most nest fs ms fn cs w R h hm hl hb hms
    · rw [if_neg hl, if_neg hl]
      exact note_full lb most nest fs ms fn cs w R h hm (by omega)
end Go.Proofs.Ytibgpkcklneloaa.Undo
