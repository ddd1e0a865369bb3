/- A cell of a log; NewMap, NewCell, begun. -/
import Derived.Test.YtibgpkcklneloaaUnI
namespace Go.Proofs.Ytibgpkcklneloaa.Undo
open Go.RowKit Go.Proofs.Ytibgpkcklneloaa Go.Proofs.Ytibgpkcklneloaa.Hp
set_option linter.unusedVariables false
attribute [local go_sem] Oper.semAt_some

abbrev cellO (lb : Option Addr) (c : ByteArray) : Obj := .cells #[.pointer lb, .string c] 89 (0, 0)
abbrev coO (cb : Nat) : Obj := .cells #[.pointer (some ⟨cb, 0, none⟩)] 36 (0, 0)
abbrev CellAt (cb : Nat) (lb : Option Addr) (c : ByteArray) : Hp := pts cb (cellO lb c)
def cnoteB (wasb cbx cb : Nat) (was : ByteArray) : Hp := pts wasb (kO was) * pts cbx (coO cb)
def cnoteC (wasb cbx : Nat) : Array Value := #[.pointer (some ⟨wasb, 0, none⟩), .pointer (some ⟨cbx, 0, none⟩)]
theorem cell_cells {w : World} {cb : Nat} {lb : Option Addr} {c : ByteArray} {S : Hp} (h : Sat w (CellAt cb lb c * S)) : w.cell? ⟨cb, 0, none⟩ = some (.pointer lb) ∧ w.cell? ⟨cb, 1, none⟩ = some (.string c) ∧ ∀ i, w.frozen? ⟨cb, i, none⟩ = false :=
  ⟨by rw [cell_at h.get]; rfl, by rw [cell_at h.get]; rfl, fun i => free_at h.get i⟩
set_option maxRecDepth 100000 in
theorem cset1_calls (wasb cbx cb : Nat) (lb : Option Addr) (c was : ByteArray) (w : World) (S : Hp) (h : Sat w (cnoteB wasb cbx cb was * (CellAt cb lb c * S))) :
    Calls Try.prog 47 (cnoteC wasb cbx) w fun e w' => (∃ v, e = .returned v) ∧ Sat w' (CellAt cb lb was * S) ∧ Ran w w' := by
  unfold cnoteB at h
  have h1 := h.perm (show _ = pts cb (cellO lb c) * (pts wasb (kO was) * (pts cbx (coO cb) * S)) by ac_rfl)
  obtain ⟨c0, c1, cz⟩ := cell_cells h1
  have d0 := one_cell (pull1 h1)
  have d1 := one_cell (pull2 h1)
  have H1 := Lib.hid h1
  unfold cnoteC
  clear h h1
  go_enter Try.func47, Try.ntmps47
  go_wp2_with fail
  go_end0
  refine ⟨⟨_, rfl⟩, ?_, Ran.set (Below.refl 0 w) _ _⟩
  have h2 := H1.out.set (i := 1) (.string was)
  exact (h2.perm (show _ = pts wasb (kO was) * (pts cbx (coO cb) * (CellAt cb lb was * S)) by show pts cb (cellO lb was) * _ = _; ac_rfl)).right.right
def CSetSays (lb cb : Nat) (most nest : Int) (fs : List Value) (ms : List Nat) (c v : ByteArray) (R : Hp) (e : Ending) (w' : World) : Prop :=
  ∃ wasb cbx, e = .returned (.int .i64 (nE most fs ms)) ∧ LogAt w' lb most nest (nF most fs ms (.func (.func 47) #[] (cnoteC wasb cbx))) ms (cnoteB wasb cbx cb c * (CellAt cb (some ⟨lb, 0, none⟩) (if nE most fs ms = 0 then v else c) * R))
set_option maxRecDepth 100000 in
set_option maxHeartbeats 4000000 in
theorem cset_calls (lb cb : Nat) (most nest : Int) (fs : List Value) (ms : List Nat) (c v : ByteArray) (w : World) (R : Hp) (hb : fs.length ≤ 1000000000) (hms : ms.length ≤ 1000000)
    (h : LogAt w lb most nest fs ms (CellAt cb (some ⟨lb, 0, none⟩) c * R)) :
    Calls Try.prog 31 #[.pointer (some ⟨cb, 0, none⟩), .string v] w fun e w' => CSetSays lb cb most nest fs ms c v R e w' ∧ Ran w w' := by
  obtain ⟨np, nc, qp, qc, HL⟩ := h
  have H2 := ((pull3 HL).alloc (coO cb)).alloc (kO c)
  have hsz : (w.alloc (coO cb)).heap.size = w.heap.size + 1 := World.size_alloc _ _
  rw [hsz] at H2
  obtain ⟨c0, c1, cz⟩ := cell_cells (pull1 ((pull3 HL).alloc (coO cb)))
  obtain ⟨y0, y1, yz⟩ := cell_cells (pull2 H2)
  have Hsz := Lib.hid hsz
  clear HL hsz
  go_enter Try.func31, Try.ntmps31
  go_wp2_with fail
  have HN : LogAt ((w.alloc (coO cb)).alloc (kO c)) lb most nest fs ms (cnoteB (w.heap.size + 1) w.heap.size cb c * (CellAt cb (some ⟨lb, 0, none⟩) c * R)) :=
    ⟨np, nc, qp, qc, H2.perm (by unfold cnoteB; ac_rfl)⟩
  refine (note_any lb most nest fs ms 47 (cnoteC (w.heap.size + 1) w.heap.size) _ _ HN hb hms).mono ?_
  rintro e w1 ⟨rfl, HL, R1⟩
  have R2 : Ran w w1 := Below.trans (Ran.new (Ran.new (Below.refl 0 w) _) _) R1
  clear HN H2 R1 c0 c1 cz y0 y1 yz
  obtain ⟨fl, hfl⟩ : ∃ f, f = nF most fs ms (.func (.func 47) #[] (cnoteC (w.heap.size + 1) w.heap.size)) := ⟨_, rfl⟩
  rw [← hfl] at HL
  have Hfl := Lib.hid hfl
  clear hfl
  obtain ⟨np, nc, qp, qc, HS⟩ := HL
  unfold cnoteB at HS
  have HC := HS.perm (show _ = CellAt cb (some ⟨lb, 0, none⟩) c * (pts w.heap.size (coO cb) * (pts (w.heap.size + 1) (kO c) * (pts lb (logO most nest np fl.length nc qp ms.length qc) * (notes np fl.length nc fl * (marksA qp qc ms * R))))) by ac_rfl)
  obtain ⟨c0, c1, cz⟩ := cell_cells HC
  have d0 := one_cell (pull1 HC)
  have HC0 := Lib.hid HC
  clear HS HC
  rcases nE_cases most fs ms with hE | hE
  · have HE := Lib.hid hE
    rw [hE]
    clear hE
    go_wp2_with fail
    go_ret
    refine ⟨⟨w.heap.size + 1, w.heap.size, by rw [HE.out]; rfl, ?_⟩, Ran.set R2 _ _⟩
    rw [if_pos HE.out, ← Hfl.out]
    have h2 := HC0.out.set (i := 1) (.string v)
    exact ⟨np, nc, qp, qc, h2.perm (by unfold cnoteB CellAt; show pts cb (cellO (some ⟨lb, 0, none⟩) v) * _ = _; ac_rfl)⟩
  · have HE := Lib.hid hE
    rw [hE]
    clear hE
    go_wp2_with fail
    go_ret
    refine ⟨⟨w.heap.size + 1, w.heap.size, by rw [HE.out]; rfl, ?_⟩, R2⟩
    rw [if_neg (by rw [HE.out]; decide), ← Hfl.out]
    exact ⟨np, nc, qp, qc, HC0.out.perm (by unfold cnoteB; ac_rfl)⟩
theorem cget_calls (cb : Nat) (lb : Option Addr) (c : ByteArray) (w : World) (S : Hp) (h : Sat w (CellAt cb lb c * S)) :
    Calls Try.prog 32 #[.pointer (some ⟨cb, 0, none⟩)] w fun e w' => e = .returned (.string c) ∧ w = w' := by
  obtain ⟨c0, c1, cz⟩ := cell_cells h
  clear h
  go_enter Try.func32, Try.ntmps32
  go_wp2_with fail
  go_ret
  exact ⟨rfl, rfl⟩
theorem newmap_calls (lb : Option Addr) (w : World) (S : Hp) (h : Sat w S) :
    Calls Try.prog 25 #[.pointer lb] w fun e w' => ∃ mb, e = .returned (.pointer (some ⟨mb, 0, none⟩)) ∧ Sat w' (MapAt mb lb 0 (fun _ => none) * S) ∧ Ran w w' := by
  have H1 := (map_made h).alloc (mapO lb w.heap.size)
  have hM : WfM (fun _ => none) := fun _ _ e => by cases e
  have H2 := Lib.hid (mapAt_in H1 (Nat.le_refl _) hM)
  clear H1 h
  have hmk : (Instr.makeMap 85 none).run Try.prog w = .ok (.map (some w.heap.size)) (w.alloc (.map #[] 0)) := rfl
  go_enter Try.func25, Try.ntmps25
  go_wp2_with fail
  go_ret
  rw [← World.size_alloc w (.map #[] 0)]
  exact ⟨_, rfl, H2.out, Ran.new (Ran.new (Below.refl 0 w) _) _⟩
theorem newcell_calls (lb : Option Addr) (c : ByteArray) (w : World) (S : Hp) (h : Sat w S) :
    Calls Try.prog 26 #[.pointer lb, .string c] w fun e w' => ∃ cb, e = .returned (.pointer (some ⟨cb, 0, none⟩)) ∧ Sat w' (CellAt cb lb c * S) ∧ Ran w w' := by
  have H2 := Lib.hid (h.alloc (cellO lb c))
  clear h
  go_enter Try.func26, Try.ntmps26
  go_wp2_with fail
  go_ret
  exact ⟨_, rfl, H2.out, Ran.new (Below.refl 0 w) _⟩
end Go.Proofs.Ytibgpkcklneloaa.Undo
