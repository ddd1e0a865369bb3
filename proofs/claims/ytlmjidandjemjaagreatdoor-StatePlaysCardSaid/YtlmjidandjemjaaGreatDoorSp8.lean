/- HandlesPlays, part 8 of 29: the texts StLR, joined by a program. -/
import Derived.Test.YtlmjidandjemjaaGreatDoorSp3
import Derived.Test.YtlmjidandjemjaaGreatDoorSp2
import Derived.Test.YtlmjidandjemjaaGreatDoorSp4
import Derived.Test.YtlmjidandjemjaaGreatDoorSp7
import Derived.Test.YtlmjidandjemjaaGreatDoorSp5
namespace Go.Proofs.YtlmjidandjemjaaGreatDoor.Undo.OC
open Go.RowKit Go.Proofs.YtlmjidandjemjaaGreatDoor Go.Proofs.YtlmjidandjemjaaGreatDoor.Hp Go.Proofs.YtlmjidandjemjaaGreatDoor.Undo
set_option linter.unusedVariables false
attribute [local go_sem] Oper.semAt_some

abbrev cellO (lb : Option Addr) (c : ByteArray) : Obj := .cells #[.pointer lb, .string c] 146 (0, 0)
abbrev coO (cb : Nat) : Obj := .cells #[.pointer (some ⟨cb, 0, none⟩)] 77 (0, 0)
abbrev CellAt (cb : Nat) (lb : Option Addr) (c : ByteArray) : Hp := pts cb (cellO lb c)
def cnoteB (wasb cbx cb : Nat) (was : ByteArray) : Hp := pts wasb (kO was) * pts cbx (coO cb)
def cnoteC (wasb cbx : Nat) : Array Value := #[.pointer (some ⟨wasb, 0, none⟩), .pointer (some ⟨cbx, 0, none⟩)]
theorem cell_cells {w : World} {cb : Nat} {lb : Option Addr} {c : ByteArray} {S : Hp} (h : Sat w (CellAt cb lb c * S)) : w.cell? ⟨cb, 0, none⟩ = some (.pointer lb) ∧ w.cell? ⟨cb, 1, none⟩ = some (.string c) ∧ ∀ i, w.frozen? ⟨cb, i, none⟩ = false :=
  ⟨by rw [cell_at h.get]; rfl, by rw [cell_at h.get]; rfl, fun i => free_at h.get i⟩
set_option maxRecDepth 100000 in
theorem cset1_calls (wasb cbx cb : Nat) (lb : Option Addr) (c was : ByteArray) (w : World) (S : Hp) (h : Sat w (cnoteB wasb cbx cb was * (CellAt cb lb c * S))) :
    Calls Tryz.prog 130 (cnoteC wasb cbx) w fun e w' => (∃ v, e = .returned v) ∧ Sat w' (CellAt cb lb was * S) ∧ Ran w w' := by
  unfold cnoteB at h
  have h1 := h.perm (show _ = pts cb (cellO lb c) * (pts wasb (kO was) * (pts cbx (coO cb) * S)) by ac_rfl)
  obtain ⟨c0, c1, cz⟩ := cell_cells h1
  have d0 := one_cell (pull1 h1)
  have d1 := one_cell (pull2 h1)
  have H1 := Lib.hid h1
  unfold cnoteC
  clear h h1
  go_enter Tryz.func130, Tryz.ntmps130
  go_wp2_with fail
  go_end0
  refine ⟨⟨_, rfl⟩, ?_, Ran.set (Below.refl 0 w) _ _⟩
  have h2 := H1.out.set (i := 1) (.string was)
  exact (h2.perm (show _ = pts wasb (kO was) * (pts cbx (coO cb) * (CellAt cb lb was * S)) by show pts cb (cellO lb was) * _ = _; ac_rfl)).right.right
def CSetSays (lb cb : Nat) (most nest : Int) (fs : List Value) (ms : List Nat) (c v : ByteArray) (R : Hp) (e : Ending) (w' : World) : Prop :=
  ∃ wasb cbx, e = .returned (.int .i64 (nE most fs ms)) ∧ LogAt w' lb most nest (nF most fs ms (.func (.func 130) #[] (cnoteC wasb cbx))) ms (cnoteB wasb cbx cb c * (CellAt cb (some ⟨lb, 0, none⟩) (if nE most fs ms = 0 then v else c) * R))
set_option maxRecDepth 100000 in
set_option maxHeartbeats 4000000 in
theorem cset_calls (lb cb : Nat) (most nest : Int) (fs : List Value) (ms : List Nat) (c v : ByteArray) (w : World) (R : Hp) (hb : fs.length ≤ 1000000000) (hms : ms.length ≤ 1000000)
    (h : LogAt w lb most nest fs ms (CellAt cb (some ⟨lb, 0, none⟩) c * R)) :
    Calls Tryz.prog 97 #[.pointer (some ⟨cb, 0, none⟩), .string v] w fun e w' => CSetSays lb cb most nest fs ms c v R e w' ∧ Ran w w' := by
  obtain ⟨np, nc, qp, qc, HL⟩ := h
  have H2 := ((pull3 HL).alloc (coO cb)).alloc (kO c)
  have hsz : (w.alloc (coO cb)).heap.size = w.heap.size + 1 := World.size_alloc _ _
  rw [hsz] at H2
  obtain ⟨c0, c1, cz⟩ := cell_cells (pull1 ((pull3 HL).alloc (coO cb)))
  obtain ⟨y0, y1, yz⟩ := cell_cells (pull2 H2)
  have Hsz := Lib.hid hsz
  clear HL hsz
  go_enter Tryz.func97, Tryz.ntmps97
  go_wp2_with fail
  have HN : LogAt ((w.alloc (coO cb)).alloc (kO c)) lb most nest fs ms (cnoteB (w.heap.size + 1) w.heap.size cb c * (CellAt cb (some ⟨lb, 0, none⟩) c * R)) :=
    ⟨np, nc, qp, qc, H2.perm (by unfold cnoteB; ac_rfl)⟩
  refine (note_any lb most nest fs ms 130 (cnoteC (w.heap.size + 1) w.heap.size) _ _ HN hb hms).mono ?_
  rintro e w1 ⟨rfl, HL, R1⟩
  have R2 : Ran w w1 := Below.trans (Ran.new (Ran.new (Below.refl 0 w) _) _) R1
  clear HN H2 R1 c0 c1 cz y0 y1 yz
  obtain ⟨fl, hfl⟩ : ∃ f, f = nF most fs ms (.func (.func 130) #[] (cnoteC (w.heap.size + 1) w.heap.size)) := ⟨_, rfl⟩
  rw [← hfl] at HL
  have Hfl := Lib.hid hfl
  clear hfl
  obtain ⟨np, nc, qp, qc, HS⟩ := HL
  unfold cnoteB at HS
  have HC := HS.perm (show _ = CellAt cb (some ⟨lb, 0, none⟩) c * (pts w.heap.size (coO cb) * (pts (w.heap.size + 1) (kO c) * (pts lb (logO most nest np fl.length nc qp ms.length qc) * (notes np fl.length nc fl * (marksA qp qc ms * R))))) by ac_rfl)
  obtain ⟨c0, c1, cz⟩ := cell_cells HC
  have d0 := one_cell (pull1 HC)
  have HC0 := Lib.hid HC
  clear HS HC
  rcases nE_cases most fs ms with hE | hE
  · have HE := Lib.hid hE
    rw [hE]
    clear hE
    go_wp2_with fail
    go_ret
    refine ⟨⟨w.heap.size + 1, w.heap.size, by rw [HE.out]; rfl, ?_⟩, Ran.set R2 _ _⟩
    rw [if_pos HE.out, ← Hfl.out]
    have h2 := HC0.out.set (i := 1) (.string v)
    exact ⟨np, nc, qp, qc, h2.perm (by unfold cnoteB CellAt; show pts cb (cellO (some ⟨lb, 0, none⟩) v) * _ = _; ac_rfl)⟩
  · have HE := Lib.hid hE
    rw [hE]
    clear hE
    go_wp2_with fail
    go_ret
    refine ⟨⟨w.heap.size + 1, w.heap.size, by rw [HE.out]; rfl, ?_⟩, R2⟩
    rw [if_neg (by rw [HE.out]; decide), ← Hfl.out]
    exact ⟨np, nc, qp, qc, HC0.out.perm (by unfold cnoteB; ac_rfl)⟩
theorem cget_calls (cb : Nat) (lb : Option Addr) (c : ByteArray) (w : World) (S : Hp) (h : Sat w (CellAt cb lb c * S)) :
    Calls Tryz.prog 112 #[.pointer (some ⟨cb, 0, none⟩)] w fun e w' => e = .returned (.string c) ∧ w = w' := by
  obtain ⟨c0, c1, cz⟩ := cell_cells h
  clear h
  go_enter Tryz.func112, Tryz.ntmps112
  go_wp2_with fail
  go_ret
  exact ⟨rfl, rfl⟩
theorem newcell_calls (lb : Option Addr) (c : ByteArray) (w : World) (S : Hp) (h : Sat w S) :
    Calls Tryz.prog 63 #[.pointer lb, .string c] w fun e w' => ∃ cb, e = .returned (.pointer (some ⟨cb, 0, none⟩)) ∧ Sat w' (CellAt cb lb c * S) ∧ Ran w w' := by
  have H2 := Lib.hid (h.alloc (cellO lb c))
  clear h
  go_enter Tryz.func63, Tryz.ntmps63
  go_wp2_with fail
  go_ret
  exact ⟨_, rfl, H2.out, Ran.new (Below.refl 0 w) _⟩
end Go.Proofs.YtlmjidandjemjaaGreatDoor.Undo.OC
namespace Go.Proofs.YtlmjidandjemjaaGreatDoor.Undo.GC
open Go.RowKit Go.Proofs.YtlmjidandjemjaaGreatDoor Go.Proofs.YtlmjidandjemjaaGreatDoor.Hp Go.Proofs.YtlmjidandjemjaaGreatDoor.Undo
set_option linter.unusedVariables false
attribute [local go_sem] Oper.semAt_some

/-- What the state's cell of arguments has: a slice, and two numbers. -/
structure Giv where
  p : Option Addr
  n : Nat
  cap : Nat
  here : Int
  within : Int
  l : List ByteArray
abbrev cellO (lb : Option Addr) (c : Giv) : Obj := .cells #[.pointer lb, .slice (c).p (c).n (c).cap, .int .i64 (c).here, .int .i64 (c).within] 133 (0, 0)
abbrev gO (x : Giv) : Obj := .cells #[.slice (x).p (x).n (x).cap, .int .i64 (x).here, .int .i64 (x).within] 83 (0, 0)
theorem g_cells {w : World} {b : Nat} {x : Giv} {S : Hp} (h : Sat w (pts b (gO x) * S)) : w.cell? ⟨b, 0, none⟩ = some (.slice x.p x.n x.cap) ∧ w.cell? ⟨b, 1, none⟩ = some (.int .i64 x.here) ∧ w.cell? ⟨b, 2, none⟩ = some (.int .i64 x.within) :=
  ⟨by rw [cell_at h.get]; rfl, by rw [cell_at h.get]; rfl, by rw [cell_at h.get]; rfl⟩
abbrev coO (cb : Nat) : Obj := .cells #[.pointer (some ⟨cb, 0, none⟩)] 78 (0, 0)
abbrev CellAt (cb : Nat) (lb : Option Addr) (c : Giv) : Hp := pts cb (cellO lb c)
def cnoteB (wasb cbx cb : Nat) (was : Giv) : Hp := pts wasb (gO was) * pts cbx (coO cb)
def cnoteC (wasb cbx : Nat) : Array Value := #[.pointer (some ⟨wasb, 0, none⟩), .pointer (some ⟨cbx, 0, none⟩)]
theorem cell_cells {w : World} {cb : Nat} {lb : Option Addr} {c : Giv} {S : Hp} (h : Sat w (CellAt cb lb c * S)) : w.cell? ⟨cb, 0, none⟩ = some (.pointer lb) ∧ w.cell? ⟨cb, 1, none⟩ = some (.slice c.p c.n c.cap) ∧ w.cell? ⟨cb, 2, none⟩ = some (.int .i64 c.here) ∧ w.cell? ⟨cb, 3, none⟩ = some (.int .i64 c.within) ∧ ∀ i, w.frozen? ⟨cb, i, none⟩ = false :=
  ⟨by rw [cell_at h.get]; rfl, by rw [cell_at h.get]; rfl, by rw [cell_at h.get]; rfl, by rw [cell_at h.get]; rfl, fun i => free_at h.get i⟩
set_option maxRecDepth 100000 in
theorem cset1_calls (wasb cbx cb : Nat) (lb : Option Addr) (c was : Giv) (w : World) (S : Hp) (h : Sat w (cnoteB wasb cbx cb was * (CellAt cb lb c * S))) :
    Calls Tryz.prog 105 (cnoteC wasb cbx) w fun e w' => (∃ v, e = .returned v) ∧ Sat w' (CellAt cb lb was * S) ∧ Ran w w' := by
  unfold cnoteB at h
  have h1 := h.perm (show _ = pts cb (cellO lb c) * (pts wasb (gO was) * (pts cbx (coO cb) * S)) by ac_rfl)
  obtain ⟨c0, c1, c2, c3, cz⟩ := cell_cells h1
  obtain ⟨d0, d2, d3⟩ := g_cells (pull1 h1)
  have d1 := one_cell (pull2 h1)
  have H1 := Lib.hid h1
  unfold cnoteC
  clear h h1
  go_enter Tryz.func105, Tryz.ntmps105
  go_wp2_with fail
  go_end0
  refine ⟨⟨_, rfl⟩, ?_, Ran.set (Ran.set (Ran.set (Below.refl 0 w) _ _) _ _) _ _⟩
  have h2 := ((H1.out.set (i := 1) (.slice was.p was.n was.cap)).set (i := 2) (.int .i64 was.here)).set (i := 3) (.int .i64 was.within)
  exact (h2.perm (show _ = pts wasb (gO was) * (pts cbx (coO cb) * (CellAt cb lb was * S)) by show pts cb (cellO lb was) * _ = _; ac_rfl)).right.right
def CSetSays (lb cb : Nat) (most nest : Int) (fs : List Value) (ms : List Nat) (c v : Giv) (R : Hp) (e : Ending) (w' : World) : Prop :=
  ∃ wasb cbx, e = .returned (.int .i64 (nE most fs ms)) ∧ LogAt w' lb most nest (nF most fs ms (.func (.func 105) #[] (cnoteC wasb cbx))) ms (cnoteB wasb cbx cb c * (CellAt cb (some ⟨lb, 0, none⟩) (if nE most fs ms = 0 then v else c) * R))
set_option maxRecDepth 100000 in
set_option maxHeartbeats 4000000 in
theorem cset_calls (lb cb : Nat) (most nest : Int) (fs : List Value) (ms : List Nat) (c v : Giv) (w : World) (R : Hp) (hb : fs.length ≤ 1000000000) (hms : ms.length ≤ 1000000)
    (h : LogAt w lb most nest fs ms (CellAt cb (some ⟨lb, 0, none⟩) c * R)) :
    Calls Tryz.prog 42 #[.pointer (some ⟨cb, 0, none⟩), (.agg #[.slice (v).p (v).n (v).cap, .int .i64 (v).here, .int .i64 (v).within])] w fun e w' => CSetSays lb cb most nest fs ms c v R e w' ∧ Ran w w' := by
  obtain ⟨np, nc, qp, qc, HL⟩ := h
  have H2 := (((pull3 HL).alloc (coO cb)).alloc (gO v)).alloc (gO c)
  have hsz : (w.alloc (coO cb)).heap.size = w.heap.size + 1 := World.size_alloc _ _
  have hsz2 : ((w.alloc (coO cb)).alloc (gO v)).heap.size = w.heap.size + 2 := by rw [World.size_alloc, hsz]
  rw [hsz2, hsz] at H2
  obtain ⟨c0, c1, c2, c3, cz⟩ := cell_cells (pull2 (((pull3 HL).alloc (coO cb)).alloc (gO v)))
  obtain ⟨y0, y1, y2, y3, yz⟩ := cell_cells (pull3 H2)
  obtain ⟨u0, u1, u2⟩ := g_cells (pull1 H2)
  have Hsz := Lib.hid hsz
  clear HL
  go_enter Tryz.func42, Tryz.ntmps42
  go_wp2_with fail
  have HN : LogAt (((w.alloc (coO cb)).alloc (gO v)).alloc (gO c)) lb most nest fs ms (cnoteB (w.heap.size + 2) w.heap.size cb c * (CellAt cb (some ⟨lb, 0, none⟩) c * (pts (w.heap.size + 1) (gO v) * R))) :=
    ⟨np, nc, qp, qc, H2.perm (by unfold cnoteB; ac_rfl)⟩
  refine (note_any lb most nest fs ms 105 (cnoteC (w.heap.size + 2) w.heap.size) _ _ HN hb hms).mono ?_
  rintro e w1 ⟨rfl, HL, R1⟩
  have R2 : Ran w w1 := Below.trans (Ran.new (Ran.new (Ran.new (Below.refl 0 w) _) _) _) R1
  clear HN H2 R1 hsz hsz2 u0 u1 u2 c0 c1 c2 c3 cz y0 y1 y2 y3 yz
  obtain ⟨fl, hfl⟩ : ∃ f, f = nF most fs ms (.func (.func 105) #[] (cnoteC (w.heap.size + 2) w.heap.size)) := ⟨_, rfl⟩
  rw [← hfl] at HL
  have Hfl := Lib.hid hfl
  clear hfl
  obtain ⟨np, nc, qp, qc, HS⟩ := HL
  unfold cnoteB at HS
  have HC := HS.perm (show _ = CellAt cb (some ⟨lb, 0, none⟩) c * (pts w.heap.size (coO cb) * (pts (w.heap.size + 1) (gO v) * (pts (w.heap.size + 2) (gO c) * (pts lb (logO most nest np fl.length nc qp ms.length qc) * (notes np fl.length nc fl * (marksA qp qc ms * R)))))) by ac_rfl)
  obtain ⟨c0, c1, c2, c3, cz⟩ := cell_cells HC
  have d0 := one_cell (pull1 HC)
  obtain ⟨u0, u1, u2⟩ := g_cells (pull2 HC)
  have HC0 := Lib.hid HC
  clear HS HC
  rcases nE_cases most fs ms with hE | hE
  · have HE := Lib.hid hE
    rw [hE]
    clear hE
    go_wp2_with fail
    go_ret
    refine ⟨⟨w.heap.size + 2, w.heap.size, by rw [HE.out]; rfl, ?_⟩, Ran.set (Ran.set (Ran.set R2 _ _) _ _) _ _⟩
    rw [if_pos HE.out, ← Hfl.out]
    have h2 := ((HC0.out.set (i := 1) (.slice v.p v.n v.cap)).set (i := 2) (.int .i64 v.here)).set (i := 3) (.int .i64 v.within)
    exact ⟨np, nc, qp, qc, (h2.perm (show _ = pts (w.heap.size + 1) (gO v) * (pts lb (logO most nest np fl.length nc qp ms.length qc) * (notes np fl.length nc fl * (marksA qp qc ms * (cnoteB (w.heap.size + 2) w.heap.size cb c * (CellAt cb (some ⟨lb, 0, none⟩) v * R))))) by unfold cnoteB CellAt; show pts cb (cellO (some ⟨lb, 0, none⟩) v) * _ = _; ac_rfl)).right⟩
  · have HE := Lib.hid hE
    rw [hE]
    clear hE
    go_wp2_with fail
    go_ret
    refine ⟨⟨w.heap.size + 2, w.heap.size, by rw [HE.out]; rfl, ?_⟩, R2⟩
    rw [if_neg (by rw [HE.out]; decide), ← Hfl.out]
    exact ⟨np, nc, qp, qc, (HC0.out.perm (show _ = pts (w.heap.size + 1) (gO v) * (pts lb (logO most nest np fl.length nc qp ms.length qc) * (notes np fl.length nc fl * (marksA qp qc ms * (cnoteB (w.heap.size + 2) w.heap.size cb c * (CellAt cb (some ⟨lb, 0, none⟩) c * R))))) by unfold cnoteB; ac_rfl)).right⟩
theorem cget_calls (cb : Nat) (lb : Option Addr) (c : Giv) (w : World) (S : Hp) (h : Sat w (CellAt cb lb c * S)) :
    Calls Tryz.prog 106 #[.pointer (some ⟨cb, 0, none⟩)] w fun e w' => e = .returned (.agg #[.slice c.p c.n c.cap, .int .i64 c.here, .int .i64 c.within]) ∧ Below w.heap.size w w' := by
  have H1 := h.alloc (gO ⟨none, 0, 0, 0, 0, []⟩)
  obtain ⟨c0, c1, c2, c3, cz⟩ := cell_cells (pull1 H1)
  obtain ⟨r0, r1, r2⟩ := g_cells (h.alloc (gO c))
  clear h H1
  go_enter Tryz.func106, Tryz.ntmps106
  go_wp2_with fail
  refine bodyPost_ret (v := .agg #[.slice c.p c.n c.cap, .int .i64 c.here, .int .i64 c.within]) (by simp [results, Tryz.results106, go_sem, r0, r1, r2]) rfl ⟨rfl, ?_⟩
  exact (Below.refl _ _).alloc (Nat.le_refl _) _
theorem newcell_calls (lb : Option Addr) (c : Giv) (w : World) (S : Hp) (h : Sat w S) :
    Calls Tryz.prog 64 #[.pointer lb, (.agg #[.slice (c).p (c).n (c).cap, .int .i64 (c).here, .int .i64 (c).within])] w fun e w' => ∃ cb, e = .returned (.pointer (some ⟨cb, 0, none⟩)) ∧ Sat w' (CellAt cb lb c * S) ∧ Ran w w' := by
  have h1 := h.alloc (gO c)
  have H2 := Lib.hid (pull1 (h1.alloc (cellO lb c))).right
  obtain ⟨u0, u1, u2⟩ := g_cells h1
  have hsz : (w.alloc (gO c)).heap.size = w.heap.size + 1 := World.size_alloc _ _
  clear h h1
  go_enter Tryz.func64, Tryz.ntmps64
  go_wp2_with fail
  go_ret
  rw [← hsz]
  exact ⟨_, rfl, H2.out, Ran.new (Ran.new (Below.refl 0 w) _) _⟩
end Go.Proofs.YtlmjidandjemjaaGreatDoor.Undo.GC
namespace Go.Proofs.YtlmjidandjemjaaGreatDoor.Undo
open Go.RowKit Go.Proofs.YtlmjidandjemjaaGreatDoor Go.Proofs.YtlmjidandjemjaaGreatDoor.Hp
set_option linter.unusedVariables false

/-- Things of a log: their notes, what they know, where it lies (B: how often at most something was laid), what a note does. -/
structure Lay (ρ σ : Type) where
  val : ρ → Value
  own : ρ → Hp
  lies : Nat → σ → Hp
  back : σ → ρ → σ
  ok : ρ → Prop
  more : ∀ {w : World} {s : σ} {S : Hp} {B B' : Nat}, Sat w (lies B s * S) → B ≤ B' → Sat w (lies B' s * S)
  eff : ∀ r, ok r → ∃ k cs, val r = .func (.func k) #[] cs ∧ Enters Tryz.prog k ∧ ∀ (B : Nat) (s : σ) (S : Hp) (W : World), B < maxLen → Sat W (own r * (lies B s * S)) → Calls Tryz.prog k cs W fun e W' => (∃ v, e = .returned v) ∧ Sat W' (lies (B + 1) (back s r) * S) ∧ Ran W W'
variable {ρ σ : Type} {Y : Lay ρ σ}
/-- What there is behind the notes from the i-th on. -/
def undone (Y : Lay ρ σ) (rs : List ρ) (s : σ) (i : Nat) : σ := (rs.drop i).foldr (fun r s => Y.back s r) s
theorem undone_len (rs : List ρ) (s : σ) : undone Y rs s rs.length = s := by simp [undone]
theorem undone_step (rs : List ρ) (s : σ) (i : Nat) (h : i < rs.length) : undone Y rs s i = Y.back (undone Y rs s (i + 1)) rs[i] := by
  unfold undone
  rw [List.drop_eq_getElem_cons h, List.foldr_cons]
/-- The states ahead of the notes are what undoing comes to. -/
def Chain (Y : Lay ρ σ) (rs : List ρ) (hist : List σ) (s : σ) : Prop := rs.length = hist.length ∧ ∀ i (h : i < hist.length), undone Y rs s i = hist[i]
theorem chain_nil (s : σ) : Chain Y [] [] s := ⟨rfl, fun i h => absurd h (Nat.not_lt_zero i)⟩
theorem chain_snoc {rs : List ρ} {hist : List σ} {s s' : σ} {r : ρ} (h : Chain Y rs hist s) (hr : Y.back s' r = s) : Chain Y (rs ++ [r]) (hist ++ [s]) s' := by
  refine ⟨by simp [h.1], fun i hi => ?_⟩
  have hl := h.1
  have e : undone Y (rs ++ [r]) s' i = undone Y rs s i := by
    unfold undone
    rw [List.drop_append_of_le_length (by simp at hi; omega), List.foldr_append]
    simp only [List.foldr_cons, List.foldr_nil, hr]
  rw [e]
  by_cases c : i < hist.length
  · rw [h.2 i c, List.getElem_append_left c]
  · have : i = rs.length := by simp at hi; omega
    subst this
    rw [undone_len, List.getElem_append_right (by omega)]
    simp [hl]
theorem chain_take {rs : List ρ} {hist : List σ} {s : σ} (h : Chain Y rs hist s) {m : Nat} (hm : m ≤ rs.length) : Chain Y (rs.take m) (hist.take m) (undone Y rs s m) := by
  refine ⟨by simp [h.1], fun i hi => ?_⟩
  have hi2 : i < hist.length := by simp at hi; omega
  have him : i < m := by simp at hi; omega
  rw [List.getElem_take, ← h.2 i hi2]
  unfold undone
  have e : rs.drop i = (rs.take m).drop i ++ rs.drop m := by
    rw [← List.drop_append_of_le_length (by simp; omega), List.take_append_drop]
  rw [e, List.foldr_append]
/-- Marks (the last one first) of a log with n notes. -/
def Marked : Nat → List Nat → Prop
  | n, [] => n = 0
  | n, m :: l => m ≤ n ∧ Marked m l
theorem marked_more {n : Nat} {ms : List Nat} (h : Marked n ms.reverse) (hm : ms ≠ []) : Marked (n + 1) ms.reverse := by
  cases e : ms.reverse with
  | nil => simp at e; exact absurd e hm
  | cons m l => rw [e] at h; exact ⟨Nat.le_succ_of_le h.1, h.2⟩
theorem marked_mark {n : Nat} {ms : List Nat} (h : Marked n ms.reverse) : Marked n (ms ++ [n]).reverse := by
  rw [List.reverse_append]; exact ⟨Nat.le_refl _, h⟩
theorem marked_undo {n m : Nat} {ms : List Nat} (h : Marked n (ms ++ [m]).reverse) : m ≤ n ∧ Marked m ms.reverse := by
  rw [List.reverse_append] at h; exact h
/-- A log and its things; hist: what was ahead of each note; N: a bound. -/
def Things (Y : Lay ρ σ) (w : World) (lb : Nat) (most nest : Int) (hist : List σ) (ms : List Nat) (N : Nat) (s : σ) (R : Hp) : Prop :=
  ∃ rs B, Marked hist.length ms.reverse ∧ Chain Y rs hist s ∧ (∀ r ∈ rs, Y.ok r) ∧ B + hist.length ≤ N ∧ LogAt w lb most nest (rs.map Y.val) ms (all Y.own rs * (Y.lies B s * R))
theorem LogAt.perm {w : World} {lb : Nat} {most nest : Int} {fs : List Value} {ms : List Nat} {R R' : Hp} (h : LogAt w lb most nest fs ms R) (e : R = R') : LogAt w lb most nest fs ms R' := e ▸ h
theorem LogAt.right {w : World} {lb : Nat} {most nest : Int} {fs : List Value} {ms : List Nat} {A R : Hp} (h : LogAt w lb most nest fs ms (A * R)) : LogAt w lb most nest fs ms R := by
  obtain ⟨np, nc, mp, mc, HS⟩ := h
  exact ⟨np, nc, mp, mc, (pull3 HS).right⟩
theorem LogAt.rest {w : World} {lb : Nat} {most nest : Int} {fs : List Value} {ms : List Nat} {R : Hp} (h : LogAt w lb most nest fs ms R) : Sat w R := by
  obtain ⟨np, nc, mp, mc, HS⟩ := h
  exact HS.right.right.right
theorem LogAt.alloc {w : World} {lb : Nat} {most nest : Int} {fs : List Value} {ms : List Nat} {R : Hp} (h : LogAt w lb most nest fs ms R) (o : Obj) : LogAt (w.alloc o) lb most nest fs ms (pts w.heap.size o * R) := by
  obtain ⟨np, nc, mp, mc, HS⟩ := h
  exact ⟨np, nc, mp, mc, (HS.alloc o).perm (by ac_rfl)⟩
section
variable {w w' : World} {lb : Nat} {most nest : Int} {hist : List σ} {ms : List Nat} {N : Nat} {s : σ} {R R' : Hp}
theorem Things.perm (h : Things Y w lb most nest hist ms N s R) (e : R = R') : Things Y w lb most nest hist ms N s R' := e ▸ h
/-- What is of the log stays as it is where the rest turns. -/
theorem Things.frame (h : Things Y w lb most nest hist ms N s R) : ∃ X : Hp, Sat w (X * R) ∧ ∀ w' R', Sat w' (X * R') → Things Y w' lb most nest hist ms N s R' := by
  obtain ⟨rs, B, h0, h1, h2, h3, np, nc, mp, mc, HS⟩ := h
  refine ⟨pts lb (logO most nest np (rs.map Y.val).length nc mp ms.length mc) * (notes np (rs.map Y.val).length nc (rs.map Y.val) * (marksA mp mc ms * (all Y.own rs * Y.lies B s))), HS.perm (by ac_rfl), fun w' R' H => ⟨rs, B, h0, h1, h2, h3, np, nc, mp, mc, H.perm (by ac_rfl)⟩⟩
theorem Things.rest (h : Things Y w lb most nest hist ms N s R) : Sat w R := by
  obtain ⟨X, h1, _⟩ := h.frame
  exact h1.right
theorem Things.alloc (h : Things Y w lb most nest hist ms N s R) (o : Obj) : Things Y (w.alloc o) lb most nest hist ms N s (pts w.heap.size o * R) := by
  obtain ⟨X, h1, h2⟩ := h.frame
  exact h2 _ _ ((h1.alloc o).perm (by ac_rfl))
theorem Things.below (h : Things Y w lb most nest hist ms N s R) (hb : Below w.heap.size w w') : Things Y w' lb most nest hist ms N s R := by
  obtain ⟨X, h1, h2⟩ := h.frame
  exact h2 _ _ (h1.below hb)
theorem Things.right {A : Hp} (h : Things Y w lb most nest hist ms N s (A * R)) : Things Y w lb most nest hist ms N s R := by
  obtain ⟨X, h1, h2⟩ := h.frame
  exact h2 _ _ (h1.perm (show _ = A * (X * R) by ac_rfl)).right
theorem Things.drew (h : Things Y w lb most nest hist ms N s R) : Things Y w.drew lb most nest hist ms N s R := by
  obtain ⟨X, h1, h2⟩ := h.frame
  exact h2 _ _ h1.drew
theorem Things.drewN (h : Things Y w lb most nest hist ms N s R) (n : Nat) : Things Y (w.drewN n) lb most nest hist ms N s R := by
  obtain ⟨X, h1, h2⟩ := h.frame
  exact h2 _ _ (h1.drewN n)
theorem Things.more {N' : Nat} (h : Things Y w lb most nest hist ms N s R) (hN : N ≤ N') : Things Y w lb most nest hist ms N' s R := by
  obtain ⟨rs, B, h0, h1, h2, h3, H⟩ := h
  exact ⟨rs, B, h0, h1, h2, Nat.le_trans h3 hN, H⟩
/-- What the things are, to be read. -/
theorem Things.lies (h : Things Y w lb most nest hist ms N s R) : ∃ B S, B + hist.length ≤ N ∧ Sat w (Y.lies B s * S) := by
  obtain ⟨rs, B, h0, h1, h2, h3, HL⟩ := h
  exact ⟨B, _, h3, HL.rest.perm (show _ = Y.lies B s * (all Y.own rs * R) by ac_rfl)⟩
theorem Things.frame2 (h : Things Y w lb most nest hist ms N s R) : ∃ (B : Nat) (X : Hp), B + hist.length ≤ N ∧ Sat w (Y.lies B s * (X * R)) ∧ ∀ w' R', Sat w' (Y.lies B s * (X * R')) → Things Y w' lb most nest hist ms N s R' := by
  obtain ⟨rs, B, h0, h1, h2, h3, np, nc, mp, mc, HS⟩ := h
  refine ⟨B, pts lb (logO most nest np (rs.map Y.val).length nc mp ms.length mc) * (notes np (rs.map Y.val).length nc (rs.map Y.val) * (marksA mp mc ms * all Y.own rs)), h3, HS.perm (by ac_rfl), fun w' R' H => ⟨rs, B, h0, h1, h2, h3, np, nc, mp, mc, H.perm (by ac_rfl)⟩⟩
theorem Things.marked (h : Things Y w lb most nest hist ms N s R) : Marked hist.length ms.reverse := by
  obtain ⟨rs, B, h0, h1, h2, h3, HL⟩ := h
  exact h0
end
/-- What a call answers that lays a note; what was ahead of each note then. -/
def tE (most : Int) (hist : List σ) (ms : List Nat) : Int := if ms = [] then 0 else if (hist.length : Int) < most then 0 else 43
def tH (most : Int) (hist : List σ) (ms : List Nat) (s : σ) : List σ := if ms = [] then hist else if (hist.length : Int) < most then hist ++ [s] else hist
theorem tE_eq (most : Int) (fs : List Value) (hist : List σ) (ms : List Nat) (h : fs.length = hist.length) : nE most fs ms = tE most hist ms := by unfold nE tE; rw [h]
theorem tE_cases (most : Int) (hist : List σ) (ms : List Nat) : tE most hist ms = 0 ∨ tE most hist ms = 43 := by
  unfold tE
  by_cases h : ms = []
  · rw [if_pos h]; exact .inl rfl
  · rw [if_neg h]
    by_cases h2 : (hist.length : Int) < most
    · rw [if_pos h2]; exact .inl rfl
    · rw [if_neg h2]; exact .inr rfl
theorem tH_mem {most : Int} {hist : List σ} {ms : List Nat} {s x : σ} (h : x ∈ tH most hist ms s) : x ∈ hist ∨ x = s := by
  unfold tH at h
  by_cases c : ms = []
  · rw [if_pos c] at h; exact .inl h
  · rw [if_neg c] at h
    by_cases h2 : (hist.length : Int) < most
    · rw [if_pos h2] at h
      rcases List.mem_append.1 h with h | h
      · exact .inl h
      · exact .inr (List.mem_singleton.1 h)
    · rw [if_neg h2] at h; exact .inl h
/-- What a call needs that lays a note, and what it gives back. -/
theorem Things.noting {w : World} {lb : Nat} {most nest : Int} {hist : List σ} {ms : List Nat} {N : Nat} {s : σ} {R : Hp} (h : Things Y w lb most nest hist ms N s R) :
    ∃ fs A B, fs.length = hist.length ∧ B + hist.length ≤ N ∧ LogAt w lb most nest fs ms (Y.lies B s * (A * R)) ∧
      ∀ (r : ρ) (s2 : σ) (w' : World) (R' : Hp), Y.ok r → Y.back s2 r = s → LogAt w' lb most nest (nF most fs ms (Y.val r)) ms (Y.own r * (Y.lies (B + 1) (if tE most hist ms = 0 then s2 else s) * (A * R'))) →
        Things Y w' lb most nest (tH most hist ms s) ms (N + 2) (if tE most hist ms = 0 then s2 else s) R' := by
  obtain ⟨rs, B, h0, h1, h2, h3, HL⟩ := h
  have hl := h1.1
  refine ⟨rs.map Y.val, all Y.own rs, B, by rw [List.length_map]; exact hl, h3, HL.perm (by ac_rfl), fun r s2 w' R' hr hb h => ?_⟩
  unfold nF at h
  unfold tH tE at *
  rw [List.length_map, hl] at h
  by_cases c : ms = []
  · subst c
    simp only [if_true] at h ⊢
    have e : hist = [] := List.eq_nil_of_length_eq_zero h0
    subst e
    have e : rs = [] := List.eq_nil_of_length_eq_zero hl
    subst e
    exact ⟨[], B + 1, rfl, chain_nil _, by simp, by simp at h3 ⊢; omega, (h.perm (by ac_rfl : _ = Y.own r * (all Y.own [] * (Y.lies (B + 1) s2 * R')))).right⟩
  · simp only [if_neg c] at h ⊢
    by_cases d : (hist.length : Int) < most
    · simp only [if_pos d, if_true] at h ⊢
      refine ⟨rs ++ [r], B + 1, ?_, chain_snoc h1 hb, ?_, by simp; omega, ?_⟩
      · rw [List.length_append]; exact marked_more h0 c
      · intro x hx
        rcases List.mem_append.1 hx with hx | hx
        · exact h2 x hx
        · rw [List.mem_singleton] at hx; subst hx; exact hr
      · rw [List.map_append, all_snoc]
        exact h.perm (by ac_rfl)
    · simp only [if_neg d, show ¬ (43 : Int) = 0 by decide, if_false] at h ⊢
      exact ⟨rs, B + 1, h0, h1, h2, by omega, (h.perm (by ac_rfl : _ = Y.own r * (all Y.own rs * (Y.lies (B + 1) s * R')))).right⟩
theorem len_things (lb : Nat) (most nest : Int) (hist : List σ) (ms : List Nat) (N : Nat) (s : σ) (w : World) (R : Hp) (h : Things Y w lb most nest hist ms N s R) :
    Calls Tryz.prog 26 #[.pointer (some ⟨lb, 0, none⟩)] w fun e w' => e = .returned (.int .i64 (ms.length : Int)) ∧ w = w' := by
  obtain ⟨rs, B, h0, h1, h2, h3, HL⟩ := h
  exact marks_calls lb most nest _ ms w _ HL
theorem mark_things (lb : Nat) (most nest : Int) (hist : List σ) (ms : List Nat) (N : Nat) (s : σ) (w : World) (R : Hp) (hl : (ms.length : Int) < nest) (hb : hist.length ≤ 1000000000) (hms : ms.length ≤ 1000000) (h : Things Y w lb most nest hist ms N s R) :
    Calls Tryz.prog 27 #[.pointer (some ⟨lb, 0, none⟩)] w fun e w' => (e = .returned (.tuple #[.int .i64 ((ms.length : Int) + 1), .int .i64 0]) ∧ Things Y w' lb most nest hist (ms ++ [hist.length]) N s R) ∧ Ran w w' := by
  obtain ⟨rs, B, h0, h1, h2, h3, HL⟩ := h
  have hl2 : (rs.map Y.val).length = hist.length := by rw [List.length_map]; exact h1.1
  refine (mark_calls lb most nest _ ms w _ HL hl (by omega) hms).mono ?_
  rintro e w' ⟨rfl, HS, hr⟩
  rw [hl2] at HS
  exact ⟨⟨rfl, rs, B, marked_mark h0, h1, h2, h3, HS⟩, hr⟩
theorem undonone_things (lb : Nat) (most nest : Int) (hist : List σ) (N : Nat) (s : σ) (w : World) (R : Hp) (h : Things Y w lb most nest hist [] N s R) :
    Calls Tryz.prog 28 #[.pointer (some ⟨lb, 0, none⟩)] w fun e w' => (e = .returned (.int .i64 1) ∧ Things Y w' lb most nest hist [] N s R) ∧ Ran w w' := by
  obtain ⟨rs, B, h0, h1, h2, h3, HL⟩ := h
  refine (undo_idle lb most nest _ w _ HL).mono ?_
  rintro e w' ⟨rfl, HS, hr⟩
  exact ⟨⟨rfl, rs, B, h0, h1, h2, h3, HS⟩, hr⟩
/-- What there is between two notes that are undone. -/
def between (Y : Lay ρ σ) (rs : List ρ) (B : Nat) (s : σ) (i : Nat) : Hp := all Y.own (rs.take i) * Y.lies (B + (rs.length - i)) (undone Y rs s i)
theorem effects (rs : List ρ) (B : Nat) (s : σ) (m : Nat) (hok : ∀ r ∈ rs, Y.ok r) (hB : B + rs.length < maxLen) : Effects (between Y rs B s) (rs.map Y.val) m := by
  intro i _ hi
  rw [List.length_map] at hi
  have hri := hok rs[i] (List.getElem_mem hi)
  have hgd : (rs.map Y.val).getD i undef = Y.val rs[i] := by rw [List.getD_eq_getElem?_getD, List.getElem?_map, List.getElem?_eq_getElem hi]; rfl
  have htk : rs.take (i + 1) = rs.take i ++ [rs[i]] := List.take_succ_eq_append_getElem hi
  have hst := undone_step (Y := Y) rs s i hi
  rw [hgd]
  generalize rs[i] = r at *
  have hbd : B + (rs.length - i) = B + (rs.length - (i + 1)) + 1 := by omega
  obtain ⟨k, cs, hv, hen, hef⟩ := Y.eff r hri
  refine ⟨k, cs, hv, hen, fun S W hS => ?_⟩
  unfold between at hS ⊢
  rw [htk, all_snoc] at hS
  refine (hef (B + (rs.length - (i + 1))) (undone Y rs s (i + 1)) (all Y.own (rs.take i) * S) W (by omega) (hS.perm (by ac_rfl))).mono ?_
  rintro e w' ⟨he, hs, hr⟩
  refine ⟨he, ?_, hr⟩
  rw [hst, hbd]
  exact hs.perm (by ac_rfl)
theorem undo_things (lb : Nat) (most nest : Int) (hist : List σ) (ms : List Nat) (m : Nat) (N : Nat) (s : σ) (w : World) (R : Hp) (hb : hist.length ≤ 1000000) (hms : ms.length ≤ 1000000) (hN : N < maxLen) (h : Things Y w lb most nest hist (ms ++ [m]) N s R) :
    Calls Tryz.prog 28 #[.pointer (some ⟨lb, 0, none⟩)] w fun e w' => (e = .returned (.int .i64 0) ∧ Things Y w' lb most nest (hist.take m) ms N ((hist ++ [s]).getD m s) R) ∧ Ran w w' := by
  obtain ⟨rs, B, h0, h1, h2, h3, HL⟩ := h
  have hl := h1.1
  obtain ⟨hm, h0⟩ := marked_undo h0
  have HL2 : LogAt w lb most nest (rs.map Y.val) (ms ++ [m]) (between Y rs B s (rs.map Y.val).length * R) := by
    unfold between
    rw [List.length_map, undone_len, List.take_length, Nat.sub_self, Nat.add_zero]
    exact HL.perm (by ac_rfl)
  refine (undo_calls lb most nest (rs.map Y.val) ms m w _ R HL2 (by rw [List.length_map]; omega) (by rw [List.length_map]; omega) hms (effects rs B s m h2 (by omega))).mono ?_
  rintro e w' ⟨rfl, HS, hr⟩
  have est : undone Y rs s m = (hist ++ [s]).getD m s := by
    by_cases c : m < hist.length
    · rw [h1.2 m c, List.getD_eq_getElem?_getD, List.getElem?_append_left c, List.getElem?_eq_getElem c]; rfl
    · have : m = rs.length := by omega
      subst this
      rw [undone_len, hl, List.getD_eq_getElem?_getD, List.getElem?_append_right (Nat.le_refl _), Nat.sub_self]; rfl
  refine ⟨⟨rfl, rs.take m, B + (rs.length - m), ?_, ?_, fun r hr => h2 r (List.mem_of_mem_take hr), ?_, ?_⟩, hr⟩
  · rw [List.length_take, Nat.min_eq_left hm]; exact h0
  · rw [← est]; exact chain_take h1 (by omega)
  · rw [List.length_take]; omega
  · rw [← est]
    unfold between at HS
    rw [← List.map_take] at HS
    exact HS.perm (by ac_rfl)
end Go.Proofs.YtlmjidandjemjaaGreatDoor.Undo
namespace Go.Proofs.YtlmjidandjemjaaGreatDoor.State
open Go.RowKit Go.Proofs.YtlmjidandjemjaaGreatDoor Go.Proofs.YtlmjidandjemjaaGreatDoor.Hp Go.Proofs.YtlmjidandjemjaaGreatDoor.Undo
set_option linter.unusedVariables false

/-- What a state's log can give back. -/
structure Sta where
  V : ByteArray → Option VM.T
  F : ByteArray → Option NM.T
  A : ByteArray → Option ByteArray
  T : ByteArray → Option ByteArray
  o : ByteArray
  g : GC.Giv
/-- Where its maps and cells lie. -/
structure Pl where
  vb : Nat
  fb : Nat
  ab : Nat
  tb : Nat
  ob : Nat
  gb : Nat
/-- A note. -/
inductive Nt where
  | v (isb wasb mbx kbx : Nat) (k : ByteArray) (o : Option VM.T)
  | f (isb wasb mbx kbx : Nat) (k : ByteArray) (o : Option NM.T)
  | a (isb wasb mbx kbx : Nat) (k : ByteArray) (o : Option SM.T)
  | t (isb wasb mbx kbx : Nat) (k : ByteArray) (o : Option SM.T)
  | o (wasb cbx : Nat) (was : ByteArray)
  | g (wasb cbx : Nat) (was : GC.Giv)
namespace Nt
def val : Nt → Value
  | .v isb wasb mbx kbx _ _ => .func (.func 135) #[] (VM.noteC isb wasb mbx kbx)
  | .f isb wasb mbx kbx _ _ => .func (.func 162) #[] (NM.noteC isb wasb mbx kbx)
  | .a isb wasb mbx kbx _ _ => .func (.func 157) #[] (SM.noteC isb wasb mbx kbx)
  | .t isb wasb mbx kbx _ _ => .func (.func 157) #[] (SM.noteC isb wasb mbx kbx)
  | .o wasb cbx _ => .func (.func 130) #[] (OC.cnoteC wasb cbx)
  | .g wasb cbx _ => .func (.func 105) #[] (GC.cnoteC wasb cbx)
def own (P : Pl) : Nt → Hp
  | .v isb wasb mbx kbx k u => VM.noteB isb wasb mbx kbx P.vb k u
  | .f isb wasb mbx kbx k u => NM.noteB isb wasb mbx kbx P.fb k u
  | .a isb wasb mbx kbx k u => SM.noteB isb wasb mbx kbx P.ab k u
  | .t isb wasb mbx kbx k u => SM.noteB isb wasb mbx kbx P.tb k u
  | .o wasb cbx was => OC.cnoteB wasb cbx P.ob was
  | .g wasb cbx was => GC.cnoteB wasb cbx P.gb was
def back (s : Sta) : Nt → Sta
  | .v _ _ _ _ k u => { s with V := rest s.V k u }
  | .f _ _ _ _ k u => { s with F := rest s.F k u }
  | .a _ _ _ _ k u => { s with A := rest s.A k u }
  | .t _ _ _ _ k u => { s with T := rest s.T k u }
  | .o _ _ was => { s with o := was }
  | .g _ _ was => { s with g := was }
def ok : Nt → Prop
  | .v _ _ _ _ k _ => k.size ≤ maxLen
  | .f _ _ _ _ k _ => k.size ≤ maxLen
  | .a _ _ _ _ k _ => k.size ≤ maxLen
  | .t _ _ _ _ k _ => k.size ≤ maxLen
  | .o _ _ _ => True
  | .g _ _ _ => True
end Nt
def lies (lb : Option Addr) (P : Pl) (B : Nat) (s : Sta) : Hp :=
  VM.MapAt P.vb lb B s.V * (NM.MapAt P.fb lb B s.F * (SM.MapAt P.ab lb B s.A * (SM.MapAt P.tb lb B s.T * (OC.CellAt P.ob lb s.o * (GC.CellAt P.gb lb s.g)))))
theorem lies_more {lb : Option Addr} {P : Pl} {w : World} {s : Sta} {S : Hp} {B B' : Nat} (h : Sat w (lies lb P B s * S)) (hB : B ≤ B') : Sat w (lies lb P B' s * S) := by
  unfold lies at h ⊢
  replace h := (VM.mapAt_more (h.perm (show _ = VM.MapAt P.vb lb B s.V * ((NM.MapAt P.fb lb B s.F * (SM.MapAt P.ab lb B s.A * (SM.MapAt P.tb lb B s.T * (OC.CellAt P.ob lb s.o * (GC.CellAt P.gb lb s.g))))) * S) by ac_rfl)) hB).perm (show _ = (VM.MapAt P.vb lb B' s.V * (NM.MapAt P.fb lb B s.F * (SM.MapAt P.ab lb B s.A * (SM.MapAt P.tb lb B s.T * (OC.CellAt P.ob lb s.o * (GC.CellAt P.gb lb s.g)))))) * S by ac_rfl)
  replace h := (NM.mapAt_more (h.perm (show _ = NM.MapAt P.fb lb B s.F * ((VM.MapAt P.vb lb B' s.V * (SM.MapAt P.ab lb B s.A * (SM.MapAt P.tb lb B s.T * (OC.CellAt P.ob lb s.o * (GC.CellAt P.gb lb s.g))))) * S) by ac_rfl)) hB).perm (show _ = (VM.MapAt P.vb lb B' s.V * (NM.MapAt P.fb lb B' s.F * (SM.MapAt P.ab lb B s.A * (SM.MapAt P.tb lb B s.T * (OC.CellAt P.ob lb s.o * (GC.CellAt P.gb lb s.g)))))) * S by ac_rfl)
  replace h := (SM.mapAt_more (h.perm (show _ = SM.MapAt P.ab lb B s.A * ((VM.MapAt P.vb lb B' s.V * (NM.MapAt P.fb lb B' s.F * (SM.MapAt P.tb lb B s.T * (OC.CellAt P.ob lb s.o * (GC.CellAt P.gb lb s.g))))) * S) by ac_rfl)) hB).perm (show _ = (VM.MapAt P.vb lb B' s.V * (NM.MapAt P.fb lb B' s.F * (SM.MapAt P.ab lb B' s.A * (SM.MapAt P.tb lb B s.T * (OC.CellAt P.ob lb s.o * (GC.CellAt P.gb lb s.g)))))) * S by ac_rfl)
  replace h := (SM.mapAt_more (h.perm (show _ = SM.MapAt P.tb lb B s.T * ((VM.MapAt P.vb lb B' s.V * (NM.MapAt P.fb lb B' s.F * (SM.MapAt P.ab lb B' s.A * (OC.CellAt P.ob lb s.o * (GC.CellAt P.gb lb s.g))))) * S) by ac_rfl)) hB).perm (show _ = (VM.MapAt P.vb lb B' s.V * (NM.MapAt P.fb lb B' s.F * (SM.MapAt P.ab lb B' s.A * (SM.MapAt P.tb lb B' s.T * (OC.CellAt P.ob lb s.o * (GC.CellAt P.gb lb s.g)))))) * S by ac_rfl)
  exact h
theorem enters_v : Enters Tryz.prog 135 := enters_of Tryz.func135 (by kernel_rfl) rfl
theorem enters_f : Enters Tryz.prog 162 := enters_of Tryz.func162 (by kernel_rfl) rfl
theorem enters_a : Enters Tryz.prog 157 := enters_of Tryz.func157 (by kernel_rfl) rfl
theorem enters_t : Enters Tryz.prog 157 := enters_of Tryz.func157 (by kernel_rfl) rfl
theorem enters_o : Enters Tryz.prog 130 := enters_of Tryz.func130 (by kernel_rfl) rfl
theorem enters_g : Enters Tryz.prog 105 := enters_of Tryz.func105 (by kernel_rfl) rfl
theorem eff (lb : Option Addr) (P : Pl) (r : Nt) (hr : r.ok) : ∃ k cs, r.val = .func (.func k) #[] cs ∧ Enters Tryz.prog k ∧ ∀ (B : Nat) (s : Sta) (S : Hp) (W : World), B < maxLen → Sat W (r.own P * (lies lb P B s * S)) → Calls Tryz.prog k cs W fun e W' => (∃ v, e = .returned v) ∧ Sat W' (lies lb P (B + 1) (Nt.back s r) * S) ∧ Ran W W' := by
  cases r with
  | v isb wasb mbx kbx k o =>
    refine ⟨_, _, rfl, enters_v, fun B s S W hB hS => ?_⟩
    refine (VM.note1_calls isb wasb mbx kbx P.vb lb k o B s.V W ((NM.MapAt P.fb lb B s.F * (SM.MapAt P.ab lb B s.A * (SM.MapAt P.tb lb B s.T * (OC.CellAt P.ob lb s.o * (GC.CellAt P.gb lb s.g))))) * S) hr hB trivial (hS.perm (by unfold lies; show VM.noteB isb wasb mbx kbx P.vb k o * _ = _; ac_rfl))).mono ?_
    rintro e w' ⟨he, hs, hr⟩
    refine ⟨he, ?_, hr⟩
    show Sat w' (lies lb P (B + 1) { s with V := rest s.V k o } * S)
    unfold lies
    replace hs := hs.perm (show _ = (VM.MapAt P.vb lb (B + 1) (rest s.V k o) * (NM.MapAt P.fb lb B s.F * (SM.MapAt P.ab lb B s.A * (SM.MapAt P.tb lb B s.T * (OC.CellAt P.ob lb s.o * (GC.CellAt P.gb lb s.g)))))) * S by ac_rfl)
    replace hs := (NM.mapAt_more (hs.perm (show _ = NM.MapAt P.fb lb B s.F * ((VM.MapAt P.vb lb (B + 1) (rest s.V k o) * (SM.MapAt P.ab lb B s.A * (SM.MapAt P.tb lb B s.T * (OC.CellAt P.ob lb s.o * (GC.CellAt P.gb lb s.g))))) * S) by ac_rfl)) (Nat.le_succ B)).perm (show _ = (VM.MapAt P.vb lb (B + 1) (rest s.V k o) * (NM.MapAt P.fb lb (B + 1) s.F * (SM.MapAt P.ab lb B s.A * (SM.MapAt P.tb lb B s.T * (OC.CellAt P.ob lb s.o * (GC.CellAt P.gb lb s.g)))))) * S by ac_rfl)
    replace hs := (SM.mapAt_more (hs.perm (show _ = SM.MapAt P.ab lb B s.A * ((VM.MapAt P.vb lb (B + 1) (rest s.V k o) * (NM.MapAt P.fb lb (B + 1) s.F * (SM.MapAt P.tb lb B s.T * (OC.CellAt P.ob lb s.o * (GC.CellAt P.gb lb s.g))))) * S) by ac_rfl)) (Nat.le_succ B)).perm (show _ = (VM.MapAt P.vb lb (B + 1) (rest s.V k o) * (NM.MapAt P.fb lb (B + 1) s.F * (SM.MapAt P.ab lb (B + 1) s.A * (SM.MapAt P.tb lb B s.T * (OC.CellAt P.ob lb s.o * (GC.CellAt P.gb lb s.g)))))) * S by ac_rfl)
    replace hs := (SM.mapAt_more (hs.perm (show _ = SM.MapAt P.tb lb B s.T * ((VM.MapAt P.vb lb (B + 1) (rest s.V k o) * (NM.MapAt P.fb lb (B + 1) s.F * (SM.MapAt P.ab lb (B + 1) s.A * (OC.CellAt P.ob lb s.o * (GC.CellAt P.gb lb s.g))))) * S) by ac_rfl)) (Nat.le_succ B)).perm (show _ = (VM.MapAt P.vb lb (B + 1) (rest s.V k o) * (NM.MapAt P.fb lb (B + 1) s.F * (SM.MapAt P.ab lb (B + 1) s.A * (SM.MapAt P.tb lb (B + 1) s.T * (OC.CellAt P.ob lb s.o * (GC.CellAt P.gb lb s.g)))))) * S by ac_rfl)
    exact hs
  | f isb wasb mbx kbx k o =>
    refine ⟨_, _, rfl, enters_f, fun B s S W hB hS => ?_⟩
    refine (NM.note1_calls isb wasb mbx kbx P.fb lb k o B s.F W ((VM.MapAt P.vb lb B s.V * (SM.MapAt P.ab lb B s.A * (SM.MapAt P.tb lb B s.T * (OC.CellAt P.ob lb s.o * (GC.CellAt P.gb lb s.g))))) * S) hr hB trivial (hS.perm (by unfold lies; show NM.noteB isb wasb mbx kbx P.fb k o * _ = _; ac_rfl))).mono ?_
    rintro e w' ⟨he, hs, hr⟩
    refine ⟨he, ?_, hr⟩
    show Sat w' (lies lb P (B + 1) { s with F := rest s.F k o } * S)
    unfold lies
    replace hs := hs.perm (show _ = (VM.MapAt P.vb lb B s.V * (NM.MapAt P.fb lb (B + 1) (rest s.F k o) * (SM.MapAt P.ab lb B s.A * (SM.MapAt P.tb lb B s.T * (OC.CellAt P.ob lb s.o * (GC.CellAt P.gb lb s.g)))))) * S by ac_rfl)
    replace hs := (VM.mapAt_more (hs.perm (show _ = VM.MapAt P.vb lb B s.V * ((NM.MapAt P.fb lb (B + 1) (rest s.F k o) * (SM.MapAt P.ab lb B s.A * (SM.MapAt P.tb lb B s.T * (OC.CellAt P.ob lb s.o * (GC.CellAt P.gb lb s.g))))) * S) by ac_rfl)) (Nat.le_succ B)).perm (show _ = (VM.MapAt P.vb lb (B + 1) s.V * (NM.MapAt P.fb lb (B + 1) (rest s.F k o) * (SM.MapAt P.ab lb B s.A * (SM.MapAt P.tb lb B s.T * (OC.CellAt P.ob lb s.o * (GC.CellAt P.gb lb s.g)))))) * S by ac_rfl)
    replace hs := (SM.mapAt_more (hs.perm (show _ = SM.MapAt P.ab lb B s.A * ((VM.MapAt P.vb lb (B + 1) s.V * (NM.MapAt P.fb lb (B + 1) (rest s.F k o) * (SM.MapAt P.tb lb B s.T * (OC.CellAt P.ob lb s.o * (GC.CellAt P.gb lb s.g))))) * S) by ac_rfl)) (Nat.le_succ B)).perm (show _ = (VM.MapAt P.vb lb (B + 1) s.V * (NM.MapAt P.fb lb (B + 1) (rest s.F k o) * (SM.MapAt P.ab lb (B + 1) s.A * (SM.MapAt P.tb lb B s.T * (OC.CellAt P.ob lb s.o * (GC.CellAt P.gb lb s.g)))))) * S by ac_rfl)
    replace hs := (SM.mapAt_more (hs.perm (show _ = SM.MapAt P.tb lb B s.T * ((VM.MapAt P.vb lb (B + 1) s.V * (NM.MapAt P.fb lb (B + 1) (rest s.F k o) * (SM.MapAt P.ab lb (B + 1) s.A * (OC.CellAt P.ob lb s.o * (GC.CellAt P.gb lb s.g))))) * S) by ac_rfl)) (Nat.le_succ B)).perm (show _ = (VM.MapAt P.vb lb (B + 1) s.V * (NM.MapAt P.fb lb (B + 1) (rest s.F k o) * (SM.MapAt P.ab lb (B + 1) s.A * (SM.MapAt P.tb lb (B + 1) s.T * (OC.CellAt P.ob lb s.o * (GC.CellAt P.gb lb s.g)))))) * S by ac_rfl)
    exact hs
  | a isb wasb mbx kbx k o =>
    refine ⟨_, _, rfl, enters_a, fun B s S W hB hS => ?_⟩
    refine (SM.note1_calls isb wasb mbx kbx P.ab lb k o B s.A W ((VM.MapAt P.vb lb B s.V * (NM.MapAt P.fb lb B s.F * (SM.MapAt P.tb lb B s.T * (OC.CellAt P.ob lb s.o * (GC.CellAt P.gb lb s.g))))) * S) hr hB trivial (hS.perm (by unfold lies; show SM.noteB isb wasb mbx kbx P.ab k o * _ = _; ac_rfl))).mono ?_
    rintro e w' ⟨he, hs, hr⟩
    refine ⟨he, ?_, hr⟩
    show Sat w' (lies lb P (B + 1) { s with A := rest s.A k o } * S)
    unfold lies
    replace hs := hs.perm (show _ = (VM.MapAt P.vb lb B s.V * (NM.MapAt P.fb lb B s.F * (SM.MapAt P.ab lb (B + 1) (rest s.A k o) * (SM.MapAt P.tb lb B s.T * (OC.CellAt P.ob lb s.o * (GC.CellAt P.gb lb s.g)))))) * S by ac_rfl)
    replace hs := (VM.mapAt_more (hs.perm (show _ = VM.MapAt P.vb lb B s.V * ((NM.MapAt P.fb lb B s.F * (SM.MapAt P.ab lb (B + 1) (rest s.A k o) * (SM.MapAt P.tb lb B s.T * (OC.CellAt P.ob lb s.o * (GC.CellAt P.gb lb s.g))))) * S) by ac_rfl)) (Nat.le_succ B)).perm (show _ = (VM.MapAt P.vb lb (B + 1) s.V * (NM.MapAt P.fb lb B s.F * (SM.MapAt P.ab lb (B + 1) (rest s.A k o) * (SM.MapAt P.tb lb B s.T * (OC.CellAt P.ob lb s.o * (GC.CellAt P.gb lb s.g)))))) * S by ac_rfl)
    replace hs := (NM.mapAt_more (hs.perm (show _ = NM.MapAt P.fb lb B s.F * ((VM.MapAt P.vb lb (B + 1) s.V * (SM.MapAt P.ab lb (B + 1) (rest s.A k o) * (SM.MapAt P.tb lb B s.T * (OC.CellAt P.ob lb s.o * (GC.CellAt P.gb lb s.g))))) * S) by ac_rfl)) (Nat.le_succ B)).perm (show _ = (VM.MapAt P.vb lb (B + 1) s.V * (NM.MapAt P.fb lb (B + 1) s.F * (SM.MapAt P.ab lb (B + 1) (rest s.A k o) * (SM.MapAt P.tb lb B s.T * (OC.CellAt P.ob lb s.o * (GC.CellAt P.gb lb s.g)))))) * S by ac_rfl)
    replace hs := (SM.mapAt_more (hs.perm (show _ = SM.MapAt P.tb lb B s.T * ((VM.MapAt P.vb lb (B + 1) s.V * (NM.MapAt P.fb lb (B + 1) s.F * (SM.MapAt P.ab lb (B + 1) (rest s.A k o) * (OC.CellAt P.ob lb s.o * (GC.CellAt P.gb lb s.g))))) * S) by ac_rfl)) (Nat.le_succ B)).perm (show _ = (VM.MapAt P.vb lb (B + 1) s.V * (NM.MapAt P.fb lb (B + 1) s.F * (SM.MapAt P.ab lb (B + 1) (rest s.A k o) * (SM.MapAt P.tb lb (B + 1) s.T * (OC.CellAt P.ob lb s.o * (GC.CellAt P.gb lb s.g)))))) * S by ac_rfl)
    exact hs
  | t isb wasb mbx kbx k o =>
    refine ⟨_, _, rfl, enters_t, fun B s S W hB hS => ?_⟩
    refine (SM.note1_calls isb wasb mbx kbx P.tb lb k o B s.T W ((VM.MapAt P.vb lb B s.V * (NM.MapAt P.fb lb B s.F * (SM.MapAt P.ab lb B s.A * (OC.CellAt P.ob lb s.o * (GC.CellAt P.gb lb s.g))))) * S) hr hB trivial (hS.perm (by unfold lies; show SM.noteB isb wasb mbx kbx P.tb k o * _ = _; ac_rfl))).mono ?_
    rintro e w' ⟨he, hs, hr⟩
    refine ⟨he, ?_, hr⟩
    show Sat w' (lies lb P (B + 1) { s with T := rest s.T k o } * S)
    unfold lies
    replace hs := hs.perm (show _ = (VM.MapAt P.vb lb B s.V * (NM.MapAt P.fb lb B s.F * (SM.MapAt P.ab lb B s.A * (SM.MapAt P.tb lb (B + 1) (rest s.T k o) * (OC.CellAt P.ob lb s.o * (GC.CellAt P.gb lb s.g)))))) * S by ac_rfl)
    replace hs := (VM.mapAt_more (hs.perm (show _ = VM.MapAt P.vb lb B s.V * ((NM.MapAt P.fb lb B s.F * (SM.MapAt P.ab lb B s.A * (SM.MapAt P.tb lb (B + 1) (rest s.T k o) * (OC.CellAt P.ob lb s.o * (GC.CellAt P.gb lb s.g))))) * S) by ac_rfl)) (Nat.le_succ B)).perm (show _ = (VM.MapAt P.vb lb (B + 1) s.V * (NM.MapAt P.fb lb B s.F * (SM.MapAt P.ab lb B s.A * (SM.MapAt P.tb lb (B + 1) (rest s.T k o) * (OC.CellAt P.ob lb s.o * (GC.CellAt P.gb lb s.g)))))) * S by ac_rfl)
    replace hs := (NM.mapAt_more (hs.perm (show _ = NM.MapAt P.fb lb B s.F * ((VM.MapAt P.vb lb (B + 1) s.V * (SM.MapAt P.ab lb B s.A * (SM.MapAt P.tb lb (B + 1) (rest s.T k o) * (OC.CellAt P.ob lb s.o * (GC.CellAt P.gb lb s.g))))) * S) by ac_rfl)) (Nat.le_succ B)).perm (show _ = (VM.MapAt P.vb lb (B + 1) s.V * (NM.MapAt P.fb lb (B + 1) s.F * (SM.MapAt P.ab lb B s.A * (SM.MapAt P.tb lb (B + 1) (rest s.T k o) * (OC.CellAt P.ob lb s.o * (GC.CellAt P.gb lb s.g)))))) * S by ac_rfl)
    replace hs := (SM.mapAt_more (hs.perm (show _ = SM.MapAt P.ab lb B s.A * ((VM.MapAt P.vb lb (B + 1) s.V * (NM.MapAt P.fb lb (B + 1) s.F * (SM.MapAt P.tb lb (B + 1) (rest s.T k o) * (OC.CellAt P.ob lb s.o * (GC.CellAt P.gb lb s.g))))) * S) by ac_rfl)) (Nat.le_succ B)).perm (show _ = (VM.MapAt P.vb lb (B + 1) s.V * (NM.MapAt P.fb lb (B + 1) s.F * (SM.MapAt P.ab lb (B + 1) s.A * (SM.MapAt P.tb lb (B + 1) (rest s.T k o) * (OC.CellAt P.ob lb s.o * (GC.CellAt P.gb lb s.g)))))) * S by ac_rfl)
    exact hs
  | o wasb cbx was =>
    refine ⟨_, _, rfl, enters_o, fun B s S W hB hS => ?_⟩
    have hS2 := lies_more (hS.perm (show _ = lies lb P B s * (Nt.own P (.o wasb cbx was) * S) by ac_rfl)) (Nat.le_succ B)
    refine (OC.cset1_calls wasb cbx P.ob lb s.o was W ((VM.MapAt P.vb lb (B + 1) s.V * (NM.MapAt P.fb lb (B + 1) s.F * (SM.MapAt P.ab lb (B + 1) s.A * (SM.MapAt P.tb lb (B + 1) s.T * (GC.CellAt P.gb lb s.g))))) * S) (hS2.perm (by unfold lies; show _ * (OC.cnoteB wasb cbx P.ob was * S) = _; ac_rfl))).mono ?_
    rintro e w' ⟨he, hs, hr⟩
    refine ⟨he, ?_, hr⟩
    show Sat w' (lies lb P (B + 1) { s with o := was } * S)
    unfold lies
    exact hs.perm (by ac_rfl)
  | g wasb cbx was =>
    refine ⟨_, _, rfl, enters_g, fun B s S W hB hS => ?_⟩
    have hS2 := lies_more (hS.perm (show _ = lies lb P B s * (Nt.own P (.g wasb cbx was) * S) by ac_rfl)) (Nat.le_succ B)
    refine (GC.cset1_calls wasb cbx P.gb lb s.g was W ((VM.MapAt P.vb lb (B + 1) s.V * (NM.MapAt P.fb lb (B + 1) s.F * (SM.MapAt P.ab lb (B + 1) s.A * (SM.MapAt P.tb lb (B + 1) s.T * (OC.CellAt P.ob lb s.o))))) * S) (hS2.perm (by unfold lies; show _ * (GC.cnoteB wasb cbx P.gb was * S) = _; ac_rfl))).mono ?_
    rintro e w' ⟨he, hs, hr⟩
    refine ⟨he, ?_, hr⟩
    show Sat w' (lies lb P (B + 1) { s with g := was } * S)
    unfold lies
    exact hs.perm (by ac_rfl)
def lay (lb : Option Addr) (P : Pl) : Lay Nt Sta where
  val := Nt.val
  own := Nt.own P
  lies := lies lb P
  back := Nt.back
  ok := Nt.ok
  more := lies_more
  eff := eff lb P
abbrev StT (w : World) (lb : Nat) (P : Pl) (most nest : Int) (hist : List Sta) (ms : List Nat) (N : Nat) (s : Sta) (R : Hp) : Prop := Things (lay (some ⟨lb, 0, none⟩) P) w lb most nest hist ms N s R
theorem LogAt.imp {w : World} {lb : Nat} {most nest : Int} {fs : List Value} {ms : List Nat} {P Q R : Hp} (h : LogAt w lb most nest fs ms (P * R)) (i : ∀ S, Sat w (P * S) → Sat w (Q * S)) : LogAt w lb most nest fs ms (Q * R) := by
  obtain ⟨np, nc, mp, mc, HS⟩ := h
  exact ⟨np, nc, mp, mc, (i _ (pull3 HS)).perm (by ac_rfl)⟩
section
variable {w : World} {lb : Nat} {P : Pl} {most nest : Int} {hist : List Sta} {ms : List Nat} {N : Nat} {s : Sta} {R : Hp}
theorem StT.atV (h : StT w lb P most nest hist ms N s R) : ∃ B S, B + hist.length ≤ N ∧ Sat w (VM.MapAt P.vb (some ⟨lb, 0, none⟩) B s.V * S) := by
  obtain ⟨B, S, hB, h⟩ := h.lies
  exact ⟨B, (NM.MapAt P.fb (some ⟨lb, 0, none⟩) B s.F * (SM.MapAt P.ab (some ⟨lb, 0, none⟩) B s.A * (SM.MapAt P.tb (some ⟨lb, 0, none⟩) B s.T * (OC.CellAt P.ob (some ⟨lb, 0, none⟩) s.o * (GC.CellAt P.gb (some ⟨lb, 0, none⟩) s.g))))) * S, hB, h.perm (by show lies _ P B s * S = _; unfold lies; ac_rfl)⟩
theorem StT.atF (h : StT w lb P most nest hist ms N s R) : ∃ B S, B + hist.length ≤ N ∧ Sat w (NM.MapAt P.fb (some ⟨lb, 0, none⟩) B s.F * S) := by
  obtain ⟨B, S, hB, h⟩ := h.lies
  exact ⟨B, (VM.MapAt P.vb (some ⟨lb, 0, none⟩) B s.V * (SM.MapAt P.ab (some ⟨lb, 0, none⟩) B s.A * (SM.MapAt P.tb (some ⟨lb, 0, none⟩) B s.T * (OC.CellAt P.ob (some ⟨lb, 0, none⟩) s.o * (GC.CellAt P.gb (some ⟨lb, 0, none⟩) s.g))))) * S, hB, h.perm (by show lies _ P B s * S = _; unfold lies; ac_rfl)⟩
theorem StT.atA (h : StT w lb P most nest hist ms N s R) : ∃ B S, B + hist.length ≤ N ∧ Sat w (SM.MapAt P.ab (some ⟨lb, 0, none⟩) B s.A * S) := by
  obtain ⟨B, S, hB, h⟩ := h.lies
  exact ⟨B, (VM.MapAt P.vb (some ⟨lb, 0, none⟩) B s.V * (NM.MapAt P.fb (some ⟨lb, 0, none⟩) B s.F * (SM.MapAt P.tb (some ⟨lb, 0, none⟩) B s.T * (OC.CellAt P.ob (some ⟨lb, 0, none⟩) s.o * (GC.CellAt P.gb (some ⟨lb, 0, none⟩) s.g))))) * S, hB, h.perm (by show lies _ P B s * S = _; unfold lies; ac_rfl)⟩
theorem StT.atT (h : StT w lb P most nest hist ms N s R) : ∃ B S, B + hist.length ≤ N ∧ Sat w (SM.MapAt P.tb (some ⟨lb, 0, none⟩) B s.T * S) := by
  obtain ⟨B, S, hB, h⟩ := h.lies
  exact ⟨B, (VM.MapAt P.vb (some ⟨lb, 0, none⟩) B s.V * (NM.MapAt P.fb (some ⟨lb, 0, none⟩) B s.F * (SM.MapAt P.ab (some ⟨lb, 0, none⟩) B s.A * (OC.CellAt P.ob (some ⟨lb, 0, none⟩) s.o * (GC.CellAt P.gb (some ⟨lb, 0, none⟩) s.g))))) * S, hB, h.perm (by show lies _ P B s * S = _; unfold lies; ac_rfl)⟩
theorem StT.ato (h : StT w lb P most nest hist ms N s R) : ∃ S, Sat w (OC.CellAt P.ob (some ⟨lb, 0, none⟩) s.o * S) := by
  obtain ⟨B, S, hB, h⟩ := h.lies
  exact ⟨(VM.MapAt P.vb (some ⟨lb, 0, none⟩) B s.V * (NM.MapAt P.fb (some ⟨lb, 0, none⟩) B s.F * (SM.MapAt P.ab (some ⟨lb, 0, none⟩) B s.A * (SM.MapAt P.tb (some ⟨lb, 0, none⟩) B s.T * (GC.CellAt P.gb (some ⟨lb, 0, none⟩) s.g))))) * S, h.perm (by show lies _ P B s * S = _; unfold lies; ac_rfl)⟩
theorem StT.atg (h : StT w lb P most nest hist ms N s R) : ∃ S, Sat w (GC.CellAt P.gb (some ⟨lb, 0, none⟩) s.g * S) := by
  obtain ⟨B, S, hB, h⟩ := h.lies
  exact ⟨(VM.MapAt P.vb (some ⟨lb, 0, none⟩) B s.V * (NM.MapAt P.fb (some ⟨lb, 0, none⟩) B s.F * (SM.MapAt P.ab (some ⟨lb, 0, none⟩) B s.A * (SM.MapAt P.tb (some ⟨lb, 0, none⟩) B s.T * (OC.CellAt P.ob (some ⟨lb, 0, none⟩) s.o))))) * S, h.perm (by show lies _ P B s * S = _; unfold lies; ac_rfl)⟩
end
theorem setV (lb : Nat) (P : Pl) (most nest : Int) (hist : List Sta) (ms : List Nat) (N : Nat) (s : Sta) (k : ByteArray) (v : VM.T) (w : World) (R : Hp) (hk : k.size ≤ maxLen) (hb : hist.length ≤ 1000000000) (hms : ms.length ≤ 1000000) (hN : N < maxLen)
    (h : StT w lb P most nest hist ms N s R) :
    Calls Tryz.prog 46 #[.pointer (some ⟨P.vb, 0, none⟩), .string k, (VM.enc v)] w fun e w' => (e = .returned (.int .i64 (tE most hist ms)) ∧ StT w' lb P most nest (tH most hist ms s) ms (N + 2) (if tE most hist ms = 0 then { s with V := putM s.V k v } else s) R) ∧ Ran w w' := by
  obtain ⟨fs, A, B, hl, hB, HL, hdone⟩ := h.noting
  have HL2 := HL.perm (show _ = VM.MapAt P.vb (some ⟨lb, 0, none⟩) B s.V * ((NM.MapAt P.fb (some ⟨lb, 0, none⟩) B s.F * (SM.MapAt P.ab (some ⟨lb, 0, none⟩) B s.A * (SM.MapAt P.tb (some ⟨lb, 0, none⟩) B s.T * (OC.CellAt P.ob (some ⟨lb, 0, none⟩) s.o * (GC.CellAt P.gb (some ⟨lb, 0, none⟩) s.g))))) * (A * R)) by show lies _ P B s * _ = _; unfold lies; ac_rfl)
  refine (VM.set_calls lb P.vb most nest fs ms k v B s.V w ((NM.MapAt P.fb (some ⟨lb, 0, none⟩) B s.F * (SM.MapAt P.ab (some ⟨lb, 0, none⟩) B s.A * (SM.MapAt P.tb (some ⟨lb, 0, none⟩) B s.T * (OC.CellAt P.ob (some ⟨lb, 0, none⟩) s.o * (GC.CellAt P.gb (some ⟨lb, 0, none⟩) s.g))))) * (A * R)) hk trivial (by omega) hms (by omega) HL2).mono ?_
  rintro e w' ⟨⟨isb, wasb, mbx, kbx, rfl, HS⟩, hr⟩
  rw [tE_eq most _ hist ms hl] at *
  refine ⟨⟨rfl, hdone (.v isb wasb mbx kbx k (s.V k)) { s with V := putM s.V k v } w' R hk ?_ ?_⟩, hr⟩
  · show Sta.mk _ _ _ _ _ _ = _
    rw [rest_put]
  · generalize (tE most hist ms) = tt at *
    obtain ⟨s2, hs2⟩ : ∃ s2 : Sta, s2 = (if tt = 0 then { s with V := putM s.V k v } else s) := ⟨_, rfl⟩
    have hsM : s2.V = (if tt = 0 then putM s.V k v else s.V) := by rw [hs2]; by_cases c : tt = 0 <;> simp only [c, if_true, if_false]
    have hsF : s2.F = s.F := by rw [hs2]; by_cases c : tt = 0 <;> simp only [c, if_true, if_false]
    have hsA : s2.A = s.A := by rw [hs2]; by_cases c : tt = 0 <;> simp only [c, if_true, if_false]
    have hsT : s2.T = s.T := by rw [hs2]; by_cases c : tt = 0 <;> simp only [c, if_true, if_false]
    have hso : s2.o = s.o := by rw [hs2]; by_cases c : tt = 0 <;> simp only [c, if_true, if_false]
    have hsg : s2.g = s.g := by rw [hs2]; by_cases c : tt = 0 <;> simp only [c, if_true, if_false]
    show LogAt w' lb most nest _ ms (VM.noteB isb wasb mbx kbx P.vb k (s.V k) * (lies _ P (B + 1) (if tt = 0 then { s with V := putM s.V k v } else s) * (A * R)))
    rw [← hs2]
    unfold lies
    rw [hsM, hsF, hsA, hsT, hso, hsg]
    replace HS := (LogAt.imp (HS.perm (show _ = NM.MapAt P.fb (some ⟨lb, 0, none⟩) B s.F * (VM.noteB isb wasb mbx kbx P.vb k (s.V k) * (VM.MapAt P.vb (some ⟨lb, 0, none⟩) (B + 1) (if tt = 0 then putM s.V k v else s.V) * ((SM.MapAt P.ab (some ⟨lb, 0, none⟩) B s.A * (SM.MapAt P.tb (some ⟨lb, 0, none⟩) B s.T * (OC.CellAt P.ob (some ⟨lb, 0, none⟩) s.o * (GC.CellAt P.gb (some ⟨lb, 0, none⟩) s.g)))) * (A * R)))) by ac_rfl)) (fun S hS => NM.mapAt_more hS (Nat.le_succ B))).perm (show _ = VM.noteB isb wasb mbx kbx P.vb k (s.V k) * (VM.MapAt P.vb (some ⟨lb, 0, none⟩) (B + 1) (if tt = 0 then putM s.V k v else s.V) * ((NM.MapAt P.fb (some ⟨lb, 0, none⟩) (B + 1) s.F * (SM.MapAt P.ab (some ⟨lb, 0, none⟩) B s.A * (SM.MapAt P.tb (some ⟨lb, 0, none⟩) B s.T * (OC.CellAt P.ob (some ⟨lb, 0, none⟩) s.o * (GC.CellAt P.gb (some ⟨lb, 0, none⟩) s.g))))) * (A * R))) by ac_rfl)
    replace HS := (LogAt.imp (HS.perm (show _ = SM.MapAt P.ab (some ⟨lb, 0, none⟩) B s.A * (VM.noteB isb wasb mbx kbx P.vb k (s.V k) * (VM.MapAt P.vb (some ⟨lb, 0, none⟩) (B + 1) (if tt = 0 then putM s.V k v else s.V) * ((NM.MapAt P.fb (some ⟨lb, 0, none⟩) (B + 1) s.F * (SM.MapAt P.tb (some ⟨lb, 0, none⟩) B s.T * (OC.CellAt P.ob (some ⟨lb, 0, none⟩) s.o * (GC.CellAt P.gb (some ⟨lb, 0, none⟩) s.g)))) * (A * R)))) by ac_rfl)) (fun S hS => SM.mapAt_more hS (Nat.le_succ B))).perm (show _ = VM.noteB isb wasb mbx kbx P.vb k (s.V k) * (VM.MapAt P.vb (some ⟨lb, 0, none⟩) (B + 1) (if tt = 0 then putM s.V k v else s.V) * ((NM.MapAt P.fb (some ⟨lb, 0, none⟩) (B + 1) s.F * (SM.MapAt P.ab (some ⟨lb, 0, none⟩) (B + 1) s.A * (SM.MapAt P.tb (some ⟨lb, 0, none⟩) B s.T * (OC.CellAt P.ob (some ⟨lb, 0, none⟩) s.o * (GC.CellAt P.gb (some ⟨lb, 0, none⟩) s.g))))) * (A * R))) by ac_rfl)
    replace HS := (LogAt.imp (HS.perm (show _ = SM.MapAt P.tb (some ⟨lb, 0, none⟩) B s.T * (VM.noteB isb wasb mbx kbx P.vb k (s.V k) * (VM.MapAt P.vb (some ⟨lb, 0, none⟩) (B + 1) (if tt = 0 then putM s.V k v else s.V) * ((NM.MapAt P.fb (some ⟨lb, 0, none⟩) (B + 1) s.F * (SM.MapAt P.ab (some ⟨lb, 0, none⟩) (B + 1) s.A * (OC.CellAt P.ob (some ⟨lb, 0, none⟩) s.o * (GC.CellAt P.gb (some ⟨lb, 0, none⟩) s.g)))) * (A * R)))) by ac_rfl)) (fun S hS => SM.mapAt_more hS (Nat.le_succ B))).perm (show _ = VM.noteB isb wasb mbx kbx P.vb k (s.V k) * (VM.MapAt P.vb (some ⟨lb, 0, none⟩) (B + 1) (if tt = 0 then putM s.V k v else s.V) * ((NM.MapAt P.fb (some ⟨lb, 0, none⟩) (B + 1) s.F * (SM.MapAt P.ab (some ⟨lb, 0, none⟩) (B + 1) s.A * (SM.MapAt P.tb (some ⟨lb, 0, none⟩) (B + 1) s.T * (OC.CellAt P.ob (some ⟨lb, 0, none⟩) s.o * (GC.CellAt P.gb (some ⟨lb, 0, none⟩) s.g))))) * (A * R))) by ac_rfl)
    exact HS.perm (by ac_rfl)
theorem delV (lb : Nat) (P : Pl) (most nest : Int) (hist : List Sta) (ms : List Nat) (N : Nat) (s : Sta) (k : ByteArray) (w : World) (R : Hp) (hk : k.size ≤ maxLen) (hb : hist.length ≤ 1000000000) (hms : ms.length ≤ 1000000) (hN : N < maxLen) (hsome : (s.V k).isSome = true)
    (h : StT w lb P most nest hist ms N s R) :
    Calls Tryz.prog 49 #[.pointer (some ⟨P.vb, 0, none⟩), .string k] w fun e w' => (e = .returned (.int .i64 (tE most hist ms)) ∧ StT w' lb P most nest (tH most hist ms s) ms (N + 2) (if tE most hist ms = 0 then { s with V := delM s.V k } else s) R) ∧ Ran w w' := by
  obtain ⟨fs, A, B, hl, hB, HL, hdone⟩ := h.noting
  have HL2 := HL.perm (show _ = VM.MapAt P.vb (some ⟨lb, 0, none⟩) B s.V * ((NM.MapAt P.fb (some ⟨lb, 0, none⟩) B s.F * (SM.MapAt P.ab (some ⟨lb, 0, none⟩) B s.A * (SM.MapAt P.tb (some ⟨lb, 0, none⟩) B s.T * (OC.CellAt P.ob (some ⟨lb, 0, none⟩) s.o * (GC.CellAt P.gb (some ⟨lb, 0, none⟩) s.g))))) * (A * R)) by show lies _ P B s * _ = _; unfold lies; ac_rfl)
  refine (VM.del_calls lb P.vb most nest fs ms k B s.V w ((NM.MapAt P.fb (some ⟨lb, 0, none⟩) B s.F * (SM.MapAt P.ab (some ⟨lb, 0, none⟩) B s.A * (SM.MapAt P.tb (some ⟨lb, 0, none⟩) B s.T * (OC.CellAt P.ob (some ⟨lb, 0, none⟩) s.o * (GC.CellAt P.gb (some ⟨lb, 0, none⟩) s.g))))) * (A * R)) hk (by omega) hms (by omega) hsome HL2).mono ?_
  rintro e w' ⟨⟨isb, wasb, mbx, kbx, rfl, HS⟩, hr⟩
  rw [tE_eq most _ hist ms hl] at *
  refine ⟨⟨rfl, hdone (.v isb wasb mbx kbx k (s.V k)) { s with V := delM s.V k } w' R hk ?_ ?_⟩, hr⟩
  · show Sta.mk _ _ _ _ _ _ = _
    rw [rest_del]
  · generalize (tE most hist ms) = tt at *
    obtain ⟨s2, hs2⟩ : ∃ s2 : Sta, s2 = (if tt = 0 then { s with V := delM s.V k } else s) := ⟨_, rfl⟩
    have hsM : s2.V = (if tt = 0 then delM s.V k else s.V) := by rw [hs2]; by_cases c : tt = 0 <;> simp only [c, if_true, if_false]
    have hsF : s2.F = s.F := by rw [hs2]; by_cases c : tt = 0 <;> simp only [c, if_true, if_false]
    have hsA : s2.A = s.A := by rw [hs2]; by_cases c : tt = 0 <;> simp only [c, if_true, if_false]
    have hsT : s2.T = s.T := by rw [hs2]; by_cases c : tt = 0 <;> simp only [c, if_true, if_false]
    have hso : s2.o = s.o := by rw [hs2]; by_cases c : tt = 0 <;> simp only [c, if_true, if_false]
    have hsg : s2.g = s.g := by rw [hs2]; by_cases c : tt = 0 <;> simp only [c, if_true, if_false]
    show LogAt w' lb most nest _ ms (VM.noteB isb wasb mbx kbx P.vb k (s.V k) * (lies _ P (B + 1) (if tt = 0 then { s with V := delM s.V k } else s) * (A * R)))
    rw [← hs2]
    unfold lies
    rw [hsM, hsF, hsA, hsT, hso, hsg]
    replace HS := (LogAt.imp (HS.perm (show _ = NM.MapAt P.fb (some ⟨lb, 0, none⟩) B s.F * (VM.noteB isb wasb mbx kbx P.vb k (s.V k) * (VM.MapAt P.vb (some ⟨lb, 0, none⟩) (B + 1) (if tt = 0 then delM s.V k else s.V) * ((SM.MapAt P.ab (some ⟨lb, 0, none⟩) B s.A * (SM.MapAt P.tb (some ⟨lb, 0, none⟩) B s.T * (OC.CellAt P.ob (some ⟨lb, 0, none⟩) s.o * (GC.CellAt P.gb (some ⟨lb, 0, none⟩) s.g)))) * (A * R)))) by ac_rfl)) (fun S hS => NM.mapAt_more hS (Nat.le_succ B))).perm (show _ = VM.noteB isb wasb mbx kbx P.vb k (s.V k) * (VM.MapAt P.vb (some ⟨lb, 0, none⟩) (B + 1) (if tt = 0 then delM s.V k else s.V) * ((NM.MapAt P.fb (some ⟨lb, 0, none⟩) (B + 1) s.F * (SM.MapAt P.ab (some ⟨lb, 0, none⟩) B s.A * (SM.MapAt P.tb (some ⟨lb, 0, none⟩) B s.T * (OC.CellAt P.ob (some ⟨lb, 0, none⟩) s.o * (GC.CellAt P.gb (some ⟨lb, 0, none⟩) s.g))))) * (A * R))) by ac_rfl)
    replace HS := (LogAt.imp (HS.perm (show _ = SM.MapAt P.ab (some ⟨lb, 0, none⟩) B s.A * (VM.noteB isb wasb mbx kbx P.vb k (s.V k) * (VM.MapAt P.vb (some ⟨lb, 0, none⟩) (B + 1) (if tt = 0 then delM s.V k else s.V) * ((NM.MapAt P.fb (some ⟨lb, 0, none⟩) (B + 1) s.F * (SM.MapAt P.tb (some ⟨lb, 0, none⟩) B s.T * (OC.CellAt P.ob (some ⟨lb, 0, none⟩) s.o * (GC.CellAt P.gb (some ⟨lb, 0, none⟩) s.g)))) * (A * R)))) by ac_rfl)) (fun S hS => SM.mapAt_more hS (Nat.le_succ B))).perm (show _ = VM.noteB isb wasb mbx kbx P.vb k (s.V k) * (VM.MapAt P.vb (some ⟨lb, 0, none⟩) (B + 1) (if tt = 0 then delM s.V k else s.V) * ((NM.MapAt P.fb (some ⟨lb, 0, none⟩) (B + 1) s.F * (SM.MapAt P.ab (some ⟨lb, 0, none⟩) (B + 1) s.A * (SM.MapAt P.tb (some ⟨lb, 0, none⟩) B s.T * (OC.CellAt P.ob (some ⟨lb, 0, none⟩) s.o * (GC.CellAt P.gb (some ⟨lb, 0, none⟩) s.g))))) * (A * R))) by ac_rfl)
    replace HS := (LogAt.imp (HS.perm (show _ = SM.MapAt P.tb (some ⟨lb, 0, none⟩) B s.T * (VM.noteB isb wasb mbx kbx P.vb k (s.V k) * (VM.MapAt P.vb (some ⟨lb, 0, none⟩) (B + 1) (if tt = 0 then delM s.V k else s.V) * ((NM.MapAt P.fb (some ⟨lb, 0, none⟩) (B + 1) s.F * (SM.MapAt P.ab (some ⟨lb, 0, none⟩) (B + 1) s.A * (OC.CellAt P.ob (some ⟨lb, 0, none⟩) s.o * (GC.CellAt P.gb (some ⟨lb, 0, none⟩) s.g)))) * (A * R)))) by ac_rfl)) (fun S hS => SM.mapAt_more hS (Nat.le_succ B))).perm (show _ = VM.noteB isb wasb mbx kbx P.vb k (s.V k) * (VM.MapAt P.vb (some ⟨lb, 0, none⟩) (B + 1) (if tt = 0 then delM s.V k else s.V) * ((NM.MapAt P.fb (some ⟨lb, 0, none⟩) (B + 1) s.F * (SM.MapAt P.ab (some ⟨lb, 0, none⟩) (B + 1) s.A * (SM.MapAt P.tb (some ⟨lb, 0, none⟩) (B + 1) s.T * (OC.CellAt P.ob (some ⟨lb, 0, none⟩) s.o * (GC.CellAt P.gb (some ⟨lb, 0, none⟩) s.g))))) * (A * R))) by ac_rfl)
    exact HS.perm (by ac_rfl)
theorem setF (lb : Nat) (P : Pl) (most nest : Int) (hist : List Sta) (ms : List Nat) (N : Nat) (s : Sta) (k : ByteArray) (v : NM.T) (w : World) (R : Hp) (hk : k.size ≤ maxLen) (hb : hist.length ≤ 1000000000) (hms : ms.length ≤ 1000000) (hN : N < maxLen)
    (h : StT w lb P most nest hist ms N s R) :
    Calls Tryz.prog 110 #[.pointer (some ⟨P.fb, 0, none⟩), .string k, (NM.enc v)] w fun e w' => (e = .returned (.int .i64 (tE most hist ms)) ∧ StT w' lb P most nest (tH most hist ms s) ms (N + 2) (if tE most hist ms = 0 then { s with F := putM s.F k v } else s) R) ∧ Ran w w' := by
  obtain ⟨fs, A, B, hl, hB, HL, hdone⟩ := h.noting
  have HL2 := HL.perm (show _ = NM.MapAt P.fb (some ⟨lb, 0, none⟩) B s.F * ((VM.MapAt P.vb (some ⟨lb, 0, none⟩) B s.V * (SM.MapAt P.ab (some ⟨lb, 0, none⟩) B s.A * (SM.MapAt P.tb (some ⟨lb, 0, none⟩) B s.T * (OC.CellAt P.ob (some ⟨lb, 0, none⟩) s.o * (GC.CellAt P.gb (some ⟨lb, 0, none⟩) s.g))))) * (A * R)) by show lies _ P B s * _ = _; unfold lies; ac_rfl)
  refine (NM.set_calls lb P.fb most nest fs ms k v B s.F w ((VM.MapAt P.vb (some ⟨lb, 0, none⟩) B s.V * (SM.MapAt P.ab (some ⟨lb, 0, none⟩) B s.A * (SM.MapAt P.tb (some ⟨lb, 0, none⟩) B s.T * (OC.CellAt P.ob (some ⟨lb, 0, none⟩) s.o * (GC.CellAt P.gb (some ⟨lb, 0, none⟩) s.g))))) * (A * R)) hk trivial (by omega) hms (by omega) HL2).mono ?_
  rintro e w' ⟨⟨isb, wasb, mbx, kbx, rfl, HS⟩, hr⟩
  rw [tE_eq most _ hist ms hl] at *
  refine ⟨⟨rfl, hdone (.f isb wasb mbx kbx k (s.F k)) { s with F := putM s.F k v } w' R hk ?_ ?_⟩, hr⟩
  · show Sta.mk _ _ _ _ _ _ = _
    rw [rest_put]
  · generalize (tE most hist ms) = tt at *
    obtain ⟨s2, hs2⟩ : ∃ s2 : Sta, s2 = (if tt = 0 then { s with F := putM s.F k v } else s) := ⟨_, rfl⟩
    have hsM : s2.F = (if tt = 0 then putM s.F k v else s.F) := by rw [hs2]; by_cases c : tt = 0 <;> simp only [c, if_true, if_false]
    have hsV : s2.V = s.V := by rw [hs2]; by_cases c : tt = 0 <;> simp only [c, if_true, if_false]
    have hsA : s2.A = s.A := by rw [hs2]; by_cases c : tt = 0 <;> simp only [c, if_true, if_false]
    have hsT : s2.T = s.T := by rw [hs2]; by_cases c : tt = 0 <;> simp only [c, if_true, if_false]
    have hso : s2.o = s.o := by rw [hs2]; by_cases c : tt = 0 <;> simp only [c, if_true, if_false]
    have hsg : s2.g = s.g := by rw [hs2]; by_cases c : tt = 0 <;> simp only [c, if_true, if_false]
    show LogAt w' lb most nest _ ms (NM.noteB isb wasb mbx kbx P.fb k (s.F k) * (lies _ P (B + 1) (if tt = 0 then { s with F := putM s.F k v } else s) * (A * R)))
    rw [← hs2]
    unfold lies
    rw [hsM, hsV, hsA, hsT, hso, hsg]
    replace HS := (LogAt.imp (HS.perm (show _ = VM.MapAt P.vb (some ⟨lb, 0, none⟩) B s.V * (NM.noteB isb wasb mbx kbx P.fb k (s.F k) * (NM.MapAt P.fb (some ⟨lb, 0, none⟩) (B + 1) (if tt = 0 then putM s.F k v else s.F) * ((SM.MapAt P.ab (some ⟨lb, 0, none⟩) B s.A * (SM.MapAt P.tb (some ⟨lb, 0, none⟩) B s.T * (OC.CellAt P.ob (some ⟨lb, 0, none⟩) s.o * (GC.CellAt P.gb (some ⟨lb, 0, none⟩) s.g)))) * (A * R)))) by ac_rfl)) (fun S hS => VM.mapAt_more hS (Nat.le_succ B))).perm (show _ = NM.noteB isb wasb mbx kbx P.fb k (s.F k) * (NM.MapAt P.fb (some ⟨lb, 0, none⟩) (B + 1) (if tt = 0 then putM s.F k v else s.F) * ((VM.MapAt P.vb (some ⟨lb, 0, none⟩) (B + 1) s.V * (SM.MapAt P.ab (some ⟨lb, 0, none⟩) B s.A * (SM.MapAt P.tb (some ⟨lb, 0, none⟩) B s.T * (OC.CellAt P.ob (some ⟨lb, 0, none⟩) s.o * (GC.CellAt P.gb (some ⟨lb, 0, none⟩) s.g))))) * (A * R))) by ac_rfl)
    replace HS := (LogAt.imp (HS.perm (show _ = SM.MapAt P.ab (some ⟨lb, 0, none⟩) B s.A * (NM.noteB isb wasb mbx kbx P.fb k (s.F k) * (NM.MapAt P.fb (some ⟨lb, 0, none⟩) (B + 1) (if tt = 0 then putM s.F k v else s.F) * ((VM.MapAt P.vb (some ⟨lb, 0, none⟩) (B + 1) s.V * (SM.MapAt P.tb (some ⟨lb, 0, none⟩) B s.T * (OC.CellAt P.ob (some ⟨lb, 0, none⟩) s.o * (GC.CellAt P.gb (some ⟨lb, 0, none⟩) s.g)))) * (A * R)))) by ac_rfl)) (fun S hS => SM.mapAt_more hS (Nat.le_succ B))).perm (show _ = NM.noteB isb wasb mbx kbx P.fb k (s.F k) * (NM.MapAt P.fb (some ⟨lb, 0, none⟩) (B + 1) (if tt = 0 then putM s.F k v else s.F) * ((VM.MapAt P.vb (some ⟨lb, 0, none⟩) (B + 1) s.V * (SM.MapAt P.ab (some ⟨lb, 0, none⟩) (B + 1) s.A * (SM.MapAt P.tb (some ⟨lb, 0, none⟩) B s.T * (OC.CellAt P.ob (some ⟨lb, 0, none⟩) s.o * (GC.CellAt P.gb (some ⟨lb, 0, none⟩) s.g))))) * (A * R))) by ac_rfl)
    replace HS := (LogAt.imp (HS.perm (show _ = SM.MapAt P.tb (some ⟨lb, 0, none⟩) B s.T * (NM.noteB isb wasb mbx kbx P.fb k (s.F k) * (NM.MapAt P.fb (some ⟨lb, 0, none⟩) (B + 1) (if tt = 0 then putM s.F k v else s.F) * ((VM.MapAt P.vb (some ⟨lb, 0, none⟩) (B + 1) s.V * (SM.MapAt P.ab (some ⟨lb, 0, none⟩) (B + 1) s.A * (OC.CellAt P.ob (some ⟨lb, 0, none⟩) s.o * (GC.CellAt P.gb (some ⟨lb, 0, none⟩) s.g)))) * (A * R)))) by ac_rfl)) (fun S hS => SM.mapAt_more hS (Nat.le_succ B))).perm (show _ = NM.noteB isb wasb mbx kbx P.fb k (s.F k) * (NM.MapAt P.fb (some ⟨lb, 0, none⟩) (B + 1) (if tt = 0 then putM s.F k v else s.F) * ((VM.MapAt P.vb (some ⟨lb, 0, none⟩) (B + 1) s.V * (SM.MapAt P.ab (some ⟨lb, 0, none⟩) (B + 1) s.A * (SM.MapAt P.tb (some ⟨lb, 0, none⟩) (B + 1) s.T * (OC.CellAt P.ob (some ⟨lb, 0, none⟩) s.o * (GC.CellAt P.gb (some ⟨lb, 0, none⟩) s.g))))) * (A * R))) by ac_rfl)
    exact HS.perm (by ac_rfl)
theorem delF (lb : Nat) (P : Pl) (most nest : Int) (hist : List Sta) (ms : List Nat) (N : Nat) (s : Sta) (k : ByteArray) (w : World) (R : Hp) (hk : k.size ≤ maxLen) (hb : hist.length ≤ 1000000000) (hms : ms.length ≤ 1000000) (hN : N < maxLen) (hsome : (s.F k).isSome = true)
    (h : StT w lb P most nest hist ms N s R) :
    Calls Tryz.prog 111 #[.pointer (some ⟨P.fb, 0, none⟩), .string k] w fun e w' => (e = .returned (.int .i64 (tE most hist ms)) ∧ StT w' lb P most nest (tH most hist ms s) ms (N + 2) (if tE most hist ms = 0 then { s with F := delM s.F k } else s) R) ∧ Ran w w' := by
  obtain ⟨fs, A, B, hl, hB, HL, hdone⟩ := h.noting
  have HL2 := HL.perm (show _ = NM.MapAt P.fb (some ⟨lb, 0, none⟩) B s.F * ((VM.MapAt P.vb (some ⟨lb, 0, none⟩) B s.V * (SM.MapAt P.ab (some ⟨lb, 0, none⟩) B s.A * (SM.MapAt P.tb (some ⟨lb, 0, none⟩) B s.T * (OC.CellAt P.ob (some ⟨lb, 0, none⟩) s.o * (GC.CellAt P.gb (some ⟨lb, 0, none⟩) s.g))))) * (A * R)) by show lies _ P B s * _ = _; unfold lies; ac_rfl)
  refine (NM.del_calls lb P.fb most nest fs ms k B s.F w ((VM.MapAt P.vb (some ⟨lb, 0, none⟩) B s.V * (SM.MapAt P.ab (some ⟨lb, 0, none⟩) B s.A * (SM.MapAt P.tb (some ⟨lb, 0, none⟩) B s.T * (OC.CellAt P.ob (some ⟨lb, 0, none⟩) s.o * (GC.CellAt P.gb (some ⟨lb, 0, none⟩) s.g))))) * (A * R)) hk (by omega) hms (by omega) hsome HL2).mono ?_
  rintro e w' ⟨⟨isb, wasb, mbx, kbx, rfl, HS⟩, hr⟩
  rw [tE_eq most _ hist ms hl] at *
  refine ⟨⟨rfl, hdone (.f isb wasb mbx kbx k (s.F k)) { s with F := delM s.F k } w' R hk ?_ ?_⟩, hr⟩
  · show Sta.mk _ _ _ _ _ _ = _
    rw [rest_del]
  · generalize (tE most hist ms) = tt at *
    obtain ⟨s2, hs2⟩ : ∃ s2 : Sta, s2 = (if tt = 0 then { s with F := delM s.F k } else s) := ⟨_, rfl⟩
    have hsM : s2.F = (if tt = 0 then delM s.F k else s.F) := by rw [hs2]; by_cases c : tt = 0 <;> simp only [c, if_true, if_false]
    have hsV : s2.V = s.V := by rw [hs2]; by_cases c : tt = 0 <;> simp only [c, if_true, if_false]
    have hsA : s2.A = s.A := by rw [hs2]; by_cases c : tt = 0 <;> simp only [c, if_true, if_false]
    have hsT : s2.T = s.T := by rw [hs2]; by_cases c : tt = 0 <;> simp only [c, if_true, if_false]
    have hso : s2.o = s.o := by rw [hs2]; by_cases c : tt = 0 <;> simp only [c, if_true, if_false]
    have hsg : s2.g = s.g := by rw [hs2]; by_cases c : tt = 0 <;> simp only [c, if_true, if_false]
    show LogAt w' lb most nest _ ms (NM.noteB isb wasb mbx kbx P.fb k (s.F k) * (lies _ P (B + 1) (if tt = 0 then { s with F := delM s.F k } else s) * (A * R)))
    rw [← hs2]
    unfold lies
    rw [hsM, hsV, hsA, hsT, hso, hsg]
    replace HS := (LogAt.imp (HS.perm (show _ = VM.MapAt P.vb (some ⟨lb, 0, none⟩) B s.V * (NM.noteB isb wasb mbx kbx P.fb k (s.F k) * (NM.MapAt P.fb (some ⟨lb, 0, none⟩) (B + 1) (if tt = 0 then delM s.F k else s.F) * ((SM.MapAt P.ab (some ⟨lb, 0, none⟩) B s.A * (SM.MapAt P.tb (some ⟨lb, 0, none⟩) B s.T * (OC.CellAt P.ob (some ⟨lb, 0, none⟩) s.o * (GC.CellAt P.gb (some ⟨lb, 0, none⟩) s.g)))) * (A * R)))) by ac_rfl)) (fun S hS => VM.mapAt_more hS (Nat.le_succ B))).perm (show _ = NM.noteB isb wasb mbx kbx P.fb k (s.F k) * (NM.MapAt P.fb (some ⟨lb, 0, none⟩) (B + 1) (if tt = 0 then delM s.F k else s.F) * ((VM.MapAt P.vb (some ⟨lb, 0, none⟩) (B + 1) s.V * (SM.MapAt P.ab (some ⟨lb, 0, none⟩) B s.A * (SM.MapAt P.tb (some ⟨lb, 0, none⟩) B s.T * (OC.CellAt P.ob (some ⟨lb, 0, none⟩) s.o * (GC.CellAt P.gb (some ⟨lb, 0, none⟩) s.g))))) * (A * R))) by ac_rfl)
    replace HS := (LogAt.imp (HS.perm (show _ = SM.MapAt P.ab (some ⟨lb, 0, none⟩) B s.A * (NM.noteB isb wasb mbx kbx P.fb k (s.F k) * (NM.MapAt P.fb (some ⟨lb, 0, none⟩) (B + 1) (if tt = 0 then delM s.F k else s.F) * ((VM.MapAt P.vb (some ⟨lb, 0, none⟩) (B + 1) s.V * (SM.MapAt P.tb (some ⟨lb, 0, none⟩) B s.T * (OC.CellAt P.ob (some ⟨lb, 0, none⟩) s.o * (GC.CellAt P.gb (some ⟨lb, 0, none⟩) s.g)))) * (A * R)))) by ac_rfl)) (fun S hS => SM.mapAt_more hS (Nat.le_succ B))).perm (show _ = NM.noteB isb wasb mbx kbx P.fb k (s.F k) * (NM.MapAt P.fb (some ⟨lb, 0, none⟩) (B + 1) (if tt = 0 then delM s.F k else s.F) * ((VM.MapAt P.vb (some ⟨lb, 0, none⟩) (B + 1) s.V * (SM.MapAt P.ab (some ⟨lb, 0, none⟩) (B + 1) s.A * (SM.MapAt P.tb (some ⟨lb, 0, none⟩) B s.T * (OC.CellAt P.ob (some ⟨lb, 0, none⟩) s.o * (GC.CellAt P.gb (some ⟨lb, 0, none⟩) s.g))))) * (A * R))) by ac_rfl)
    replace HS := (LogAt.imp (HS.perm (show _ = SM.MapAt P.tb (some ⟨lb, 0, none⟩) B s.T * (NM.noteB isb wasb mbx kbx P.fb k (s.F k) * (NM.MapAt P.fb (some ⟨lb, 0, none⟩) (B + 1) (if tt = 0 then delM s.F k else s.F) * ((VM.MapAt P.vb (some ⟨lb, 0, none⟩) (B + 1) s.V * (SM.MapAt P.ab (some ⟨lb, 0, none⟩) (B + 1) s.A * (OC.CellAt P.ob (some ⟨lb, 0, none⟩) s.o * (GC.CellAt P.gb (some ⟨lb, 0, none⟩) s.g)))) * (A * R)))) by ac_rfl)) (fun S hS => SM.mapAt_more hS (Nat.le_succ B))).perm (show _ = NM.noteB isb wasb mbx kbx P.fb k (s.F k) * (NM.MapAt P.fb (some ⟨lb, 0, none⟩) (B + 1) (if tt = 0 then delM s.F k else s.F) * ((VM.MapAt P.vb (some ⟨lb, 0, none⟩) (B + 1) s.V * (SM.MapAt P.ab (some ⟨lb, 0, none⟩) (B + 1) s.A * (SM.MapAt P.tb (some ⟨lb, 0, none⟩) (B + 1) s.T * (OC.CellAt P.ob (some ⟨lb, 0, none⟩) s.o * (GC.CellAt P.gb (some ⟨lb, 0, none⟩) s.g))))) * (A * R))) by ac_rfl)
    exact HS.perm (by ac_rfl)
theorem setA (lb : Nat) (P : Pl) (most nest : Int) (hist : List Sta) (ms : List Nat) (N : Nat) (s : Sta) (k : ByteArray) (v : SM.T) (w : World) (R : Hp) (hk : k.size ≤ maxLen) (hb : hist.length ≤ 1000000000) (hms : ms.length ≤ 1000000) (hN : N < maxLen)
    (h : StT w lb P most nest hist ms N s R) :
    Calls Tryz.prog 99 #[.pointer (some ⟨P.ab, 0, none⟩), .string k, (.string v)] w fun e w' => (e = .returned (.int .i64 (tE most hist ms)) ∧ StT w' lb P most nest (tH most hist ms s) ms (N + 2) (if tE most hist ms = 0 then { s with A := putM s.A k v } else s) R) ∧ Ran w w' := by
  obtain ⟨fs, A, B, hl, hB, HL, hdone⟩ := h.noting
  have HL2 := HL.perm (show _ = SM.MapAt P.ab (some ⟨lb, 0, none⟩) B s.A * ((VM.MapAt P.vb (some ⟨lb, 0, none⟩) B s.V * (NM.MapAt P.fb (some ⟨lb, 0, none⟩) B s.F * (SM.MapAt P.tb (some ⟨lb, 0, none⟩) B s.T * (OC.CellAt P.ob (some ⟨lb, 0, none⟩) s.o * (GC.CellAt P.gb (some ⟨lb, 0, none⟩) s.g))))) * (A * R)) by show lies _ P B s * _ = _; unfold lies; ac_rfl)
  refine (SM.set_calls lb P.ab most nest fs ms k v B s.A w ((VM.MapAt P.vb (some ⟨lb, 0, none⟩) B s.V * (NM.MapAt P.fb (some ⟨lb, 0, none⟩) B s.F * (SM.MapAt P.tb (some ⟨lb, 0, none⟩) B s.T * (OC.CellAt P.ob (some ⟨lb, 0, none⟩) s.o * (GC.CellAt P.gb (some ⟨lb, 0, none⟩) s.g))))) * (A * R)) hk trivial (by omega) hms (by omega) HL2).mono ?_
  rintro e w' ⟨⟨isb, wasb, mbx, kbx, rfl, HS⟩, hr⟩
  rw [tE_eq most _ hist ms hl] at *
  refine ⟨⟨rfl, hdone (.a isb wasb mbx kbx k (s.A k)) { s with A := putM s.A k v } w' R hk ?_ ?_⟩, hr⟩
  · show Sta.mk _ _ _ _ _ _ = _
    rw [rest_put]
  · generalize (tE most hist ms) = tt at *
    obtain ⟨s2, hs2⟩ : ∃ s2 : Sta, s2 = (if tt = 0 then { s with A := putM s.A k v } else s) := ⟨_, rfl⟩
    have hsM : s2.A = (if tt = 0 then putM s.A k v else s.A) := by rw [hs2]; by_cases c : tt = 0 <;> simp only [c, if_true, if_false]
    have hsV : s2.V = s.V := by rw [hs2]; by_cases c : tt = 0 <;> simp only [c, if_true, if_false]
    have hsF : s2.F = s.F := by rw [hs2]; by_cases c : tt = 0 <;> simp only [c, if_true, if_false]
    have hsT : s2.T = s.T := by rw [hs2]; by_cases c : tt = 0 <;> simp only [c, if_true, if_false]
    have hso : s2.o = s.o := by rw [hs2]; by_cases c : tt = 0 <;> simp only [c, if_true, if_false]
    have hsg : s2.g = s.g := by rw [hs2]; by_cases c : tt = 0 <;> simp only [c, if_true, if_false]
    show LogAt w' lb most nest _ ms (SM.noteB isb wasb mbx kbx P.ab k (s.A k) * (lies _ P (B + 1) (if tt = 0 then { s with A := putM s.A k v } else s) * (A * R)))
    rw [← hs2]
    unfold lies
    rw [hsM, hsV, hsF, hsT, hso, hsg]
    replace HS := (LogAt.imp (HS.perm (show _ = VM.MapAt P.vb (some ⟨lb, 0, none⟩) B s.V * (SM.noteB isb wasb mbx kbx P.ab k (s.A k) * (SM.MapAt P.ab (some ⟨lb, 0, none⟩) (B + 1) (if tt = 0 then putM s.A k v else s.A) * ((NM.MapAt P.fb (some ⟨lb, 0, none⟩) B s.F * (SM.MapAt P.tb (some ⟨lb, 0, none⟩) B s.T * (OC.CellAt P.ob (some ⟨lb, 0, none⟩) s.o * (GC.CellAt P.gb (some ⟨lb, 0, none⟩) s.g)))) * (A * R)))) by ac_rfl)) (fun S hS => VM.mapAt_more hS (Nat.le_succ B))).perm (show _ = SM.noteB isb wasb mbx kbx P.ab k (s.A k) * (SM.MapAt P.ab (some ⟨lb, 0, none⟩) (B + 1) (if tt = 0 then putM s.A k v else s.A) * ((VM.MapAt P.vb (some ⟨lb, 0, none⟩) (B + 1) s.V * (NM.MapAt P.fb (some ⟨lb, 0, none⟩) B s.F * (SM.MapAt P.tb (some ⟨lb, 0, none⟩) B s.T * (OC.CellAt P.ob (some ⟨lb, 0, none⟩) s.o * (GC.CellAt P.gb (some ⟨lb, 0, none⟩) s.g))))) * (A * R))) by ac_rfl)
    replace HS := (LogAt.imp (HS.perm (show _ = NM.MapAt P.fb (some ⟨lb, 0, none⟩) B s.F * (SM.noteB isb wasb mbx kbx P.ab k (s.A k) * (SM.MapAt P.ab (some ⟨lb, 0, none⟩) (B + 1) (if tt = 0 then putM s.A k v else s.A) * ((VM.MapAt P.vb (some ⟨lb, 0, none⟩) (B + 1) s.V * (SM.MapAt P.tb (some ⟨lb, 0, none⟩) B s.T * (OC.CellAt P.ob (some ⟨lb, 0, none⟩) s.o * (GC.CellAt P.gb (some ⟨lb, 0, none⟩) s.g)))) * (A * R)))) by ac_rfl)) (fun S hS => NM.mapAt_more hS (Nat.le_succ B))).perm (show _ = SM.noteB isb wasb mbx kbx P.ab k (s.A k) * (SM.MapAt P.ab (some ⟨lb, 0, none⟩) (B + 1) (if tt = 0 then putM s.A k v else s.A) * ((VM.MapAt P.vb (some ⟨lb, 0, none⟩) (B + 1) s.V * (NM.MapAt P.fb (some ⟨lb, 0, none⟩) (B + 1) s.F * (SM.MapAt P.tb (some ⟨lb, 0, none⟩) B s.T * (OC.CellAt P.ob (some ⟨lb, 0, none⟩) s.o * (GC.CellAt P.gb (some ⟨lb, 0, none⟩) s.g))))) * (A * R))) by ac_rfl)
    replace HS := (LogAt.imp (HS.perm (show _ = SM.MapAt P.tb (some ⟨lb, 0, none⟩) B s.T * (SM.noteB isb wasb mbx kbx P.ab k (s.A k) * (SM.MapAt P.ab (some ⟨lb, 0, none⟩) (B + 1) (if tt = 0 then putM s.A k v else s.A) * ((VM.MapAt P.vb (some ⟨lb, 0, none⟩) (B + 1) s.V * (NM.MapAt P.fb (some ⟨lb, 0, none⟩) (B + 1) s.F * (OC.CellAt P.ob (some ⟨lb, 0, none⟩) s.o * (GC.CellAt P.gb (some ⟨lb, 0, none⟩) s.g)))) * (A * R)))) by ac_rfl)) (fun S hS => SM.mapAt_more hS (Nat.le_succ B))).perm (show _ = SM.noteB isb wasb mbx kbx P.ab k (s.A k) * (SM.MapAt P.ab (some ⟨lb, 0, none⟩) (B + 1) (if tt = 0 then putM s.A k v else s.A) * ((VM.MapAt P.vb (some ⟨lb, 0, none⟩) (B + 1) s.V * (NM.MapAt P.fb (some ⟨lb, 0, none⟩) (B + 1) s.F * (SM.MapAt P.tb (some ⟨lb, 0, none⟩) (B + 1) s.T * (OC.CellAt P.ob (some ⟨lb, 0, none⟩) s.o * (GC.CellAt P.gb (some ⟨lb, 0, none⟩) s.g))))) * (A * R))) by ac_rfl)
    exact HS.perm (by ac_rfl)
theorem delA (lb : Nat) (P : Pl) (most nest : Int) (hist : List Sta) (ms : List Nat) (N : Nat) (s : Sta) (k : ByteArray) (w : World) (R : Hp) (hk : k.size ≤ maxLen) (hb : hist.length ≤ 1000000000) (hms : ms.length ≤ 1000000) (hN : N < maxLen) (hsome : (s.A k).isSome = true)
    (h : StT w lb P most nest hist ms N s R) :
    Calls Tryz.prog 101 #[.pointer (some ⟨P.ab, 0, none⟩), .string k] w fun e w' => (e = .returned (.int .i64 (tE most hist ms)) ∧ StT w' lb P most nest (tH most hist ms s) ms (N + 2) (if tE most hist ms = 0 then { s with A := delM s.A k } else s) R) ∧ Ran w w' := by
  obtain ⟨fs, A, B, hl, hB, HL, hdone⟩ := h.noting
  have HL2 := HL.perm (show _ = SM.MapAt P.ab (some ⟨lb, 0, none⟩) B s.A * ((VM.MapAt P.vb (some ⟨lb, 0, none⟩) B s.V * (NM.MapAt P.fb (some ⟨lb, 0, none⟩) B s.F * (SM.MapAt P.tb (some ⟨lb, 0, none⟩) B s.T * (OC.CellAt P.ob (some ⟨lb, 0, none⟩) s.o * (GC.CellAt P.gb (some ⟨lb, 0, none⟩) s.g))))) * (A * R)) by show lies _ P B s * _ = _; unfold lies; ac_rfl)
  refine (SM.del_calls lb P.ab most nest fs ms k B s.A w ((VM.MapAt P.vb (some ⟨lb, 0, none⟩) B s.V * (NM.MapAt P.fb (some ⟨lb, 0, none⟩) B s.F * (SM.MapAt P.tb (some ⟨lb, 0, none⟩) B s.T * (OC.CellAt P.ob (some ⟨lb, 0, none⟩) s.o * (GC.CellAt P.gb (some ⟨lb, 0, none⟩) s.g))))) * (A * R)) hk (by omega) hms (by omega) hsome HL2).mono ?_
  rintro e w' ⟨⟨isb, wasb, mbx, kbx, rfl, HS⟩, hr⟩
  rw [tE_eq most _ hist ms hl] at *
  refine ⟨⟨rfl, hdone (.a isb wasb mbx kbx k (s.A k)) { s with A := delM s.A k } w' R hk ?_ ?_⟩, hr⟩
  · show Sta.mk _ _ _ _ _ _ = _
    rw [rest_del]
  · generalize (tE most hist ms) = tt at *
    obtain ⟨s2, hs2⟩ : ∃ s2 : Sta, s2 = (if tt = 0 then { s with A := delM s.A k } else s) := ⟨_, rfl⟩
    have hsM : s2.A = (if tt = 0 then delM s.A k else s.A) := by rw [hs2]; by_cases c : tt = 0 <;> simp only [c, if_true, if_false]
    have hsV : s2.V = s.V := by rw [hs2]; by_cases c : tt = 0 <;> simp only [c, if_true, if_false]
    have hsF : s2.F = s.F := by rw [hs2]; by_cases c : tt = 0 <;> simp only [c, if_true, if_false]
    have hsT : s2.T = s.T := by rw [hs2]; by_cases c : tt = 0 <;> simp only [c, if_true, if_false]
    have hso : s2.o = s.o := by rw [hs2]; by_cases c : tt = 0 <;> simp only [c, if_true, if_false]
    have hsg : s2.g = s.g := by rw [hs2]; by_cases c : tt = 0 <;> simp only [c, if_true, if_false]
    show LogAt w' lb most nest _ ms (SM.noteB isb wasb mbx kbx P.ab k (s.A k) * (lies _ P (B + 1) (if tt = 0 then { s with A := delM s.A k } else s) * (A * R)))
    rw [← hs2]
    unfold lies
    rw [hsM, hsV, hsF, hsT, hso, hsg]
    replace HS := (LogAt.imp (HS.perm (show _ = VM.MapAt P.vb (some ⟨lb, 0, none⟩) B s.V * (SM.noteB isb wasb mbx kbx P.ab k (s.A k) * (SM.MapAt P.ab (some ⟨lb, 0, none⟩) (B + 1) (if tt = 0 then delM s.A k else s.A) * ((NM.MapAt P.fb (some ⟨lb, 0, none⟩) B s.F * (SM.MapAt P.tb (some ⟨lb, 0, none⟩) B s.T * (OC.CellAt P.ob (some ⟨lb, 0, none⟩) s.o * (GC.CellAt P.gb (some ⟨lb, 0, none⟩) s.g)))) * (A * R)))) by ac_rfl)) (fun S hS => VM.mapAt_more hS (Nat.le_succ B))).perm (show _ = SM.noteB isb wasb mbx kbx P.ab k (s.A k) * (SM.MapAt P.ab (some ⟨lb, 0, none⟩) (B + 1) (if tt = 0 then delM s.A k else s.A) * ((VM.MapAt P.vb (some ⟨lb, 0, none⟩) (B + 1) s.V * (NM.MapAt P.fb (some ⟨lb, 0, none⟩) B s.F * (SM.MapAt P.tb (some ⟨lb, 0, none⟩) B s.T * (OC.CellAt P.ob (some ⟨lb, 0, none⟩) s.o * (GC.CellAt P.gb (some ⟨lb, 0, none⟩) s.g))))) * (A * R))) by ac_rfl)
    replace HS := (LogAt.imp (HS.perm (show _ = NM.MapAt P.fb (some ⟨lb, 0, none⟩) B s.F * (SM.noteB isb wasb mbx kbx P.ab k (s.A k) * (SM.MapAt P.ab (some ⟨lb, 0, none⟩) (B + 1) (if tt = 0 then delM s.A k else s.A) * ((VM.MapAt P.vb (some ⟨lb, 0, none⟩) (B + 1) s.V * (SM.MapAt P.tb (some ⟨lb, 0, none⟩) B s.T * (OC.CellAt P.ob (some ⟨lb, 0, none⟩) s.o * (GC.CellAt P.gb (some ⟨lb, 0, none⟩) s.g)))) * (A * R)))) by ac_rfl)) (fun S hS => NM.mapAt_more hS (Nat.le_succ B))).perm (show _ = SM.noteB isb wasb mbx kbx P.ab k (s.A k) * (SM.MapAt P.ab (some ⟨lb, 0, none⟩) (B + 1) (if tt = 0 then delM s.A k else s.A) * ((VM.MapAt P.vb (some ⟨lb, 0, none⟩) (B + 1) s.V * (NM.MapAt P.fb (some ⟨lb, 0, none⟩) (B + 1) s.F * (SM.MapAt P.tb (some ⟨lb, 0, none⟩) B s.T * (OC.CellAt P.ob (some ⟨lb, 0, none⟩) s.o * (GC.CellAt P.gb (some ⟨lb, 0, none⟩) s.g))))) * (A * R))) by ac_rfl)
    replace HS := (LogAt.imp (HS.perm (show _ = SM.MapAt P.tb (some ⟨lb, 0, none⟩) B s.T * (SM.noteB isb wasb mbx kbx P.ab k (s.A k) * (SM.MapAt P.ab (some ⟨lb, 0, none⟩) (B + 1) (if tt = 0 then delM s.A k else s.A) * ((VM.MapAt P.vb (some ⟨lb, 0, none⟩) (B + 1) s.V * (NM.MapAt P.fb (some ⟨lb, 0, none⟩) (B + 1) s.F * (OC.CellAt P.ob (some ⟨lb, 0, none⟩) s.o * (GC.CellAt P.gb (some ⟨lb, 0, none⟩) s.g)))) * (A * R)))) by ac_rfl)) (fun S hS => SM.mapAt_more hS (Nat.le_succ B))).perm (show _ = SM.noteB isb wasb mbx kbx P.ab k (s.A k) * (SM.MapAt P.ab (some ⟨lb, 0, none⟩) (B + 1) (if tt = 0 then delM s.A k else s.A) * ((VM.MapAt P.vb (some ⟨lb, 0, none⟩) (B + 1) s.V * (NM.MapAt P.fb (some ⟨lb, 0, none⟩) (B + 1) s.F * (SM.MapAt P.tb (some ⟨lb, 0, none⟩) (B + 1) s.T * (OC.CellAt P.ob (some ⟨lb, 0, none⟩) s.o * (GC.CellAt P.gb (some ⟨lb, 0, none⟩) s.g))))) * (A * R))) by ac_rfl)
    exact HS.perm (by ac_rfl)
theorem setT (lb : Nat) (P : Pl) (most nest : Int) (hist : List Sta) (ms : List Nat) (N : Nat) (s : Sta) (k : ByteArray) (v : SM.T) (w : World) (R : Hp) (hk : k.size ≤ maxLen) (hb : hist.length ≤ 1000000000) (hms : ms.length ≤ 1000000) (hN : N < maxLen)
    (h : StT w lb P most nest hist ms N s R) :
    Calls Tryz.prog 99 #[.pointer (some ⟨P.tb, 0, none⟩), .string k, (.string v)] w fun e w' => (e = .returned (.int .i64 (tE most hist ms)) ∧ StT w' lb P most nest (tH most hist ms s) ms (N + 2) (if tE most hist ms = 0 then { s with T := putM s.T k v } else s) R) ∧ Ran w w' := by
  obtain ⟨fs, A, B, hl, hB, HL, hdone⟩ := h.noting
  have HL2 := HL.perm (show _ = SM.MapAt P.tb (some ⟨lb, 0, none⟩) B s.T * ((VM.MapAt P.vb (some ⟨lb, 0, none⟩) B s.V * (NM.MapAt P.fb (some ⟨lb, 0, none⟩) B s.F * (SM.MapAt P.ab (some ⟨lb, 0, none⟩) B s.A * (OC.CellAt P.ob (some ⟨lb, 0, none⟩) s.o * (GC.CellAt P.gb (some ⟨lb, 0, none⟩) s.g))))) * (A * R)) by show lies _ P B s * _ = _; unfold lies; ac_rfl)
  refine (SM.set_calls lb P.tb most nest fs ms k v B s.T w ((VM.MapAt P.vb (some ⟨lb, 0, none⟩) B s.V * (NM.MapAt P.fb (some ⟨lb, 0, none⟩) B s.F * (SM.MapAt P.ab (some ⟨lb, 0, none⟩) B s.A * (OC.CellAt P.ob (some ⟨lb, 0, none⟩) s.o * (GC.CellAt P.gb (some ⟨lb, 0, none⟩) s.g))))) * (A * R)) hk trivial (by omega) hms (by omega) HL2).mono ?_
  rintro e w' ⟨⟨isb, wasb, mbx, kbx, rfl, HS⟩, hr⟩
  rw [tE_eq most _ hist ms hl] at *
  refine ⟨⟨rfl, hdone (.t isb wasb mbx kbx k (s.T k)) { s with T := putM s.T k v } w' R hk ?_ ?_⟩, hr⟩
  · show Sta.mk _ _ _ _ _ _ = _
    rw [rest_put]
  · generalize (tE most hist ms) = tt at *
    obtain ⟨s2, hs2⟩ : ∃ s2 : Sta, s2 = (if tt = 0 then { s with T := putM s.T k v } else s) := ⟨_, rfl⟩
    have hsM : s2.T = (if tt = 0 then putM s.T k v else s.T) := by rw [hs2]; by_cases c : tt = 0 <;> simp only [c, if_true, if_false]
    have hsV : s2.V = s.V := by rw [hs2]; by_cases c : tt = 0 <;> simp only [c, if_true, if_false]
    have hsF : s2.F = s.F := by rw [hs2]; by_cases c : tt = 0 <;> simp only [c, if_true, if_false]
    have hsA : s2.A = s.A := by rw [hs2]; by_cases c : tt = 0 <;> simp only [c, if_true, if_false]
    have hso : s2.o = s.o := by rw [hs2]; by_cases c : tt = 0 <;> simp only [c, if_true, if_false]
    have hsg : s2.g = s.g := by rw [hs2]; by_cases c : tt = 0 <;> simp only [c, if_true, if_false]
    show LogAt w' lb most nest _ ms (SM.noteB isb wasb mbx kbx P.tb k (s.T k) * (lies _ P (B + 1) (if tt = 0 then { s with T := putM s.T k v } else s) * (A * R)))
    rw [← hs2]
    unfold lies
    rw [hsM, hsV, hsF, hsA, hso, hsg]
    replace HS := (LogAt.imp (HS.perm (show _ = VM.MapAt P.vb (some ⟨lb, 0, none⟩) B s.V * (SM.noteB isb wasb mbx kbx P.tb k (s.T k) * (SM.MapAt P.tb (some ⟨lb, 0, none⟩) (B + 1) (if tt = 0 then putM s.T k v else s.T) * ((NM.MapAt P.fb (some ⟨lb, 0, none⟩) B s.F * (SM.MapAt P.ab (some ⟨lb, 0, none⟩) B s.A * (OC.CellAt P.ob (some ⟨lb, 0, none⟩) s.o * (GC.CellAt P.gb (some ⟨lb, 0, none⟩) s.g)))) * (A * R)))) by ac_rfl)) (fun S hS => VM.mapAt_more hS (Nat.le_succ B))).perm (show _ = SM.noteB isb wasb mbx kbx P.tb k (s.T k) * (SM.MapAt P.tb (some ⟨lb, 0, none⟩) (B + 1) (if tt = 0 then putM s.T k v else s.T) * ((VM.MapAt P.vb (some ⟨lb, 0, none⟩) (B + 1) s.V * (NM.MapAt P.fb (some ⟨lb, 0, none⟩) B s.F * (SM.MapAt P.ab (some ⟨lb, 0, none⟩) B s.A * (OC.CellAt P.ob (some ⟨lb, 0, none⟩) s.o * (GC.CellAt P.gb (some ⟨lb, 0, none⟩) s.g))))) * (A * R))) by ac_rfl)
    replace HS := (LogAt.imp (HS.perm (show _ = NM.MapAt P.fb (some ⟨lb, 0, none⟩) B s.F * (SM.noteB isb wasb mbx kbx P.tb k (s.T k) * (SM.MapAt P.tb (some ⟨lb, 0, none⟩) (B + 1) (if tt = 0 then putM s.T k v else s.T) * ((VM.MapAt P.vb (some ⟨lb, 0, none⟩) (B + 1) s.V * (SM.MapAt P.ab (some ⟨lb, 0, none⟩) B s.A * (OC.CellAt P.ob (some ⟨lb, 0, none⟩) s.o * (GC.CellAt P.gb (some ⟨lb, 0, none⟩) s.g)))) * (A * R)))) by ac_rfl)) (fun S hS => NM.mapAt_more hS (Nat.le_succ B))).perm (show _ = SM.noteB isb wasb mbx kbx P.tb k (s.T k) * (SM.MapAt P.tb (some ⟨lb, 0, none⟩) (B + 1) (if tt = 0 then putM s.T k v else s.T) * ((VM.MapAt P.vb (some ⟨lb, 0, none⟩) (B + 1) s.V * (NM.MapAt P.fb (some ⟨lb, 0, none⟩) (B + 1) s.F * (SM.MapAt P.ab (some ⟨lb, 0, none⟩) B s.A * (OC.CellAt P.ob (some ⟨lb, 0, none⟩) s.o * (GC.CellAt P.gb (some ⟨lb, 0, none⟩) s.g))))) * (A * R))) by ac_rfl)
    replace HS := (LogAt.imp (HS.perm (show _ = SM.MapAt P.ab (some ⟨lb, 0, none⟩) B s.A * (SM.noteB isb wasb mbx kbx P.tb k (s.T k) * (SM.MapAt P.tb (some ⟨lb, 0, none⟩) (B + 1) (if tt = 0 then putM s.T k v else s.T) * ((VM.MapAt P.vb (some ⟨lb, 0, none⟩) (B + 1) s.V * (NM.MapAt P.fb (some ⟨lb, 0, none⟩) (B + 1) s.F * (OC.CellAt P.ob (some ⟨lb, 0, none⟩) s.o * (GC.CellAt P.gb (some ⟨lb, 0, none⟩) s.g)))) * (A * R)))) by ac_rfl)) (fun S hS => SM.mapAt_more hS (Nat.le_succ B))).perm (show _ = SM.noteB isb wasb mbx kbx P.tb k (s.T k) * (SM.MapAt P.tb (some ⟨lb, 0, none⟩) (B + 1) (if tt = 0 then putM s.T k v else s.T) * ((VM.MapAt P.vb (some ⟨lb, 0, none⟩) (B + 1) s.V * (NM.MapAt P.fb (some ⟨lb, 0, none⟩) (B + 1) s.F * (SM.MapAt P.ab (some ⟨lb, 0, none⟩) (B + 1) s.A * (OC.CellAt P.ob (some ⟨lb, 0, none⟩) s.o * (GC.CellAt P.gb (some ⟨lb, 0, none⟩) s.g))))) * (A * R))) by ac_rfl)
    exact HS.perm (by ac_rfl)
theorem delT (lb : Nat) (P : Pl) (most nest : Int) (hist : List Sta) (ms : List Nat) (N : Nat) (s : Sta) (k : ByteArray) (w : World) (R : Hp) (hk : k.size ≤ maxLen) (hb : hist.length ≤ 1000000000) (hms : ms.length ≤ 1000000) (hN : N < maxLen) (hsome : (s.T k).isSome = true)
    (h : StT w lb P most nest hist ms N s R) :
    Calls Tryz.prog 101 #[.pointer (some ⟨P.tb, 0, none⟩), .string k] w fun e w' => (e = .returned (.int .i64 (tE most hist ms)) ∧ StT w' lb P most nest (tH most hist ms s) ms (N + 2) (if tE most hist ms = 0 then { s with T := delM s.T k } else s) R) ∧ Ran w w' := by
  obtain ⟨fs, A, B, hl, hB, HL, hdone⟩ := h.noting
  have HL2 := HL.perm (show _ = SM.MapAt P.tb (some ⟨lb, 0, none⟩) B s.T * ((VM.MapAt P.vb (some ⟨lb, 0, none⟩) B s.V * (NM.MapAt P.fb (some ⟨lb, 0, none⟩) B s.F * (SM.MapAt P.ab (some ⟨lb, 0, none⟩) B s.A * (OC.CellAt P.ob (some ⟨lb, 0, none⟩) s.o * (GC.CellAt P.gb (some ⟨lb, 0, none⟩) s.g))))) * (A * R)) by show lies _ P B s * _ = _; unfold lies; ac_rfl)
  refine (SM.del_calls lb P.tb most nest fs ms k B s.T w ((VM.MapAt P.vb (some ⟨lb, 0, none⟩) B s.V * (NM.MapAt P.fb (some ⟨lb, 0, none⟩) B s.F * (SM.MapAt P.ab (some ⟨lb, 0, none⟩) B s.A * (OC.CellAt P.ob (some ⟨lb, 0, none⟩) s.o * (GC.CellAt P.gb (some ⟨lb, 0, none⟩) s.g))))) * (A * R)) hk (by omega) hms (by omega) hsome HL2).mono ?_
  rintro e w' ⟨⟨isb, wasb, mbx, kbx, rfl, HS⟩, hr⟩
  rw [tE_eq most _ hist ms hl] at *
  refine ⟨⟨rfl, hdone (.t isb wasb mbx kbx k (s.T k)) { s with T := delM s.T k } w' R hk ?_ ?_⟩, hr⟩
  · show Sta.mk _ _ _ _ _ _ = _
    rw [rest_del]
  · generalize (tE most hist ms) = tt at *
    obtain ⟨s2, hs2⟩ : ∃ s2 : Sta, s2 = (if tt = 0 then { s with T := delM s.T k } else s) := ⟨_, rfl⟩
    have hsM : s2.T = (if tt = 0 then delM s.T k else s.T) := by rw [hs2]; by_cases c : tt = 0 <;> simp only [c, if_true, if_false]
    have hsV : s2.V = s.V := by rw [hs2]; by_cases c : tt = 0 <;> simp only [c, if_true, if_false]
    have hsF : s2.F = s.F := by rw [hs2]; by_cases c : tt = 0 <;> simp only [c, if_true, if_false]
    have hsA : s2.A = s.A := by rw [hs2]; by_cases c : tt = 0 <;> simp only [c, if_true, if_false]
    have hso : s2.o = s.o := by rw [hs2]; by_cases c : tt = 0 <;> simp only [c, if_true, if_false]
    have hsg : s2.g = s.g := by rw [hs2]; by_cases c : tt = 0 <;> simp only [c, if_true, if_false]
    show LogAt w' lb most nest _ ms (SM.noteB isb wasb mbx kbx P.tb k (s.T k) * (lies _ P (B + 1) (if tt = 0 then { s with T := delM s.T k } else s) * (A * R)))
    rw [← hs2]
    unfold lies
    rw [hsM, hsV, hsF, hsA, hso, hsg]
    replace HS := (LogAt.imp (HS.perm (show _ = VM.MapAt P.vb (some ⟨lb, 0, none⟩) B s.V * (SM.noteB isb wasb mbx kbx P.tb k (s.T k) * (SM.MapAt P.tb (some ⟨lb, 0, none⟩) (B + 1) (if tt = 0 then delM s.T k else s.T) * ((NM.MapAt P.fb (some ⟨lb, 0, none⟩) B s.F * (SM.MapAt P.ab (some ⟨lb, 0, none⟩) B s.A * (OC.CellAt P.ob (some ⟨lb, 0, none⟩) s.o * (GC.CellAt P.gb (some ⟨lb, 0, none⟩) s.g)))) * (A * R)))) by ac_rfl)) (fun S hS => VM.mapAt_more hS (Nat.le_succ B))).perm (show _ = SM.noteB isb wasb mbx kbx P.tb k (s.T k) * (SM.MapAt P.tb (some ⟨lb, 0, none⟩) (B + 1) (if tt = 0 then delM s.T k else s.T) * ((VM.MapAt P.vb (some ⟨lb, 0, none⟩) (B + 1) s.V * (NM.MapAt P.fb (some ⟨lb, 0, none⟩) B s.F * (SM.MapAt P.ab (some ⟨lb, 0, none⟩) B s.A * (OC.CellAt P.ob (some ⟨lb, 0, none⟩) s.o * (GC.CellAt P.gb (some ⟨lb, 0, none⟩) s.g))))) * (A * R))) by ac_rfl)
    replace HS := (LogAt.imp (HS.perm (show _ = NM.MapAt P.fb (some ⟨lb, 0, none⟩) B s.F * (SM.noteB isb wasb mbx kbx P.tb k (s.T k) * (SM.MapAt P.tb (some ⟨lb, 0, none⟩) (B + 1) (if tt = 0 then delM s.T k else s.T) * ((VM.MapAt P.vb (some ⟨lb, 0, none⟩) (B + 1) s.V * (SM.MapAt P.ab (some ⟨lb, 0, none⟩) B s.A * (OC.CellAt P.ob (some ⟨lb, 0, none⟩) s.o * (GC.CellAt P.gb (some ⟨lb, 0, none⟩) s.g)))) * (A * R)))) by ac_rfl)) (fun S hS => NM.mapAt_more hS (Nat.le_succ B))).perm (show _ = SM.noteB isb wasb mbx kbx P.tb k (s.T k) * (SM.MapAt P.tb (some ⟨lb, 0, none⟩) (B + 1) (if tt = 0 then delM s.T k else s.T) * ((VM.MapAt P.vb (some ⟨lb, 0, none⟩) (B + 1) s.V * (NM.MapAt P.fb (some ⟨lb, 0, none⟩) (B + 1) s.F * (SM.MapAt P.ab (some ⟨lb, 0, none⟩) B s.A * (OC.CellAt P.ob (some ⟨lb, 0, none⟩) s.o * (GC.CellAt P.gb (some ⟨lb, 0, none⟩) s.g))))) * (A * R))) by ac_rfl)
    replace HS := (LogAt.imp (HS.perm (show _ = SM.MapAt P.ab (some ⟨lb, 0, none⟩) B s.A * (SM.noteB isb wasb mbx kbx P.tb k (s.T k) * (SM.MapAt P.tb (some ⟨lb, 0, none⟩) (B + 1) (if tt = 0 then delM s.T k else s.T) * ((VM.MapAt P.vb (some ⟨lb, 0, none⟩) (B + 1) s.V * (NM.MapAt P.fb (some ⟨lb, 0, none⟩) (B + 1) s.F * (OC.CellAt P.ob (some ⟨lb, 0, none⟩) s.o * (GC.CellAt P.gb (some ⟨lb, 0, none⟩) s.g)))) * (A * R)))) by ac_rfl)) (fun S hS => SM.mapAt_more hS (Nat.le_succ B))).perm (show _ = SM.noteB isb wasb mbx kbx P.tb k (s.T k) * (SM.MapAt P.tb (some ⟨lb, 0, none⟩) (B + 1) (if tt = 0 then delM s.T k else s.T) * ((VM.MapAt P.vb (some ⟨lb, 0, none⟩) (B + 1) s.V * (NM.MapAt P.fb (some ⟨lb, 0, none⟩) (B + 1) s.F * (SM.MapAt P.ab (some ⟨lb, 0, none⟩) (B + 1) s.A * (OC.CellAt P.ob (some ⟨lb, 0, none⟩) s.o * (GC.CellAt P.gb (some ⟨lb, 0, none⟩) s.g))))) * (A * R))) by ac_rfl)
    exact HS.perm (by ac_rfl)
theorem seto (lb : Nat) (P : Pl) (most nest : Int) (hist : List Sta) (ms : List Nat) (N : Nat) (s : Sta) (v : ByteArray) (w : World) (R : Hp) (hb : hist.length ≤ 1000000000) (hms : ms.length ≤ 1000000)
    (h : StT w lb P most nest hist ms N s R) :
    Calls Tryz.prog 97 #[.pointer (some ⟨P.ob, 0, none⟩), .string v] w fun e w' => (e = .returned (.int .i64 (tE most hist ms)) ∧ StT w' lb P most nest (tH most hist ms s) ms (N + 2) (if tE most hist ms = 0 then { s with o := v } else s) R) ∧ Ran w w' := by
  obtain ⟨fs, A, B, hl, hB, HL, hdone⟩ := h.noting
  have HL2 := HL.perm (show _ = OC.CellAt P.ob (some ⟨lb, 0, none⟩) s.o * ((VM.MapAt P.vb (some ⟨lb, 0, none⟩) B s.V * (NM.MapAt P.fb (some ⟨lb, 0, none⟩) B s.F * (SM.MapAt P.ab (some ⟨lb, 0, none⟩) B s.A * (SM.MapAt P.tb (some ⟨lb, 0, none⟩) B s.T * (GC.CellAt P.gb (some ⟨lb, 0, none⟩) s.g))))) * (A * R)) by show lies _ P B s * _ = _; unfold lies; ac_rfl)
  refine (OC.cset_calls lb P.ob most nest fs ms s.o v w ((VM.MapAt P.vb (some ⟨lb, 0, none⟩) B s.V * (NM.MapAt P.fb (some ⟨lb, 0, none⟩) B s.F * (SM.MapAt P.ab (some ⟨lb, 0, none⟩) B s.A * (SM.MapAt P.tb (some ⟨lb, 0, none⟩) B s.T * (GC.CellAt P.gb (some ⟨lb, 0, none⟩) s.g))))) * (A * R)) (by omega) hms HL2).mono ?_
  rintro e w' ⟨⟨wasb, cbx, rfl, HS⟩, hr⟩
  rw [tE_eq most _ hist ms hl] at *
  refine ⟨⟨rfl, hdone (.o wasb cbx s.o) { s with o := v } w' R trivial rfl ?_⟩, hr⟩
  generalize (tE most hist ms) = tt at *
  obtain ⟨s2, hs2⟩ : ∃ s2 : Sta, s2 = (if tt = 0 then { s with o := v } else s) := ⟨_, rfl⟩
  have hsM : s2.o = (if tt = 0 then v else s.o) := by rw [hs2]; by_cases c : tt = 0 <;> simp only [c, if_true, if_false]
  have hsV : s2.V = s.V := by rw [hs2]; by_cases c : tt = 0 <;> simp only [c, if_true, if_false]
  have hsF : s2.F = s.F := by rw [hs2]; by_cases c : tt = 0 <;> simp only [c, if_true, if_false]
  have hsA : s2.A = s.A := by rw [hs2]; by_cases c : tt = 0 <;> simp only [c, if_true, if_false]
  have hsT : s2.T = s.T := by rw [hs2]; by_cases c : tt = 0 <;> simp only [c, if_true, if_false]
  have hsg : s2.g = s.g := by rw [hs2]; by_cases c : tt = 0 <;> simp only [c, if_true, if_false]
  show LogAt w' lb most nest _ ms (OC.cnoteB wasb cbx P.ob s.o * (lies _ P (B + 1) (if tt = 0 then { s with o := v } else s) * (A * R)))
  rw [← hs2]
  unfold lies
  rw [hsM, hsV, hsF, hsA, hsT, hsg]
  replace HS := (LogAt.imp (HS.perm (show _ = VM.MapAt P.vb (some ⟨lb, 0, none⟩) B s.V * (OC.cnoteB wasb cbx P.ob s.o * (OC.CellAt P.ob (some ⟨lb, 0, none⟩) (if tt = 0 then v else s.o) * ((NM.MapAt P.fb (some ⟨lb, 0, none⟩) B s.F * (SM.MapAt P.ab (some ⟨lb, 0, none⟩) B s.A * (SM.MapAt P.tb (some ⟨lb, 0, none⟩) B s.T * (GC.CellAt P.gb (some ⟨lb, 0, none⟩) s.g)))) * (A * R)))) by ac_rfl)) (fun S hS => VM.mapAt_more hS (Nat.le_succ B))).perm (show _ = OC.cnoteB wasb cbx P.ob s.o * (OC.CellAt P.ob (some ⟨lb, 0, none⟩) (if tt = 0 then v else s.o) * ((VM.MapAt P.vb (some ⟨lb, 0, none⟩) (B + 1) s.V * (NM.MapAt P.fb (some ⟨lb, 0, none⟩) B s.F * (SM.MapAt P.ab (some ⟨lb, 0, none⟩) B s.A * (SM.MapAt P.tb (some ⟨lb, 0, none⟩) B s.T * (GC.CellAt P.gb (some ⟨lb, 0, none⟩) s.g))))) * (A * R))) by ac_rfl)
  replace HS := (LogAt.imp (HS.perm (show _ = NM.MapAt P.fb (some ⟨lb, 0, none⟩) B s.F * (OC.cnoteB wasb cbx P.ob s.o * (OC.CellAt P.ob (some ⟨lb, 0, none⟩) (if tt = 0 then v else s.o) * ((VM.MapAt P.vb (some ⟨lb, 0, none⟩) (B + 1) s.V * (SM.MapAt P.ab (some ⟨lb, 0, none⟩) B s.A * (SM.MapAt P.tb (some ⟨lb, 0, none⟩) B s.T * (GC.CellAt P.gb (some ⟨lb, 0, none⟩) s.g)))) * (A * R)))) by ac_rfl)) (fun S hS => NM.mapAt_more hS (Nat.le_succ B))).perm (show _ = OC.cnoteB wasb cbx P.ob s.o * (OC.CellAt P.ob (some ⟨lb, 0, none⟩) (if tt = 0 then v else s.o) * ((VM.MapAt P.vb (some ⟨lb, 0, none⟩) (B + 1) s.V * (NM.MapAt P.fb (some ⟨lb, 0, none⟩) (B + 1) s.F * (SM.MapAt P.ab (some ⟨lb, 0, none⟩) B s.A * (SM.MapAt P.tb (some ⟨lb, 0, none⟩) B s.T * (GC.CellAt P.gb (some ⟨lb, 0, none⟩) s.g))))) * (A * R))) by ac_rfl)
  replace HS := (LogAt.imp (HS.perm (show _ = SM.MapAt P.ab (some ⟨lb, 0, none⟩) B s.A * (OC.cnoteB wasb cbx P.ob s.o * (OC.CellAt P.ob (some ⟨lb, 0, none⟩) (if tt = 0 then v else s.o) * ((VM.MapAt P.vb (some ⟨lb, 0, none⟩) (B + 1) s.V * (NM.MapAt P.fb (some ⟨lb, 0, none⟩) (B + 1) s.F * (SM.MapAt P.tb (some ⟨lb, 0, none⟩) B s.T * (GC.CellAt P.gb (some ⟨lb, 0, none⟩) s.g)))) * (A * R)))) by ac_rfl)) (fun S hS => SM.mapAt_more hS (Nat.le_succ B))).perm (show _ = OC.cnoteB wasb cbx P.ob s.o * (OC.CellAt P.ob (some ⟨lb, 0, none⟩) (if tt = 0 then v else s.o) * ((VM.MapAt P.vb (some ⟨lb, 0, none⟩) (B + 1) s.V * (NM.MapAt P.fb (some ⟨lb, 0, none⟩) (B + 1) s.F * (SM.MapAt P.ab (some ⟨lb, 0, none⟩) (B + 1) s.A * (SM.MapAt P.tb (some ⟨lb, 0, none⟩) B s.T * (GC.CellAt P.gb (some ⟨lb, 0, none⟩) s.g))))) * (A * R))) by ac_rfl)
  replace HS := (LogAt.imp (HS.perm (show _ = SM.MapAt P.tb (some ⟨lb, 0, none⟩) B s.T * (OC.cnoteB wasb cbx P.ob s.o * (OC.CellAt P.ob (some ⟨lb, 0, none⟩) (if tt = 0 then v else s.o) * ((VM.MapAt P.vb (some ⟨lb, 0, none⟩) (B + 1) s.V * (NM.MapAt P.fb (some ⟨lb, 0, none⟩) (B + 1) s.F * (SM.MapAt P.ab (some ⟨lb, 0, none⟩) (B + 1) s.A * (GC.CellAt P.gb (some ⟨lb, 0, none⟩) s.g)))) * (A * R)))) by ac_rfl)) (fun S hS => SM.mapAt_more hS (Nat.le_succ B))).perm (show _ = OC.cnoteB wasb cbx P.ob s.o * (OC.CellAt P.ob (some ⟨lb, 0, none⟩) (if tt = 0 then v else s.o) * ((VM.MapAt P.vb (some ⟨lb, 0, none⟩) (B + 1) s.V * (NM.MapAt P.fb (some ⟨lb, 0, none⟩) (B + 1) s.F * (SM.MapAt P.ab (some ⟨lb, 0, none⟩) (B + 1) s.A * (SM.MapAt P.tb (some ⟨lb, 0, none⟩) (B + 1) s.T * (GC.CellAt P.gb (some ⟨lb, 0, none⟩) s.g))))) * (A * R))) by ac_rfl)
  exact HS.perm (by ac_rfl)
theorem setg (lb : Nat) (P : Pl) (most nest : Int) (hist : List Sta) (ms : List Nat) (N : Nat) (s : Sta) (v : GC.Giv) (w : World) (R : Hp) (hb : hist.length ≤ 1000000000) (hms : ms.length ≤ 1000000)
    (h : StT w lb P most nest hist ms N s R) :
    Calls Tryz.prog 42 #[.pointer (some ⟨P.gb, 0, none⟩), .agg #[.slice v.p v.n v.cap, .int .i64 v.here, .int .i64 v.within]] w fun e w' => (e = .returned (.int .i64 (tE most hist ms)) ∧ StT w' lb P most nest (tH most hist ms s) ms (N + 2) (if tE most hist ms = 0 then { s with g := v } else s) R) ∧ Ran w w' := by
  obtain ⟨fs, A, B, hl, hB, HL, hdone⟩ := h.noting
  have HL2 := HL.perm (show _ = GC.CellAt P.gb (some ⟨lb, 0, none⟩) s.g * ((VM.MapAt P.vb (some ⟨lb, 0, none⟩) B s.V * (NM.MapAt P.fb (some ⟨lb, 0, none⟩) B s.F * (SM.MapAt P.ab (some ⟨lb, 0, none⟩) B s.A * (SM.MapAt P.tb (some ⟨lb, 0, none⟩) B s.T * (OC.CellAt P.ob (some ⟨lb, 0, none⟩) s.o))))) * (A * R)) by show lies _ P B s * _ = _; unfold lies; ac_rfl)
  refine (GC.cset_calls lb P.gb most nest fs ms s.g v w ((VM.MapAt P.vb (some ⟨lb, 0, none⟩) B s.V * (NM.MapAt P.fb (some ⟨lb, 0, none⟩) B s.F * (SM.MapAt P.ab (some ⟨lb, 0, none⟩) B s.A * (SM.MapAt P.tb (some ⟨lb, 0, none⟩) B s.T * (OC.CellAt P.ob (some ⟨lb, 0, none⟩) s.o))))) * (A * R)) (by omega) hms HL2).mono ?_
  rintro e w' ⟨⟨wasb, cbx, rfl, HS⟩, hr⟩
  rw [tE_eq most _ hist ms hl] at *
  refine ⟨⟨rfl, hdone (.g wasb cbx s.g) { s with g := v } w' R trivial rfl ?_⟩, hr⟩
  generalize (tE most hist ms) = tt at *
  obtain ⟨s2, hs2⟩ : ∃ s2 : Sta, s2 = (if tt = 0 then { s with g := v } else s) := ⟨_, rfl⟩
  have hsM : s2.g = (if tt = 0 then v else s.g) := by rw [hs2]; by_cases c : tt = 0 <;> simp only [c, if_true, if_false]
  have hsV : s2.V = s.V := by rw [hs2]; by_cases c : tt = 0 <;> simp only [c, if_true, if_false]
  have hsF : s2.F = s.F := by rw [hs2]; by_cases c : tt = 0 <;> simp only [c, if_true, if_false]
  have hsA : s2.A = s.A := by rw [hs2]; by_cases c : tt = 0 <;> simp only [c, if_true, if_false]
  have hsT : s2.T = s.T := by rw [hs2]; by_cases c : tt = 0 <;> simp only [c, if_true, if_false]
  have hso : s2.o = s.o := by rw [hs2]; by_cases c : tt = 0 <;> simp only [c, if_true, if_false]
  show LogAt w' lb most nest _ ms (GC.cnoteB wasb cbx P.gb s.g * (lies _ P (B + 1) (if tt = 0 then { s with g := v } else s) * (A * R)))
  rw [← hs2]
  unfold lies
  rw [hsM, hsV, hsF, hsA, hsT, hso]
  replace HS := (LogAt.imp (HS.perm (show _ = VM.MapAt P.vb (some ⟨lb, 0, none⟩) B s.V * (GC.cnoteB wasb cbx P.gb s.g * (GC.CellAt P.gb (some ⟨lb, 0, none⟩) (if tt = 0 then v else s.g) * ((NM.MapAt P.fb (some ⟨lb, 0, none⟩) B s.F * (SM.MapAt P.ab (some ⟨lb, 0, none⟩) B s.A * (SM.MapAt P.tb (some ⟨lb, 0, none⟩) B s.T * (OC.CellAt P.ob (some ⟨lb, 0, none⟩) s.o)))) * (A * R)))) by ac_rfl)) (fun S hS => VM.mapAt_more hS (Nat.le_succ B))).perm (show _ = GC.cnoteB wasb cbx P.gb s.g * (GC.CellAt P.gb (some ⟨lb, 0, none⟩) (if tt = 0 then v else s.g) * ((VM.MapAt P.vb (some ⟨lb, 0, none⟩) (B + 1) s.V * (NM.MapAt P.fb (some ⟨lb, 0, none⟩) B s.F * (SM.MapAt P.ab (some ⟨lb, 0, none⟩) B s.A * (SM.MapAt P.tb (some ⟨lb, 0, none⟩) B s.T * (OC.CellAt P.ob (some ⟨lb, 0, none⟩) s.o))))) * (A * R))) by ac_rfl)
  replace HS := (LogAt.imp (HS.perm (show _ = NM.MapAt P.fb (some ⟨lb, 0, none⟩) B s.F * (GC.cnoteB wasb cbx P.gb s.g * (GC.CellAt P.gb (some ⟨lb, 0, none⟩) (if tt = 0 then v else s.g) * ((VM.MapAt P.vb (some ⟨lb, 0, none⟩) (B + 1) s.V * (SM.MapAt P.ab (some ⟨lb, 0, none⟩) B s.A * (SM.MapAt P.tb (some ⟨lb, 0, none⟩) B s.T * (OC.CellAt P.ob (some ⟨lb, 0, none⟩) s.o)))) * (A * R)))) by ac_rfl)) (fun S hS => NM.mapAt_more hS (Nat.le_succ B))).perm (show _ = GC.cnoteB wasb cbx P.gb s.g * (GC.CellAt P.gb (some ⟨lb, 0, none⟩) (if tt = 0 then v else s.g) * ((VM.MapAt P.vb (some ⟨lb, 0, none⟩) (B + 1) s.V * (NM.MapAt P.fb (some ⟨lb, 0, none⟩) (B + 1) s.F * (SM.MapAt P.ab (some ⟨lb, 0, none⟩) B s.A * (SM.MapAt P.tb (some ⟨lb, 0, none⟩) B s.T * (OC.CellAt P.ob (some ⟨lb, 0, none⟩) s.o))))) * (A * R))) by ac_rfl)
  replace HS := (LogAt.imp (HS.perm (show _ = SM.MapAt P.ab (some ⟨lb, 0, none⟩) B s.A * (GC.cnoteB wasb cbx P.gb s.g * (GC.CellAt P.gb (some ⟨lb, 0, none⟩) (if tt = 0 then v else s.g) * ((VM.MapAt P.vb (some ⟨lb, 0, none⟩) (B + 1) s.V * (NM.MapAt P.fb (some ⟨lb, 0, none⟩) (B + 1) s.F * (SM.MapAt P.tb (some ⟨lb, 0, none⟩) B s.T * (OC.CellAt P.ob (some ⟨lb, 0, none⟩) s.o)))) * (A * R)))) by ac_rfl)) (fun S hS => SM.mapAt_more hS (Nat.le_succ B))).perm (show _ = GC.cnoteB wasb cbx P.gb s.g * (GC.CellAt P.gb (some ⟨lb, 0, none⟩) (if tt = 0 then v else s.g) * ((VM.MapAt P.vb (some ⟨lb, 0, none⟩) (B + 1) s.V * (NM.MapAt P.fb (some ⟨lb, 0, none⟩) (B + 1) s.F * (SM.MapAt P.ab (some ⟨lb, 0, none⟩) (B + 1) s.A * (SM.MapAt P.tb (some ⟨lb, 0, none⟩) B s.T * (OC.CellAt P.ob (some ⟨lb, 0, none⟩) s.o))))) * (A * R))) by ac_rfl)
  replace HS := (LogAt.imp (HS.perm (show _ = SM.MapAt P.tb (some ⟨lb, 0, none⟩) B s.T * (GC.cnoteB wasb cbx P.gb s.g * (GC.CellAt P.gb (some ⟨lb, 0, none⟩) (if tt = 0 then v else s.g) * ((VM.MapAt P.vb (some ⟨lb, 0, none⟩) (B + 1) s.V * (NM.MapAt P.fb (some ⟨lb, 0, none⟩) (B + 1) s.F * (SM.MapAt P.ab (some ⟨lb, 0, none⟩) (B + 1) s.A * (OC.CellAt P.ob (some ⟨lb, 0, none⟩) s.o)))) * (A * R)))) by ac_rfl)) (fun S hS => SM.mapAt_more hS (Nat.le_succ B))).perm (show _ = GC.cnoteB wasb cbx P.gb s.g * (GC.CellAt P.gb (some ⟨lb, 0, none⟩) (if tt = 0 then v else s.g) * ((VM.MapAt P.vb (some ⟨lb, 0, none⟩) (B + 1) s.V * (NM.MapAt P.fb (some ⟨lb, 0, none⟩) (B + 1) s.F * (SM.MapAt P.ab (some ⟨lb, 0, none⟩) (B + 1) s.A * (SM.MapAt P.tb (some ⟨lb, 0, none⟩) (B + 1) s.T * (OC.CellAt P.ob (some ⟨lb, 0, none⟩) s.o))))) * (A * R))) by ac_rfl)
  exact HS.perm (by ac_rfl)
end Go.Proofs.YtlmjidandjemjaaGreatDoor.State
namespace Go.Proofs.YtlmjidandjemjaaGreatDoor.State
open Go.RowKit Go.Proofs.YtlmjidandjemjaaGreatDoor Go.Proofs.YtlmjidandjemjaaGreatDoor.Hp Go.Proofs.YtlmjidandjemjaaGreatDoor.Undo
set_option linter.unusedVariables false

/-- What a state's log can give back, without where it lies. -/
structure Pst where
  V : ByteArray → Option VM.T
  F : ByteArray → Option NM.T
  A : ByteArray → Option ByteArray
  T : ByteArray → Option ByteArray
  o : ByteArray
  l : List ByteArray
  here : Int
  within : Int
/-- A state and its log: what was ahead of each note, the marks, a bound, what there is, the status. -/
structure Now where
  hist : List Pst
  ms : List Nat
  N : Nat
  s : Pst
  q : Int
namespace Now
/-- Something is laid. -/
def put (most : Int) (n : Now) (s2 : Pst) : Int × Now :=
  (tE most n.hist n.ms, ⟨tH most n.hist n.ms n.s, n.ms, n.N + 2, if tE most n.hist n.ms = 0 then s2 else n.s, n.q⟩)
end Now
def letter (b : UInt8) : Bool := decide (97 ≤ (b ||| 32).toNat ∧ (b ||| 32).toNat ≤ 122)
def digit (b : UInt8) : Bool := decide (48 ≤ b.toNat ∧ b.toNat ≤ 57)
/-- Letters, digits and some bytes alone. -/
def ofB (s more : ByteArray) : Bool := s.data.toList.all (fun b => letter b || digit b || decide (b ∈ more.data.toList)) && !s.data.toList.isEmpty
def under : ByteArray := ⟨#[95]⟩
def aliasB : ByteArray := ⟨#[95, 33, 37, 44, 64]⟩
def firstDigit : List UInt8 → Bool
  | [] => false
  | b :: _ => digit b
def isName (s : ByteArray) : Bool := ofB s under && !firstDigit s.data.toList
def isAlias (s : ByteArray) : Bool := ofB s aliasB
def sEXIT : ByteArray := ⟨#[69, 88, 73, 84]⟩
def sHUP : ByteArray := ⟨#[72, 85, 80]⟩
def sINT : ByteArray := ⟨#[73, 78, 84]⟩
def sTERM : ByteArray := ⟨#[84, 69, 82, 77]⟩
def sUSR1 : ByteArray := ⟨#[85, 83, 82, 49]⟩
def isSignal (s : ByteArray) : Bool := decide (s = sEXIT) || decide (s = sHUP) || decide (s = sINT) || decide (s = sTERM) || decide (s = sUSR1)
namespace Pst
def var (s : Pst) (k : ByteArray) : VM.T := (s.V k).getD VM.zt
def option (s : Pst) (b : UInt8) : Bool := decide (b ∈ s.o.data.toList)
end Pst
def nilVar (v : VM.T) : Bool := decide (v.val.size = 0) && !v.set && !v.exp && !v.fix
namespace Now
variable (most : Int) (n : Now)
def setP (k v : ByteArray) : Int × Now :=
  if isName k = false then (16, n) else if 4096 < v.size then (21, n) else if (n.s.var k).fix = true then (26, n)
  else n.put most { n.s with V := putM n.s.V k ⟨v, true, (n.s.var k).exp || n.s.option 97, false⟩ }
/-- A variable let go. -/
def delV (k : ByteArray) : Int × Now := if (n.s.V k).isSome = false then (0, n) else n.put most { n.s with V := delM n.s.V k }
def unsetP (k : ByteArray) : Int × Now :=
  if isName k = false then (16, n) else if (n.s.var k).fix = true then (26, n) else n.delV most k
def markP (k : ByteArray) (ex fx : Bool) : Int × Now :=
  if isName k = false then (16, n)
  else
    let v := n.s.var k
    let v2 : VM.T := ⟨v.val, v.set, v.exp || ex, v.fix || fx⟩
    if nilVar v2 = true then (0, n) else n.put most { n.s with V := putM n.s.V k v2 }
def putP (k : ByteArray) (v : VM.T) : Int × Now :=
  if isName k = false then (16, n)
  else
    let v2 : VM.T := if v.set = true then v else ⟨⟨#[]⟩, v.set, v.exp, v.fix⟩
    if nilVar v2 = true then n.delV most k else n.put most { n.s with V := putM n.s.V k v2 }
def setF (k : ByteArray) (f : NM.T) : Int × Now := if isName k = false then (16, n) else n.put most { n.s with F := putM n.s.F k f }
def unsetF (k : ByteArray) : Int × Now :=
  if isName k = false then (16, n) else if (n.s.F k).isSome = false then (10, n) else n.put most { n.s with F := delM n.s.F k }
def setA (k v : ByteArray) : Int × Now :=
  if isAlias k = false then (16, n) else if 4096 < v.size then (21, n) else n.put most { n.s with A := putM n.s.A k v }
def unA (k : ByteArray) : Int × Now := if (n.s.A k).isSome = false then (10, n) else n.put most { n.s with A := delM n.s.A k }
def setT (k v : ByteArray) : Int × Now :=
  if isSignal k = false then (16, n) else if 4096 < v.size then (21, n) else n.put most { n.s with T := putM n.s.T k v }
def delT (k : ByteArray) : Int × Now := if (n.s.T k).isSome = false then (0, n) else n.put most { n.s with T := delM n.s.T k }
def unT (k : ByteArray) : Int × Now := if isSignal k = false then (16, n) else n.delT most k
/-- Enter, at the keys that are left. -/
def enterL (most : Int) : List ByteArray → Now → Int × Now
  | [], n => (0, n)
  | k :: ks, n =>
    if ((n.s.T k).getD ⟨#[]⟩).size = 0 then enterL most ks n
    else if (n.delT most k).1 = 0 then enterL most ks (n.delT most k).2 else n.delT most k
/-- The options with or without one. -/
def optL : List UInt8 := [67, 97, 101, 102, 117, 120]
def optS (o : List UInt8) (b : UInt8) (on : Bool) : List UInt8 := optL.filter fun c => if c = b then on else decide (c ∈ o)
def setO (b : UInt8) (on : Bool) : Int × Now :=
  if b ∈ optL then n.put most { n.s with o := ⟨(optS n.s.o.data.toList b on).toArray⟩ } else (1, n)
def setG (l : List ByteArray) : Int × Now :=
  if 1000 < l.length then (20, n) else if (l.any fun x => decide (4096 < x.size)) = true then (21, n) else n.put most { n.s with l := l, here := 1, within := 0 }
def shiftP (k : Int) : Int × Now := if k < 0 ∨ (n.s.l.length : Int) < k then (1, n) else n.put most { n.s with l := n.s.l.drop k.toNat }
def setC (a i : Int) : Int × Now := if a < 0 ∨ i < 0 then (1, n) else n.put most { n.s with here := a, within := i }
def setQ (k : Int) : Int × Now := (0, { n with q := k % 256 })
def markM (nest : Int) : Int × Now := if (n.ms.length : Int) = nest then (42, n) else (0, { n with ms := n.ms ++ [n.hist.length] })
def undoM : Int × Now :=
  match n.ms.reverse with
  | [] => (1, n)
  | m :: l => (0, ⟨n.hist.take m, l.reverse, n.N, (n.hist ++ [n.s]).getD m n.s, n.q⟩)
end Now
end Go.Proofs.YtlmjidandjemjaaGreatDoor.State
namespace Go.Proofs.YtlmjidandjemjaaGreatDoor.State
open Go.RowKit Go.Proofs.YtlmjidandjemjaaGreatDoor Go.Proofs.YtlmjidandjemjaaGreatDoor.Hp Go.Proofs.YtlmjidandjemjaaGreatDoor.Undo
set_option linter.unusedVariables false

abbrev sv (s : ByteArray) : Value := .string s
abbrev pp (b : Nat) : Value := .pointer (some ⟨b, 0, none⟩)
abbrev stO (P : Pl) (q : Int) : Obj := .cells #[pp P.vb, pp P.fb, pp P.ab, pp P.tb, pp P.ob, pp P.gb, .int .i64 q] 80 (0, 0)
/-- An array of texts that was made for arguments. -/
structure Row1 where
  p : Option Addr
  cap : Nat
  l : List ByteArray
def row1 (x : Row1) : Hp := arr 9 1 x.p x.l.length x.cap (x.l.map sv)
/-- Arguments lie in one of the arrays. -/
def GOk (rws : List Row1) (g : GC.Giv) : Prop := g.n = g.l.length ∧ g.n ≤ g.cap ∧ (g.l = [] ∨ ∃ x ∈ rws, ∃ b o k, x.p = some ⟨b, o, none⟩ ∧ g.p = some ⟨b, o + k, none⟩ ∧ g.l = x.l.drop k)
theorem GOk.mono {rws bs : List Row1} {g : GC.Giv} (h : GOk rws g) (hs : ∀ x ∈ rws, x ∈ bs) : GOk bs g := by
  obtain ⟨h1, h2, h3⟩ := h
  refine ⟨h1, h2, ?_⟩
  rcases h3 with h | ⟨x, hx, r⟩
  · exact .inl h
  · exact .inr ⟨x, hs x hx, r⟩
def plain (s : Sta) : Pst := ⟨s.V, s.F, s.A, s.T, s.o, s.g.l, s.g.here, s.g.within⟩
/-- Where a state and its log lie, and the log's bounds. -/
structure Ctx where
  lb : Nat
  sb : Nat
  P : Pl
  most : Int
  nest : Int
def SAt (K : Ctx) (w : World) (n : Now) (R : Hp) : Prop :=
  ∃ (hist : List Sta) (s : Sta) (rws : List Row1), n.hist = hist.map plain ∧ n.s = plain s ∧ (∀ x ∈ s :: hist, GOk rws x.g) ∧
    StT w K.lb K.P K.most K.nest hist n.ms n.N s (pts K.sb (stO K.P n.q) * (all row1 rws * R))
section
variable {K : Ctx} {w w' : World} {n : Now} {R R' : Hp}
theorem SAt.frame (h : SAt K w n R) : ∃ X : Hp, Sat w (X * R) ∧ ∀ w' R', Sat w' (X * R') → SAt K w' n R' := by
  obtain ⟨hist, s, rws, h1, h2, h3, H⟩ := h
  obtain ⟨X, HX, hX⟩ := H.frame
  refine ⟨X * (pts K.sb (stO K.P n.q) * all row1 rws), HX.perm (by ac_rfl), fun w' R' H' => ⟨hist, s, rws, h1, h2, h3, hX _ _ (H'.perm (by ac_rfl))⟩⟩
theorem SAt.perm (h : SAt K w n R) (e : R = R') : SAt K w n R' := e ▸ h
theorem SAt.rest (h : SAt K w n R) : Sat w R := by
  obtain ⟨X, h1, _⟩ := h.frame
  exact h1.right
theorem SAt.alloc (h : SAt K w n R) (o : Obj) : SAt K (w.alloc o) n (pts w.heap.size o * R) := by
  obtain ⟨X, h1, h2⟩ := h.frame
  exact h2 _ _ ((h1.alloc o).perm (by ac_rfl))
theorem SAt.old (h : SAt K w n R) (o : Obj) : SAt K (w.alloc o) n R := by
  obtain ⟨X, h1, h2⟩ := h.frame
  exact h2 _ _ (h1.old o)
theorem SAt.below (h : SAt K w n R) (hb : Below w.heap.size w w') : SAt K w' n R := by
  obtain ⟨X, h1, h2⟩ := h.frame
  exact h2 _ _ (h1.below hb)
theorem SAt.right {A : Hp} (h : SAt K w n (A * R)) : SAt K w n R := by
  obtain ⟨X, h1, h2⟩ := h.frame
  exact h2 _ _ (h1.perm (show _ = A * (X * R) by ac_rfl)).right
theorem SAt.drew (h : SAt K w n R) : SAt K w.drew n R := by
  obtain ⟨X, h1, h2⟩ := h.frame
  exact h2 _ _ h1.drew
theorem SAt.drewN (h : SAt K w n R) (k : Nat) : SAt K (w.drewN k) n R := by
  obtain ⟨X, h1, h2⟩ := h.frame
  exact h2 _ _ (h1.drewN k)
theorem SAt.more {N' : Nat} (h : SAt K w n R) (hN : n.N ≤ N') : SAt K w { n with N := N' } R := by
  obtain ⟨hist, s, rws, h1, h2, h3, H⟩ := h
  exact ⟨hist, s, rws, h1, h2, h3, H.more hN⟩
theorem SAt.hist_le (h : SAt K w n R) : n.hist.length ≤ n.N := by
  obtain ⟨hist, s, rws, h1, h2, h3, H⟩ := h
  obtain ⟨B, S, hB, _⟩ := H.lies
  rw [h1, List.length_map]; omega
theorem SAt.cells (h : SAt K w n R) : w.cell? ⟨K.sb, 0, none⟩ = some (pp K.P.vb) ∧ w.cell? ⟨K.sb, 1, none⟩ = some (pp K.P.fb) ∧ w.cell? ⟨K.sb, 2, none⟩ = some (pp K.P.ab) ∧ w.cell? ⟨K.sb, 3, none⟩ = some (pp K.P.tb) ∧ w.cell? ⟨K.sb, 4, none⟩ = some (pp K.P.ob) ∧ w.cell? ⟨K.sb, 5, none⟩ = some (pp K.P.gb) ∧ w.cell? ⟨K.sb, 6, none⟩ = some (.int .i64 n.q) ∧ ∀ i, w.frozen? ⟨K.sb, i, none⟩ = false := by
  obtain ⟨hist, s, rws, h1, h2, h3, H⟩ := h
  have hg := H.rest.get
  exact ⟨by rw [cell_at hg]; rfl, by rw [cell_at hg]; rfl, by rw [cell_at hg]; rfl, by rw [cell_at hg]; rfl, by rw [cell_at hg]; rfl, by rw [cell_at hg]; rfl, by rw [cell_at hg]; rfl, fun i => free_at hg i⟩
theorem SAt.status (h : SAt K w n R) (q : Int) : SAt K (w.setCell ⟨K.sb, 6, none⟩ (.int .i64 q)) { n with q := q } R := by
  obtain ⟨hist, s, rws, h1, h2, h3, H⟩ := h
  obtain ⟨X, HX, hX⟩ := H.frame
  exact ⟨hist, s, rws, h1, h2, h3, hX _ _ (((HX.perm (show _ = pts K.sb (stO K.P n.q) * (X * (all row1 rws * R)) by ac_rfl)).set (i := 6) (.int .i64 q)).perm (by show pts K.sb (stO K.P q) * _ = _; ac_rfl))⟩

theorem SAt.atV (h : SAt K w n R) : ∃ B S, B ≤ n.N ∧ Sat w (VM.MapAt K.P.vb (some ⟨K.lb, 0, none⟩) B n.s.V * S) := by
  obtain ⟨hist, s, rws, h1, h2, h3, H⟩ := h
  obtain ⟨B, S, hB, hS⟩ := StT.atV H
  rw [h2]
  exact ⟨B, S, by omega, hS⟩
theorem SAt.atF (h : SAt K w n R) : ∃ B S, B ≤ n.N ∧ Sat w (NM.MapAt K.P.fb (some ⟨K.lb, 0, none⟩) B n.s.F * S) := by
  obtain ⟨hist, s, rws, h1, h2, h3, H⟩ := h
  obtain ⟨B, S, hB, hS⟩ := StT.atF H
  rw [h2]
  exact ⟨B, S, by omega, hS⟩
theorem SAt.atA (h : SAt K w n R) : ∃ B S, B ≤ n.N ∧ Sat w (SM.MapAt K.P.ab (some ⟨K.lb, 0, none⟩) B n.s.A * S) := by
  obtain ⟨hist, s, rws, h1, h2, h3, H⟩ := h
  obtain ⟨B, S, hB, hS⟩ := StT.atA H
  rw [h2]
  exact ⟨B, S, by omega, hS⟩
theorem SAt.atT (h : SAt K w n R) : ∃ B S, B ≤ n.N ∧ Sat w (SM.MapAt K.P.tb (some ⟨K.lb, 0, none⟩) B n.s.T * S) := by
  obtain ⟨hist, s, rws, h1, h2, h3, H⟩ := h
  obtain ⟨B, S, hB, hS⟩ := StT.atT H
  rw [h2]
  exact ⟨B, S, by omega, hS⟩
theorem SAt.frameV (h : SAt K w n R) : ∃ (B : Nat) (X : Hp), B ≤ n.N ∧ Sat w (VM.MapAt K.P.vb (some ⟨K.lb, 0, none⟩) B n.s.V * (X * R)) ∧ ∀ w' R', Sat w' (VM.MapAt K.P.vb (some ⟨K.lb, 0, none⟩) B n.s.V * (X * R')) → SAt K w' n R' := by
  obtain ⟨hist, s, rws, h1, h2, h3, H⟩ := h
  obtain ⟨B, X, hB, HX, hX⟩ := H.frame2
  rw [h2]
  refine ⟨B, (NM.MapAt K.P.fb (some ⟨K.lb, 0, none⟩) B s.F * (SM.MapAt K.P.ab (some ⟨K.lb, 0, none⟩) B s.A * (SM.MapAt K.P.tb (some ⟨K.lb, 0, none⟩) B s.T * (OC.CellAt K.P.ob (some ⟨K.lb, 0, none⟩) s.o * (GC.CellAt K.P.gb (some ⟨K.lb, 0, none⟩) s.g))))) * (X * (pts K.sb (stO K.P n.q) * all row1 rws)), by omega, HX.perm (by show lies _ K.P B s * _ = VM.MapAt K.P.vb (some ⟨K.lb, 0, none⟩) B s.V * _; unfold lies; ac_rfl), fun w' R' H' => ⟨hist, s, rws, h1, h2, h3, hX _ _ (H'.perm ?_)⟩⟩
  show VM.MapAt K.P.vb (some ⟨K.lb, 0, none⟩) B s.V * _ = lies _ K.P B s * _
  unfold lies
  ac_rfl
theorem SAt.frameA (h : SAt K w n R) : ∃ (B : Nat) (X : Hp), B ≤ n.N ∧ Sat w (SM.MapAt K.P.ab (some ⟨K.lb, 0, none⟩) B n.s.A * (X * R)) ∧ ∀ w' R', Sat w' (SM.MapAt K.P.ab (some ⟨K.lb, 0, none⟩) B n.s.A * (X * R')) → SAt K w' n R' := by
  obtain ⟨hist, s, rws, h1, h2, h3, H⟩ := h
  obtain ⟨B, X, hB, HX, hX⟩ := H.frame2
  rw [h2]
  refine ⟨B, (VM.MapAt K.P.vb (some ⟨K.lb, 0, none⟩) B s.V * (NM.MapAt K.P.fb (some ⟨K.lb, 0, none⟩) B s.F * (SM.MapAt K.P.tb (some ⟨K.lb, 0, none⟩) B s.T * (OC.CellAt K.P.ob (some ⟨K.lb, 0, none⟩) s.o * (GC.CellAt K.P.gb (some ⟨K.lb, 0, none⟩) s.g))))) * (X * (pts K.sb (stO K.P n.q) * all row1 rws)), by omega, HX.perm (by show lies _ K.P B s * _ = SM.MapAt K.P.ab (some ⟨K.lb, 0, none⟩) B s.A * _; unfold lies; ac_rfl), fun w' R' H' => ⟨hist, s, rws, h1, h2, h3, hX _ _ (H'.perm ?_)⟩⟩
  show SM.MapAt K.P.ab (some ⟨K.lb, 0, none⟩) B s.A * _ = lies _ K.P B s * _
  unfold lies
  ac_rfl
theorem SAt.frameT (h : SAt K w n R) : ∃ (B : Nat) (X : Hp), B ≤ n.N ∧ Sat w (SM.MapAt K.P.tb (some ⟨K.lb, 0, none⟩) B n.s.T * (X * R)) ∧ ∀ w' R', Sat w' (SM.MapAt K.P.tb (some ⟨K.lb, 0, none⟩) B n.s.T * (X * R')) → SAt K w' n R' := by
  obtain ⟨hist, s, rws, h1, h2, h3, H⟩ := h
  obtain ⟨B, X, hB, HX, hX⟩ := H.frame2
  rw [h2]
  refine ⟨B, (VM.MapAt K.P.vb (some ⟨K.lb, 0, none⟩) B s.V * (NM.MapAt K.P.fb (some ⟨K.lb, 0, none⟩) B s.F * (SM.MapAt K.P.ab (some ⟨K.lb, 0, none⟩) B s.A * (OC.CellAt K.P.ob (some ⟨K.lb, 0, none⟩) s.o * (GC.CellAt K.P.gb (some ⟨K.lb, 0, none⟩) s.g))))) * (X * (pts K.sb (stO K.P n.q) * all row1 rws)), by omega, HX.perm (by show lies _ K.P B s * _ = SM.MapAt K.P.tb (some ⟨K.lb, 0, none⟩) B s.T * _; unfold lies; ac_rfl), fun w' R' H' => ⟨hist, s, rws, h1, h2, h3, hX _ _ (H'.perm ?_)⟩⟩
  show SM.MapAt K.P.tb (some ⟨K.lb, 0, none⟩) B s.T * _ = lies _ K.P B s * _
  unfold lies
  ac_rfl
theorem SAt.ato (h : SAt K w n R) : ∃ S, Sat w (OC.CellAt K.P.ob (some ⟨K.lb, 0, none⟩) n.s.o * S) := by
  obtain ⟨hist, s, rws, h1, h2, h3, H⟩ := h
  obtain ⟨S, hS⟩ := StT.ato H
  rw [h2]
  exact ⟨S, hS⟩
end
theorem plain_hist {most : Int} {ms : List Nat} {n : Now} {hist : List Sta} {s : Sta} (h1 : n.hist = hist.map plain) (h2 : n.s = plain s) : tH most n.hist ms n.s = (tH most hist ms s).map plain := by
  unfold tH
  have hh : n.hist.length = hist.length := by rw [h1, List.length_map]
  rw [hh, h1, h2]
  by_cases c : ms = []
  · rw [if_pos c, if_pos c]
  · rw [if_neg c, if_neg c]
    by_cases d : (hist.length : Int) < most
    · rw [if_pos d, if_pos d, List.map_append]; rfl
    · rw [if_neg d, if_neg d]
theorem oks {rws : List Row1} {most : Int} {ms : List Nat} {hist : List Sta} {s s2 : Sta} {tt : Prop} [Decidable tt] (h : ∀ x ∈ s :: hist, GOk rws x.g) (h2 : GOk rws s2.g) : ∀ x ∈ (if tt then s2 else s) :: tH most hist ms s, GOk rws x.g := by
  intro x hx
  rcases List.mem_cons.1 hx with rfl | hx
  · by_cases c : tt
    · rw [if_pos c]; exact h2
    · rw [if_neg c]; exact h s List.mem_cons_self
  · rcases tH_mem hx with hx | rfl
    · exact h x (List.mem_cons_of_mem _ hx)
    · exact h x List.mem_cons_self
theorem getV (K : Ctx) (w : World) (n : Now) (R : Hp) (k : ByteArray) (hk : k.size ≤ maxLen) (h : SAt K w n R) :
    Calls Tryz.prog 59 #[pp K.P.vb, .string k] w fun e w' => e = .returned (.tuple #[(VM.enc ((n.s.V k).getD VM.zt)), .bool (n.s.V k).isSome]) ∧ Below w.heap.size w w' := by
  obtain ⟨B, S, hB, hS⟩ := h.atV
  exact VM.get_calls K.P.vb _ B n.s.V k hk w S hS
theorem idleV (K : Ctx) (w : World) (n : Now) (R : Hp) (k : ByteArray) (hk : k.size ≤ maxLen) (hnone : (n.s.V k).isSome = false) (h : SAt K w n R) :
    Calls Tryz.prog 49 #[pp K.P.vb, .string k] w fun e w' => e = .returned (.int .i64 0) ∧ Below w.heap.size w w' := by
  obtain ⟨B, S, hB, hS⟩ := h.atV
  exact VM.del_idle K.lb K.P.vb B n.s.V k w S hk hnone hS
theorem nsetV (K : Ctx) (w : World) (n : Now) (R : Hp) (k : ByteArray) (v : VM.T) (hk : k.size ≤ maxLen) (hN : n.N ≤ 1000000) (hms : n.ms.length ≤ 1000000) (h : SAt K w n R) :
    Calls Tryz.prog 46 #[pp K.P.vb, .string k, (VM.enc v)] w fun e w' => (e = .returned (.int .i64 (n.put K.most { n.s with V := putM n.s.V k v }).1) ∧ SAt K w' (n.put K.most { n.s with V := putM n.s.V k v }).2 R) ∧ Ran w w' := by
  have hl := h.hist_le
  obtain ⟨hist, s, rws, h1, h2, h3, H⟩ := h
  have hh : n.hist.length = hist.length := by rw [h1, List.length_map]
  have ht : tE K.most n.hist n.ms = tE K.most hist n.ms := by unfold tE; rw [hh]
  refine (setV K.lb K.P K.most K.nest hist n.ms n.N s k v w _ hk (by omega) hms (by unfold maxLen; omega) H).mono ?_
  rintro e w' ⟨⟨rfl, HT⟩, hr⟩
  refine ⟨⟨by show _ = Ending.returned (.int .i64 (tE K.most n.hist n.ms)); rw [ht], tH K.most hist n.ms s, (if tE K.most hist n.ms = 0 then { s with V := putM s.V k v } else s), rws, ?_, ?_, ?_, HT⟩, hr⟩
  · exact plain_hist h1 h2
  · show (if tE K.most n.hist n.ms = 0 then { n.s with V := putM n.s.V k v } else n.s) = _
    rw [ht, h2]
    by_cases c : tE K.most hist n.ms = 0
    · rw [if_pos c, if_pos c]; rfl
    · rw [if_neg c, if_neg c]
  · exact oks h3 (show GOk rws s.g from h3 s List.mem_cons_self)
theorem ndelV (K : Ctx) (w : World) (n : Now) (R : Hp) (k : ByteArray) (hk : k.size ≤ maxLen) (hN : n.N ≤ 1000000) (hms : n.ms.length ≤ 1000000) (hsome : (n.s.V k).isSome = true) (h : SAt K w n R) :
    Calls Tryz.prog 49 #[pp K.P.vb, .string k] w fun e w' => (e = .returned (.int .i64 (n.put K.most { n.s with V := delM n.s.V k }).1) ∧ SAt K w' (n.put K.most { n.s with V := delM n.s.V k }).2 R) ∧ Ran w w' := by
  have hl := h.hist_le
  obtain ⟨hist, s, rws, h1, h2, h3, H⟩ := h
  have hh : n.hist.length = hist.length := by rw [h1, List.length_map]
  have ht : tE K.most n.hist n.ms = tE K.most hist n.ms := by unfold tE; rw [hh]
  refine (delV K.lb K.P K.most K.nest hist n.ms n.N s k w _ hk (by omega) hms (by unfold maxLen; omega) (by rw [h2] at hsome; exact hsome) H).mono ?_
  rintro e w' ⟨⟨rfl, HT⟩, hr⟩
  refine ⟨⟨by show _ = Ending.returned (.int .i64 (tE K.most n.hist n.ms)); rw [ht], tH K.most hist n.ms s, (if tE K.most hist n.ms = 0 then { s with V := delM s.V k } else s), rws, ?_, ?_, ?_, HT⟩, hr⟩
  · exact plain_hist h1 h2
  · show (if tE K.most n.hist n.ms = 0 then { n.s with V := delM n.s.V k } else n.s) = _
    rw [ht, h2]
    by_cases c : tE K.most hist n.ms = 0
    · rw [if_pos c, if_pos c]; rfl
    · rw [if_neg c, if_neg c]
  · exact oks h3 (show GOk rws s.g from h3 s List.mem_cons_self)
theorem getF (K : Ctx) (w : World) (n : Now) (R : Hp) (k : ByteArray) (hk : k.size ≤ maxLen) (h : SAt K w n R) :
    Calls Tryz.prog 114 #[pp K.P.fb, .string k] w fun e w' => e = .returned (.tuple #[(NM.enc ((n.s.F k).getD NM.zt)), .bool (n.s.F k).isSome]) ∧ Below w.heap.size w w' := by
  obtain ⟨B, S, hB, hS⟩ := h.atF
  exact NM.get_calls K.P.fb _ B n.s.F k hk w S hS
theorem nsetF (K : Ctx) (w : World) (n : Now) (R : Hp) (k : ByteArray) (v : NM.T) (hk : k.size ≤ maxLen) (hN : n.N ≤ 1000000) (hms : n.ms.length ≤ 1000000) (h : SAt K w n R) :
    Calls Tryz.prog 110 #[pp K.P.fb, .string k, (NM.enc v)] w fun e w' => (e = .returned (.int .i64 (n.put K.most { n.s with F := putM n.s.F k v }).1) ∧ SAt K w' (n.put K.most { n.s with F := putM n.s.F k v }).2 R) ∧ Ran w w' := by
  have hl := h.hist_le
  obtain ⟨hist, s, rws, h1, h2, h3, H⟩ := h
  have hh : n.hist.length = hist.length := by rw [h1, List.length_map]
  have ht : tE K.most n.hist n.ms = tE K.most hist n.ms := by unfold tE; rw [hh]
  refine (setF K.lb K.P K.most K.nest hist n.ms n.N s k v w _ hk (by omega) hms (by unfold maxLen; omega) H).mono ?_
  rintro e w' ⟨⟨rfl, HT⟩, hr⟩
  refine ⟨⟨by show _ = Ending.returned (.int .i64 (tE K.most n.hist n.ms)); rw [ht], tH K.most hist n.ms s, (if tE K.most hist n.ms = 0 then { s with F := putM s.F k v } else s), rws, ?_, ?_, ?_, HT⟩, hr⟩
  · exact plain_hist h1 h2
  · show (if tE K.most n.hist n.ms = 0 then { n.s with F := putM n.s.F k v } else n.s) = _
    rw [ht, h2]
    by_cases c : tE K.most hist n.ms = 0
    · rw [if_pos c, if_pos c]; rfl
    · rw [if_neg c, if_neg c]
  · exact oks h3 (show GOk rws s.g from h3 s List.mem_cons_self)
theorem ndelF (K : Ctx) (w : World) (n : Now) (R : Hp) (k : ByteArray) (hk : k.size ≤ maxLen) (hN : n.N ≤ 1000000) (hms : n.ms.length ≤ 1000000) (hsome : (n.s.F k).isSome = true) (h : SAt K w n R) :
    Calls Tryz.prog 111 #[pp K.P.fb, .string k] w fun e w' => (e = .returned (.int .i64 (n.put K.most { n.s with F := delM n.s.F k }).1) ∧ SAt K w' (n.put K.most { n.s with F := delM n.s.F k }).2 R) ∧ Ran w w' := by
  have hl := h.hist_le
  obtain ⟨hist, s, rws, h1, h2, h3, H⟩ := h
  have hh : n.hist.length = hist.length := by rw [h1, List.length_map]
  have ht : tE K.most n.hist n.ms = tE K.most hist n.ms := by unfold tE; rw [hh]
  refine (delF K.lb K.P K.most K.nest hist n.ms n.N s k w _ hk (by omega) hms (by unfold maxLen; omega) (by rw [h2] at hsome; exact hsome) H).mono ?_
  rintro e w' ⟨⟨rfl, HT⟩, hr⟩
  refine ⟨⟨by show _ = Ending.returned (.int .i64 (tE K.most n.hist n.ms)); rw [ht], tH K.most hist n.ms s, (if tE K.most hist n.ms = 0 then { s with F := delM s.F k } else s), rws, ?_, ?_, ?_, HT⟩, hr⟩
  · exact plain_hist h1 h2
  · show (if tE K.most n.hist n.ms = 0 then { n.s with F := delM n.s.F k } else n.s) = _
    rw [ht, h2]
    by_cases c : tE K.most hist n.ms = 0
    · rw [if_pos c, if_pos c]; rfl
    · rw [if_neg c, if_neg c]
  · exact oks h3 (show GOk rws s.g from h3 s List.mem_cons_self)
theorem getA (K : Ctx) (w : World) (n : Now) (R : Hp) (k : ByteArray) (hk : k.size ≤ maxLen) (h : SAt K w n R) :
    Calls Tryz.prog 102 #[pp K.P.ab, .string k] w fun e w' => e = .returned (.tuple #[(.string ((n.s.A k).getD SM.zt)), .bool (n.s.A k).isSome]) ∧ Below w.heap.size w w' := by
  obtain ⟨B, S, hB, hS⟩ := h.atA
  exact SM.get_calls K.P.ab _ B n.s.A k hk w S hS
theorem nsetA (K : Ctx) (w : World) (n : Now) (R : Hp) (k : ByteArray) (v : SM.T) (hk : k.size ≤ maxLen) (hN : n.N ≤ 1000000) (hms : n.ms.length ≤ 1000000) (h : SAt K w n R) :
    Calls Tryz.prog 99 #[pp K.P.ab, .string k, (.string v)] w fun e w' => (e = .returned (.int .i64 (n.put K.most { n.s with A := putM n.s.A k v }).1) ∧ SAt K w' (n.put K.most { n.s with A := putM n.s.A k v }).2 R) ∧ Ran w w' := by
  have hl := h.hist_le
  obtain ⟨hist, s, rws, h1, h2, h3, H⟩ := h
  have hh : n.hist.length = hist.length := by rw [h1, List.length_map]
  have ht : tE K.most n.hist n.ms = tE K.most hist n.ms := by unfold tE; rw [hh]
  refine (setA K.lb K.P K.most K.nest hist n.ms n.N s k v w _ hk (by omega) hms (by unfold maxLen; omega) H).mono ?_
  rintro e w' ⟨⟨rfl, HT⟩, hr⟩
  refine ⟨⟨by show _ = Ending.returned (.int .i64 (tE K.most n.hist n.ms)); rw [ht], tH K.most hist n.ms s, (if tE K.most hist n.ms = 0 then { s with A := putM s.A k v } else s), rws, ?_, ?_, ?_, HT⟩, hr⟩
  · exact plain_hist h1 h2
  · show (if tE K.most n.hist n.ms = 0 then { n.s with A := putM n.s.A k v } else n.s) = _
    rw [ht, h2]
    by_cases c : tE K.most hist n.ms = 0
    · rw [if_pos c, if_pos c]; rfl
    · rw [if_neg c, if_neg c]
  · exact oks h3 (show GOk rws s.g from h3 s List.mem_cons_self)
theorem ndelA (K : Ctx) (w : World) (n : Now) (R : Hp) (k : ByteArray) (hk : k.size ≤ maxLen) (hN : n.N ≤ 1000000) (hms : n.ms.length ≤ 1000000) (hsome : (n.s.A k).isSome = true) (h : SAt K w n R) :
    Calls Tryz.prog 101 #[pp K.P.ab, .string k] w fun e w' => (e = .returned (.int .i64 (n.put K.most { n.s with A := delM n.s.A k }).1) ∧ SAt K w' (n.put K.most { n.s with A := delM n.s.A k }).2 R) ∧ Ran w w' := by
  have hl := h.hist_le
  obtain ⟨hist, s, rws, h1, h2, h3, H⟩ := h
  have hh : n.hist.length = hist.length := by rw [h1, List.length_map]
  have ht : tE K.most n.hist n.ms = tE K.most hist n.ms := by unfold tE; rw [hh]
  refine (delA K.lb K.P K.most K.nest hist n.ms n.N s k w _ hk (by omega) hms (by unfold maxLen; omega) (by rw [h2] at hsome; exact hsome) H).mono ?_
  rintro e w' ⟨⟨rfl, HT⟩, hr⟩
  refine ⟨⟨by show _ = Ending.returned (.int .i64 (tE K.most n.hist n.ms)); rw [ht], tH K.most hist n.ms s, (if tE K.most hist n.ms = 0 then { s with A := delM s.A k } else s), rws, ?_, ?_, ?_, HT⟩, hr⟩
  · exact plain_hist h1 h2
  · show (if tE K.most n.hist n.ms = 0 then { n.s with A := delM n.s.A k } else n.s) = _
    rw [ht, h2]
    by_cases c : tE K.most hist n.ms = 0
    · rw [if_pos c, if_pos c]; rfl
    · rw [if_neg c, if_neg c]
  · exact oks h3 (show GOk rws s.g from h3 s List.mem_cons_self)
theorem getT (K : Ctx) (w : World) (n : Now) (R : Hp) (k : ByteArray) (hk : k.size ≤ maxLen) (h : SAt K w n R) :
    Calls Tryz.prog 102 #[pp K.P.tb, .string k] w fun e w' => e = .returned (.tuple #[(.string ((n.s.T k).getD SM.zt)), .bool (n.s.T k).isSome]) ∧ Below w.heap.size w w' := by
  obtain ⟨B, S, hB, hS⟩ := h.atT
  exact SM.get_calls K.P.tb _ B n.s.T k hk w S hS
theorem idleT (K : Ctx) (w : World) (n : Now) (R : Hp) (k : ByteArray) (hk : k.size ≤ maxLen) (hnone : (n.s.T k).isSome = false) (h : SAt K w n R) :
    Calls Tryz.prog 101 #[pp K.P.tb, .string k] w fun e w' => e = .returned (.int .i64 0) ∧ Below w.heap.size w w' := by
  obtain ⟨B, S, hB, hS⟩ := h.atT
  exact SM.del_idle K.lb K.P.tb B n.s.T k w S hk hnone hS
theorem nsetT (K : Ctx) (w : World) (n : Now) (R : Hp) (k : ByteArray) (v : SM.T) (hk : k.size ≤ maxLen) (hN : n.N ≤ 1000000) (hms : n.ms.length ≤ 1000000) (h : SAt K w n R) :
    Calls Tryz.prog 99 #[pp K.P.tb, .string k, (.string v)] w fun e w' => (e = .returned (.int .i64 (n.put K.most { n.s with T := putM n.s.T k v }).1) ∧ SAt K w' (n.put K.most { n.s with T := putM n.s.T k v }).2 R) ∧ Ran w w' := by
  have hl := h.hist_le
  obtain ⟨hist, s, rws, h1, h2, h3, H⟩ := h
  have hh : n.hist.length = hist.length := by rw [h1, List.length_map]
  have ht : tE K.most n.hist n.ms = tE K.most hist n.ms := by unfold tE; rw [hh]
  refine (setT K.lb K.P K.most K.nest hist n.ms n.N s k v w _ hk (by omega) hms (by unfold maxLen; omega) H).mono ?_
  rintro e w' ⟨⟨rfl, HT⟩, hr⟩
  refine ⟨⟨by show _ = Ending.returned (.int .i64 (tE K.most n.hist n.ms)); rw [ht], tH K.most hist n.ms s, (if tE K.most hist n.ms = 0 then { s with T := putM s.T k v } else s), rws, ?_, ?_, ?_, HT⟩, hr⟩
  · exact plain_hist h1 h2
  · show (if tE K.most n.hist n.ms = 0 then { n.s with T := putM n.s.T k v } else n.s) = _
    rw [ht, h2]
    by_cases c : tE K.most hist n.ms = 0
    · rw [if_pos c, if_pos c]; rfl
    · rw [if_neg c, if_neg c]
  · exact oks h3 (show GOk rws s.g from h3 s List.mem_cons_self)
theorem ndelT (K : Ctx) (w : World) (n : Now) (R : Hp) (k : ByteArray) (hk : k.size ≤ maxLen) (hN : n.N ≤ 1000000) (hms : n.ms.length ≤ 1000000) (hsome : (n.s.T k).isSome = true) (h : SAt K w n R) :
    Calls Tryz.prog 101 #[pp K.P.tb, .string k] w fun e w' => (e = .returned (.int .i64 (n.put K.most { n.s with T := delM n.s.T k }).1) ∧ SAt K w' (n.put K.most { n.s with T := delM n.s.T k }).2 R) ∧ Ran w w' := by
  have hl := h.hist_le
  obtain ⟨hist, s, rws, h1, h2, h3, H⟩ := h
  have hh : n.hist.length = hist.length := by rw [h1, List.length_map]
  have ht : tE K.most n.hist n.ms = tE K.most hist n.ms := by unfold tE; rw [hh]
  refine (delT K.lb K.P K.most K.nest hist n.ms n.N s k w _ hk (by omega) hms (by unfold maxLen; omega) (by rw [h2] at hsome; exact hsome) H).mono ?_
  rintro e w' ⟨⟨rfl, HT⟩, hr⟩
  refine ⟨⟨by show _ = Ending.returned (.int .i64 (tE K.most n.hist n.ms)); rw [ht], tH K.most hist n.ms s, (if tE K.most hist n.ms = 0 then { s with T := delM s.T k } else s), rws, ?_, ?_, ?_, HT⟩, hr⟩
  · exact plain_hist h1 h2
  · show (if tE K.most n.hist n.ms = 0 then { n.s with T := delM n.s.T k } else n.s) = _
    rw [ht, h2]
    by_cases c : tE K.most hist n.ms = 0
    · rw [if_pos c, if_pos c]; rfl
    · rw [if_neg c, if_neg c]
  · exact oks h3 (show GOk rws s.g from h3 s List.mem_cons_self)
theorem geto (K : Ctx) (w : World) (n : Now) (R : Hp) (h : SAt K w n R) :
    Calls Tryz.prog 112 #[pp K.P.ob] w fun e w' => e = .returned (.string n.s.o) ∧ w = w' := by
  obtain ⟨S, hS⟩ := h.ato
  exact OC.cget_calls K.P.ob _ n.s.o w S hS
theorem nseto (K : Ctx) (w : World) (n : Now) (R : Hp) (v : ByteArray) (hN : n.N ≤ 1000000) (hms : n.ms.length ≤ 1000000) (h : SAt K w n R) :
    Calls Tryz.prog 97 #[pp K.P.ob, .string v] w fun e w' => (e = .returned (.int .i64 (n.put K.most { n.s with o := v }).1) ∧ SAt K w' (n.put K.most { n.s with o := v }).2 R) ∧ Ran w w' := by
  have hl := h.hist_le
  obtain ⟨hist, s, rws, h1, h2, h3, H⟩ := h
  have hh : n.hist.length = hist.length := by rw [h1, List.length_map]
  have ht : tE K.most n.hist n.ms = tE K.most hist n.ms := by unfold tE; rw [hh]
  refine (seto K.lb K.P K.most K.nest hist n.ms n.N s v w _ (by omega) hms H).mono ?_
  rintro e w' ⟨⟨rfl, HT⟩, hr⟩
  refine ⟨⟨by show _ = Ending.returned (.int .i64 (tE K.most n.hist n.ms)); rw [ht], tH K.most hist n.ms s, (if tE K.most hist n.ms = 0 then { s with o := v } else s), rws, ?_, ?_, ?_, HT⟩, hr⟩
  · exact plain_hist h1 h2
  · show (if tE K.most n.hist n.ms = 0 then { n.s with o := v } else n.s) = _
    rw [ht, h2]
    by_cases c : tE K.most hist n.ms = 0
    · rw [if_pos c, if_pos c]; rfl
    · rw [if_neg c, if_neg c]
  · exact oks h3 (show GOk rws s.g from h3 s List.mem_cons_self)
/-- The same, with the arguments' slice. -/
def SGt (K : Ctx) (w : World) (n : Now) (g : GC.Giv) (rws : List Row1) (R : Hp) : Prop :=
  ∃ (hist : List Sta) (s : Sta), n.hist = hist.map plain ∧ n.s = plain s ∧ s.g = g ∧ (∀ x ∈ s :: hist, GOk rws x.g) ∧
    StT w K.lb K.P K.most K.nest hist n.ms n.N s (pts K.sb (stO K.P n.q) * (all row1 rws * R))
section
variable {K : Ctx} {w w' : World} {n : Now} {g : GC.Giv} {rws : List Row1} {R R' : Hp}
theorem SAt.args (h : SAt K w n R) : ∃ g rws, SGt K w n g rws R := by
  obtain ⟨hist, s, rws, h1, h2, h3, H⟩ := h
  exact ⟨s.g, rws, hist, s, h1, h2, rfl, h3, H⟩
theorem SGt.shut (h : SGt K w n g rws R) : SAt K w n R := by
  obtain ⟨hist, s, h1, h2, _, h3, H⟩ := h
  exact ⟨hist, s, rws, h1, h2, h3, H⟩
theorem SGt.facts (h : SGt K w n g rws R) : GOk rws g ∧ g.l = n.s.l ∧ g.here = n.s.here ∧ g.within = n.s.within := by
  obtain ⟨hist, s, h1, h2, rfl, h3, H⟩ := h
  rw [h2]
  exact ⟨h3 s List.mem_cons_self, rfl, rfl, rfl⟩
theorem SGt.frame (h : SGt K w n g rws R) : ∃ X : Hp, Sat w (X * (all row1 rws * R)) ∧ ∀ w' R', Sat w' (X * (all row1 rws * R')) → SGt K w' n g rws R' := by
  obtain ⟨hist, s, h1, h2, hg, h3, H⟩ := h
  obtain ⟨X, HX, hX⟩ := H.frame
  exact ⟨X * pts K.sb (stO K.P n.q), HX.perm (by ac_rfl), fun w' R' H' => ⟨hist, s, h1, h2, hg, h3, hX _ _ (H'.perm (by ac_rfl))⟩⟩
theorem SGt.perm (h : SGt K w n g rws R) (e : R = R') : SGt K w n g rws R' := e ▸ h
theorem SGt.below (h : SGt K w n g rws R) (hb : Below w.heap.size w w') : SGt K w' n g rws R := by
  obtain ⟨X, h1, h2⟩ := h.frame
  exact h2 _ _ (h1.below hb)
theorem SGt.alloc (h : SGt K w n g rws R) (o : Obj) : SGt K (w.alloc o) n g rws (pts w.heap.size o * R) := by
  obtain ⟨X, h1, h2⟩ := h.frame
  exact h2 _ _ ((h1.alloc o).perm (by ac_rfl))
theorem SGt.row {x : Row1} (h : SGt K w n g rws (row1 x * R)) : SGt K w n g (rws ++ [x]) R := by
  obtain ⟨hist, s, h1, h2, hg, h3, H⟩ := h
  refine ⟨hist, s, h1, h2, hg, fun y hy => (h3 y hy).mono (fun z hz => List.mem_append_left _ hz), H.perm ?_⟩
  rw [all_snoc]
  ac_rfl
theorem SGt.cget (h : SGt K w n g rws R) : Calls Tryz.prog 106 #[pp K.P.gb] w fun e w' => e = .returned (.agg #[.slice g.p g.n g.cap, .int .i64 g.here, .int .i64 g.within]) ∧ Below w.heap.size w w' := by
  obtain ⟨hist, s, h1, h2, rfl, h3, H⟩ := h
  obtain ⟨S, hS⟩ := StT.atg H
  exact GC.cget_calls K.P.gb _ s.g w S hS
theorem SGt.hist_le (h : SGt K w n g rws R) : n.hist.length ≤ n.N := h.shut.hist_le
end
theorem SGt.cset (K : Ctx) (w : World) (n : Now) (g : GC.Giv) (rws : List Row1) (R : Hp) (v : GC.Giv) (hv : GOk rws v) (hN : n.N ≤ 1000000) (hms : n.ms.length ≤ 1000000) (h : SGt K w n g rws R) :
    Calls Tryz.prog 42 #[pp K.P.gb, .agg #[.slice v.p v.n v.cap, .int .i64 v.here, .int .i64 v.within]] w fun e w' => (e = .returned (.int .i64 (n.put K.most { n.s with l := v.l, here := v.here, within := v.within }).1) ∧ SAt K w' (n.put K.most { n.s with l := v.l, here := v.here, within := v.within }).2 R) ∧ Ran w w' := by
  have hl := h.hist_le
  obtain ⟨hist, s, h1, h2, hg, h3, H⟩ := h
  have hh : n.hist.length = hist.length := by rw [h1, List.length_map]
  have ht : tE K.most n.hist n.ms = tE K.most hist n.ms := by unfold tE; rw [hh]
  refine (setg K.lb K.P K.most K.nest hist n.ms n.N s v w _ (by omega) hms H).mono ?_
  rintro e w' ⟨⟨rfl, HT⟩, hr⟩
  refine ⟨⟨by show _ = Ending.returned (.int .i64 (tE K.most n.hist n.ms)); rw [ht], tH K.most hist n.ms s, (if tE K.most hist n.ms = 0 then { s with g := v } else s), rws, ?_, ?_, ?_, HT⟩, hr⟩
  · exact plain_hist h1 h2
  · show (if tE K.most n.hist n.ms = 0 then { n.s with l := v.l, here := v.here, within := v.within } else n.s) = _
    rw [ht, h2]
    by_cases c : tE K.most hist n.ms = 0
    · rw [if_pos c, if_pos c]; rfl
    · rw [if_neg c, if_neg c]
  · exact oks h3 hv
end Go.Proofs.YtlmjidandjemjaaGreatDoor.State

