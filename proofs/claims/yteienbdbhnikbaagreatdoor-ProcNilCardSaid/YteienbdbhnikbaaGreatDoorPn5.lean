/- HandlesPlays, part 5 of 18: the texts SpX HdB HdC HdD HdE, joined by a program. -/
import Derived.Laws.CopyOwn
import Derived.Test.YteienbdbhnikbaaGreatDoorPn1
import Derived.Test.YteienbdbhnikbaaGreatDoorRows
import Derived.Deep.QuietTactic
import Derived.BigQuiet
import Derived.Deep.RegionHeld3
import Derived.Deep.DeepCutAuto
import Derived.Deep.LoopGhost
import Derived.Deep.DeepFit
import Derived.Lib.Hide
import Derived.Laws.IdiomStrings
import Derived.StillTailTactics
import Derived.Test.YteienbdbhnikbaaGreatDoorPn4
import Derived.Test.YteienbdbhnikbaaGreatDoorShf
namespace Go.Proofs.YteienbdbhnikbaaGreatDoor.Spill
set_option linter.unusedVariables false

/-- How many chunks were used up ahead of a place. -/
def gn (m c frm : Nat) : Nat := (frm - m) / c
/-- How many chunks it takes up to a place. -/
def cl (m c til : Nat) : Nat := (til - m + c - 1) / c
/-- What stands at a place. -/
def atp (m c g : Nat) (fs : List Value) (L : List (Nat × List Value)) (p : Nat) : Option Value :=
  if p < m then fs[p]? else (L[(p - m) / c - g]?).bind fun x => x.2[(p - m) % c]?

theorem cl_low {m c til : Nat} (hc : 0 < c) (h : til ≤ m) : cl m c til = 0 := by
  unfold cl; rw [show til - m = 0 by omega]; exact Nat.div_eq_of_lt (by omega)
theorem gn_low {m c frm : Nat} (h : frm ≤ m) : gn m c frm = 0 := by
  unfold gn; rw [show frm - m = 0 by omega]; exact Nat.zero_div c
/-- Bytes, as cells. -/
def bytes (l : List UInt8) : List Value := l.map fun b => .int .u8 b.toNat
@[simp] theorem bytes_length (l : List UInt8) : (bytes l).length = l.length := List.length_map ..
/-- The bytes from a place on stand there. -/
def Holds (m c g frm : Nat) (fs : List Value) (L : List (Nat × List Value)) (l : List UInt8) : Prop := ∀ i, i < l.length → atp m c g fs L (frm + i) = (bytes l)[i]?
end Go.Proofs.YteienbdbhnikbaaGreatDoor.Spill
namespace Go.Proofs.YteienbdbhnikbaaGreatDoor
open Go.RowKit Go.Proofs.YteienbdbhnikbaaGreatDoor.Hp

section
variable {P : Program}
end
end Go.Proofs.YteienbdbhnikbaaGreatDoor
namespace Go.Proofs.YteienbdbhnikbaaGreatDoor.Spill
open Go.RowKit Go.Proofs.YteienbdbhnikbaaGreatDoor Go.Proofs.YteienbdbhnikbaaGreatDoor.Hp

theorem info5 : (Tryz.prog.info? 5).map (fun i => (i.zero, i.size, i.bytes)) = some (some (.int .u8 0), 1, 1) := by kernel_rfl

/-- A chunk's slice. -/
def bs (c : Nat) (x : Nat × List Value) : Value := .slice (some ⟨x.1, 0, none⟩) c c
/-- A chunk: a block of c cells. -/
def chunk (c : Nat) (x : Nat × List Value) : Hp := fact (x.2.length = c) * pts x.1 (.cells x.2.toArray 5 (0, 0))
/-- A pool's fields. -/
abbrev pf (q m c held used opn : Int) (v : Value) : Obj := .cells #[.int .i64 q, .int .i64 m, .int .i64 c, .int .i64 held, .int .i64 used, .int .i64 opn, v] 129 (0, 0)
/-- A pool: its fields, the chunks that are free. -/
def pool (bp q m c held used opn : Nat) (p : Option Addr) (cap : Nat) (F : List (Nat × List Value)) : Hp :=
  pts bp (pf q m c held used opn (.slice p F.length cap)) * (arr 137 1 p F.length cap (F.map (bs c)) * all (chunk c) F)

theorem cells7 {w : World} {b : Nat} {T : TypeId} {v0 v1 v2 v3 v4 v5 v6 : Value} (h : w.heap[b]? = some (.cells #[v0, v1, v2, v3, v4, v5, v6] T (0, 0))) :
    w.cell? ⟨b, 0, none⟩ = some v0 ∧ w.cell? ⟨b, 1, none⟩ = some v1 ∧ w.cell? ⟨b, 2, none⟩ = some v2 ∧ w.cell? ⟨b, 3, none⟩ = some v3 ∧ w.cell? ⟨b, 4, none⟩ = some v4 ∧ w.cell? ⟨b, 5, none⟩ = some v5 ∧ w.cell? ⟨b, 6, none⟩ = some v6 ∧
      ∀ i, w.frozen? ⟨b, i, none⟩ = false := by
  refine ⟨?_, ?_, ?_, ?_, ?_, ?_, ?_, free_at h⟩ <;> (rw [cell_at h]; rfl)

end Go.Proofs.YteienbdbhnikbaaGreatDoor.Spill
namespace Go.Proofs.YteienbdbhnikbaaGreatDoor.Spill
open Go.RowKit Go.Proofs.YteienbdbhnikbaaGreatDoor Go.Proofs.YteienbdbhnikbaaGreatDoor.Hp

theorem is_nil (w : World) : Calls Tryz.prog 172 #[.pointer none] w fun e w' => e = .returned (.int .i64 2) ∧ w = w' := by
  go_enter Tryz.func172, Tryz.ntmps172
  go_wp2
  go_ret
  exact ⟨rfl, rfl⟩
theorem is_open (w : World) (b : Nat) (hh : w.cell? ⟨b, 1, none⟩ = some (.bool false)) :
    Calls Tryz.prog 172 #[.pointer (some ⟨b, 0, none⟩)] w fun e w' => e = .returned (.int .i64 0) ∧ w = w' := by
  go_enter Tryz.func172, Tryz.ntmps172
  go_wp2
  go_ret
  exact ⟨rfl, rfl⟩
theorem len_nil (w : World) : Calls Tryz.prog 166 #[.pointer none] w fun e w' => e = .returned (.int .i64 0) ∧ w = w' := by
  go_enter Tryz.func166, Tryz.ntmps166
  go_wp2_with (go_at_call 172; refine (is_nil _).mono ?_; rintro e w' ⟨rfl, rfl⟩)
  go_ret
  exact ⟨rfl, rfl⟩
theorem len_open (w : World) (b f t : Nat) (hh : w.cell? ⟨b, 1, none⟩ = some (.bool false)) (hf : w.cell? ⟨b, 5, none⟩ = some (.int .i64 f)) (ht : w.cell? ⟨b, 6, none⟩ = some (.int .i64 t)) (h1 : f ≤ t) (h2 : t ≤ 1000000000000) :
    Calls Tryz.prog 166 #[.pointer (some ⟨b, 0, none⟩)] w fun e w' => e = .returned (.int .i64 ((t : Int) - f)) ∧ ∃ n, w' = w.drewN n := by
  go_enter Tryz.func166, Tryz.ntmps166
  go_wp2_with (go_at_call 172; refine (is_open _ _ hh).mono ?_; rintro e w' ⟨rfl, rfl⟩)
  go_quiet (fail)
  go_wp2
  go_ret
  exact ⟨rfl, _, rfl⟩

def NewPost (q m c : Nat) (R : Hp) (w : World) (e : Ending) (w' : World) : Prop :=
  ∃ bp, e = .returned (.tuple #[.pointer (some ⟨bp, 0, none⟩), .int .i64 0]) ∧ Sat w' (pool bp q m c 0 0 0 none 0 [] * R) ∧ Ran w w'
theorem new_good (q m c : Nat) (w : World) (R : Hp) (H : Sat w R) (h2 : q ≤ 1048576) (h4 : m ≤ 65536) (h5 : 1 ≤ c) (h6 : c ≤ 65536) :
    Calls Tryz.prog 31 #[.int .i64 q, .int .i64 m, .int .i64 c] w (NewPost q m c R w) := by
  have g1 : ¬ ((q : Int) < 0) := by omega
  have g2 : ¬ ((1048576 : Int) < q) := by omega
  have g3 : ¬ ((m : Int) < 0) := by omega
  have g4 : ¬ ((65536 : Int) < m) := by omega
  have g5 : ¬ ((c : Int) < 1) := by omega
  have g6 : ¬ ((65536 : Int) < c) := by omega
  go_enter Tryz.func31, Tryz.ntmps31
  go_wp2
  go_ret2
  refine ⟨w.heap.size, rfl, ?_, Ran.new (Below.refl _ _) _⟩
  have := (H.alloc (pf q m c 0 0 0 (.slice none 0 0)))
  refine (this.perm ?_)
  unfold pool
  show _ = pts w.heap.size (pf q m c 0 0 0 (.slice none 0 0)) * (arr 137 1 none 0 0 [] * emp) * R
  rw [arr_nil, emp_sep, sep_emp]

/-- A buffer's fields. -/
abbrev bf (bp : Nat) (closed : Bool) (first chunks : Value) (gone frm til : Int) : Obj := .cells #[.pointer (some ⟨bp, 0, none⟩), .bool closed, first, chunks, .int .i64 gone, .int .i64 frm, .int .i64 til] 166 (0, 0)
/-- An open buffer: its fields, its first bytes, its chunks. -/
def bufO (bb bp m c fb : Nat) (p : Option Addr) (cap gone frm til : Nat) (fs : List Value) (L : List (Nat × List Value)) : Hp :=
  pts bb (bf bp false (.slice (some ⟨fb, 0, none⟩) m m) (.slice p L.length cap) gone frm til) *
    (fact (fs.length = m) * pts fb (.cells fs.toArray 5 (0, 0)) * (arr 137 1 p L.length cap (L.map (bs c)) * all (chunk c) L))

def OpenPost (bp q m c held used opn cap : Nat) (p : Option Addr) (F : List (Nat × List Value)) (R : Hp) (w : World) (e : Ending) (w' : World) : Prop :=
  ∃ bb fb fs, e = .returned (.pointer (some ⟨bb, 0, none⟩)) ∧ Sat w' (pool bp q m c held used (opn + 1) p cap F * (bufO bb bp m c fb none 0 0 0 0 fs [] * R)) ∧ Ran w w'
set_option maxHeartbeats 400000 in
theorem open_calls (bp q m c held used opn cap : Nat) (p : Option Addr) (F : List (Nat × List Value)) (R : Hp) (w : World) (hu : opn ≤ 1000000000000) (hm : m ≤ 65536) (H : Sat w (pool bp q m c held used opn p cap F * R)) :
    Calls Tryz.prog 69 #[.pointer (some ⟨bp, 0, none⟩)] w (OpenPost bp q m c held used opn cap p F R w) := by
  have H1 := H.perm (sep_assoc _ _ _)
  obtain ⟨c0, c1, c2, c3, c4, c5, c6, cf⟩ := cells7 H1.get
  obtain ⟨i0, hi, hz0, hz1, hz2⟩ := info_parts info5
  have hmk : ∀ w' : World, (Instr.makeSlice 137 (.int .i64 (m : Int)) (.int .i64 (m : Int))).run Tryz.prog w' = .ok (.slice (some ⟨w'.heap.size, 0, none⟩) m m) (w'.alloc (.cells (madeCells #[.int .u8 0] m) 5)) := fun w' => by
    have := run_make (P := Tryz.prog) w' _ _ i0 _ Tryz.underlying137 hi hz0 .i64 .i64 (m : Int) (m : Int) (by omega) (by omega) (by rw [hz2]; omega) (by omega)
    simpa [hz1, Value.cells] using this
  clear hi hz0 hz1 hz2
  go_enter Tryz.func69, Tryz.ntmps69
  go_wp2
  go_ret
  have hs : (madeCells #[Value.int .u8 0] m).toList.length = m := by simp [size_madeCells]
  refine ⟨w.heap.size + 1, w.heap.size, (madeCells #[.int .u8 0] m).toList, rfl, ?_, Ran.new (Ran.new (Ran.set (Below.refl _ _) _ _) _) _⟩
  have H2 : Sat (w.setCell ⟨bp, 5, none⟩ (.int .i64 ((opn : Int) + 1))) (pts bp (pf q m c held used (opn + 1 : Nat) (.slice p F.length cap)) * (arr 137 1 p F.length cap (F.map (bs c)) * all (chunk c) F * R)) :=
    H1.set (i := 5) (.int .i64 ((opn : Int) + 1))
  have H3 := (H2.alloc (.cells (madeCells #[.int .u8 0] m) 5))
  have H4 := H3.alloc (bf bp false (.slice (some ⟨w.heap.size, 0, none⟩) m m) (.slice none 0 0) 0 0 0)
  simp only [World.size_alloc, World.size_setCell] at H4
  have H5 := H4.fact_in hs
  refine H5.perm ?_
  unfold pool bufO
  show _ = pts bp (pf q m c held used (opn + 1 : Nat) (.slice p F.length cap)) * (arr 137 1 p F.length cap (F.map (bs c)) * all (chunk c) F) * (pts (w.heap.size + 1) (bf bp false (.slice (some ⟨w.heap.size, 0, none⟩) m m) (.slice none 0 0) 0 0 0) *
    (fact ((madeCells #[Value.int .u8 0] m).toList.length = m) * pts w.heap.size (.cells (madeCells #[Value.int .u8 0] m) 5 (0, 0)) * (arr 137 1 none 0 0 [] * emp)) * R)
  rw [arr_nil, emp_sep, sep_emp]
  ac_rfl
theorem open_nil (w : World) : Calls Tryz.prog 69 #[.pointer none] w fun e w' => e = .returned (.pointer none) ∧ w = w' := by
  go_enter Tryz.func69, Tryz.ntmps69
  go_wp2
  go_ret
  exact ⟨rfl, rfl⟩

end Go.Proofs.YteienbdbhnikbaaGreatDoor.Spill
namespace Go.Proofs.YteienbdbhnikbaaGreatDoor.Spill
open Go.RowKit Go.Proofs.YteienbdbhnikbaaGreatDoor Go.Proofs.YteienbdbhnikbaaGreatDoor.Hp
set_option linter.unusedVariables false

/-- A pool, its free chunks whatever they are; tot: how many chunks there are at most. -/
def poolX (bp q m c held used opn tot : Nat) : Hp := ex fun x : Option Addr × Nat × List (Nat × List Value) => fact (used + x.2.2.length ≤ tot) * pool bp q m c held used opn x.1 x.2.1 x.2.2
/-- An open buffer that has some bytes, from a place on. -/
def bufX (bb bp m c frm : Nat) (data : List UInt8) : Hp := ex fun x : Nat × Option Addr × Nat × List Value × List (Nat × List Value) =>
  fact (x.2.2.2.2.length + gn m c frm = cl m c (frm + data.length) ∧ Holds m c (gn m c frm) frm x.2.2.2.1 x.2.2.2.2 data) * bufO bb bp m c x.1 x.2.1 x.2.2.1 (gn m c frm) frm (frm + data.length) x.2.2.2.1 x.2.2.2.2

theorem poolX_out {w : World} {R : Hp} {bp q m c held used opn tot : Nat} (h : Sat w (poolX bp q m c held used opn tot * R)) : ∃ p cap F, used + F.length ≤ tot ∧ Sat w (pool bp q m c held used opn p cap F * R) := by
  obtain ⟨⟨p, cap, F⟩, h⟩ := Sat.ex_out h
  rw [sep_assoc] at h
  obtain ⟨h1, h⟩ := h.fact_out
  exact ⟨p, cap, F, h1, h⟩
theorem poolX_in {w : World} {R : Hp} {bp q m c held used opn tot cap : Nat} {p : Option Addr} {F : List (Nat × List Value)} (h1 : used + F.length ≤ tot) (h : Sat w (pool bp q m c held used opn p cap F * R)) : Sat w (poolX bp q m c held used opn tot * R) := by
  refine Sat.ex_in (p, cap, F) ?_
  rw [sep_assoc]
  exact h.fact_in h1
theorem bufX_out {w : World} {R : Hp} {bb bp m c frm : Nat} {data : List UInt8} (h : Sat w (bufX bb bp m c frm data * R)) :
    ∃ fb p cap fs L, L.length + gn m c frm = cl m c (frm + data.length) ∧ Holds m c (gn m c frm) frm fs L data ∧ Sat w (bufO bb bp m c fb p cap (gn m c frm) frm (frm + data.length) fs L * R) := by
  obtain ⟨⟨fb, p, cap, fs, L⟩, h⟩ := Sat.ex_out h
  rw [sep_assoc] at h
  obtain ⟨⟨h1, h2⟩, h⟩ := h.fact_out
  exact ⟨fb, p, cap, fs, L, h1, h2, h⟩
theorem bufX_in {w : World} {R : Hp} {bb bp m c frm til fb cap : Nat} {p : Option Addr} {fs : List Value} {L : List (Nat × List Value)} {data : List UInt8} (ht : til = frm + data.length) (h1 : L.length + gn m c frm = cl m c til) (h2 : Holds m c (gn m c frm) frm fs L data)
    (h : Sat w (bufO bb bp m c fb p cap (gn m c frm) frm til fs L * R)) : Sat w (bufX bb bp m c frm data * R) := by
  subst ht
  refine Sat.ex_in (fb, p, cap, fs, L) ?_
  rw [sep_assoc]
  exact h.fact_in ⟨h1, h2⟩

end Go.Proofs.YteienbdbhnikbaaGreatDoor.Spill
namespace Go.Proofs.YteienbdbhnikbaaGreatDoor.Spill
open Go.RowKit Go.Proofs.YteienbdbhnikbaaGreatDoor Go.Proofs.YteienbdbhnikbaaGreatDoor.Hp
set_option linter.unusedVariables false

end Go.Proofs.YteienbdbhnikbaaGreatDoor.Spill
namespace Go.Proofs.YteienbdbhnikbaaGreatDoor.Spill
open Go.RowKit Go.Proofs.YteienbdbhnikbaaGreatDoor Go.Proofs.YteienbdbhnikbaaGreatDoor.Hp
set_option linter.unusedVariables false

theorem append_nil (s : ByteArray) (w : World) : Calls Tryz.prog 181 #[.pointer none, .string s] w fun e w' => e = .returned (.int .i64 2) ∧ w = w' := by
  go_enter Tryz.func181, Tryz.ntmps181
  go_wp2_with (go_at_call 172; refine (is_nil _).mono ?_; rintro e w' ⟨rfl, rfl⟩)
  go_ret
  exact ⟨rfl, rfl⟩
end Go.Proofs.YteienbdbhnikbaaGreatDoor.Spill
namespace Go.Proofs.YteienbdbhnikbaaGreatDoor.Spill
open Go.RowKit Go.Proofs.YteienbdbhnikbaaGreatDoor Go.Proofs.YteienbdbhnikbaaGreatDoor.Hp
set_option linter.unusedVariables false

theorem bufX_cells {w : World} {R : Hp} {bb bp m c frm : Nat} {data : List UInt8} (H : Sat w (bufX bb bp m c frm data * R)) :
    w.cell? ⟨bb, 1, none⟩ = some (.bool false) ∧ w.cell? ⟨bb, 5, none⟩ = some (.int .i64 frm) ∧ w.cell? ⟨bb, 6, none⟩ = some (.int .i64 (frm + data.length : Nat)) := by
  obtain ⟨fb, p, cap, fs, L, _, _, H1⟩ := bufX_out H
  have h := cells7 (H1.perm (sep_assoc _ _ _)).get
  exact ⟨h.2.1, h.2.2.2.2.2.1, h.2.2.2.2.2.2.1⟩

def XNewPost (q m c : Nat) (R : Hp) (w : World) (e : Ending) (w' : World) : Prop :=
  ∃ bp, e = .returned (.tuple #[.pointer (some ⟨bp, 0, none⟩), .int .i64 0]) ∧ Sat w' (poolX bp q m c 0 0 0 0 * R) ∧ Ran w w'
theorem xnew (q m c : Nat) (w : World) (R : Hp) (H : Sat w R) (h2 : q ≤ 1048576) (h4 : m ≤ 65536) (h5 : 1 ≤ c) (h6 : c ≤ 65536) :
    Calls Tryz.prog 31 #[.int .i64 q, .int .i64 m, .int .i64 c] w (XNewPost q m c R w) :=
  (new_good q m c w R H h2 h4 h5 h6).mono fun e w' ⟨bp, he, hs, hr⟩ => ⟨bp, he, poolX_in (by simp) hs, hr⟩
def XOpenPost (bp q m c held used opn tot : Nat) (R : Hp) (w : World) (e : Ending) (w' : World) : Prop :=
  ∃ bb, e = .returned (.pointer (some ⟨bb, 0, none⟩)) ∧ Sat w' (poolX bp q m c held used (opn + 1) tot * (bufX bb bp m c 0 [] * R)) ∧ Ran w w'
theorem xopen (bp q m c held used opn tot : Nat) (R : Hp) (w : World) (hu : opn ≤ 1000000000000) (hm : m ≤ 65536) (hc : 1 ≤ c) (H : Sat w (poolX bp q m c held used opn tot * R)) :
    Calls Tryz.prog 69 #[.pointer (some ⟨bp, 0, none⟩)] w (XOpenPost bp q m c held used opn tot R w) := by
  obtain ⟨p, cap, F, hF, H1⟩ := poolX_out H
  refine (open_calls bp q m c held used opn cap p F R w hu hm H1).mono ?_
  rintro e w' ⟨bb, fb, fs, he, hs, hr⟩
  refine ⟨bb, he, poolX_in (p := p) (cap := cap) hF ?_, hr⟩
  have h0 : gn m c 0 = 0 := gn_low (by omega)
  have h2 := hs.perm (show _ = bufO bb bp m c fb none 0 (gn m c 0) 0 0 fs [] * (pool bp q m c held used (opn + 1) p cap F * R) by rw [h0]; ac_rfl)
  exact (bufX_in (data := []) (til := 0) rfl (by rw [h0, cl_low (by omega) (by omega)]; rfl) (fun i hi => by simp at hi) h2).perm (by ac_rfl)
theorem xlen (bb bp m c frm : Nat) (data : List UInt8) (R : Hp) (w : World) (hf : frm + data.length ≤ 1000000000) (H : Sat w (bufX bb bp m c frm data * R)) : Calls Tryz.prog 166 #[.pointer (some ⟨bb, 0, none⟩)] w fun e w' => e = .returned (.int .i64 data.length) ∧ ∃ n, w' = w.drewN n := by
  obtain ⟨h1, h2, h3⟩ := bufX_cells H
  refine (len_open w bb frm (frm + data.length) h1 h2 h3 (by omega) (by omega)).mono ?_
  rintro e w' ⟨rfl, h⟩
  refine ⟨?_, h⟩
  rw [show (((frm + data.length : Nat) : Int) - frm) = (data.length : Int) by omega]

end Go.Proofs.YteienbdbhnikbaaGreatDoor.Spill

namespace Go.Proofs.YteienbdbhnikbaaGreatDoor.Hd
open Go.RowKit Go.Maps Go.Proofs.YteienbdbhnikbaaGreatDoor Go.Proofs.YteienbdbhnikbaaGreatDoor.Hp
set_option linter.unusedVariables false
attribute [local go_sem] Oper.semAt_some

/-- A directory's names: the map's block, what it says, how many there are, how many there ever were at most. -/
structure Kd where
  b : Nat
  M : K.SM
  sz : Nat
  n : Nat
structure Nd where
  b : Nat
  kind : Int
  text : ByteArray
  kids : Option Kd
  par : Int
  names : Int
  holds : Int
def kv : Option Kd → Value
  | none => .map none
  | some k => .map (some k.b)
def ndO (x : Nd) : Obj := .cells #[.int .i64 x.kind, .string x.text, kv x.kids, .int .i64 x.par, .int .i64 x.names, .int .i64 x.holds] 118 (0, 0)
def kidsHp : Option Kd → Hp
  | none => emp
  | some k => K.smap k.b k.M k.sz k.n
def ndHp (x : Nd) : Hp := pts x.b (ndO x) * kidsHp x.kids
abbrev NL := List (Int × Nd)
def find : NL → Int → Option Nd
  | [], _ => none
  | p :: L, k => if p.1 = k then some p.2 else find L k
def upd : NL → Int → Nd → NL
  | [], _, _ => []
  | p :: L, k, x => if p.1 = k then (k, x) :: L else p :: upd L k x
def nds (L : NL) : Hp := all (fun p : Int × Nd => ndHp p.2) L
def blk (L : NL) : Int → Option Nat := fun k => (find L k).map Nd.b
theorem focus : ∀ (L : NL) (k : Int) (x : Nd), find L k = some x → ∃ F : Hp, nds L = ndHp x * F ∧ ∀ x', nds (upd L k x') = ndHp x' * F
  | [], _, _, h => by cases h
  | p :: L, k, x, h => by
    unfold find at h
    by_cases e : p.1 = k
    · rw [if_pos e] at h
      injection h with h
      refine ⟨nds L, by rw [← h]; rfl, fun x' => by unfold upd; rw [if_pos e]; rfl⟩
    · rw [if_neg e] at h
      obtain ⟨F, h1, h2⟩ := focus L k x h
      refine ⟨ndHp p.2 * F, ?_, fun x' => ?_⟩
      · show ndHp p.2 * nds L = _
        rw [h1]; ac_rfl
      · unfold upd; rw [if_neg e]
        show ndHp p.2 * nds (upd L k x') = _
        rw [h2 x']; ac_rfl
theorem find_upd : ∀ (L : NL) (k j : Int) (x : Nd), (find L k).isSome = true → find (upd L k x) j = if j = k then some x else find L j
  | [], _, _, _, h => by cases h
  | p :: L, k, j, x, h => by
    unfold find at h
    by_cases e : p.1 = k
    · unfold upd; rw [if_pos e]
      show (if k = j then some x else find L j) = if j = k then some x else (if p.1 = j then some p.2 else find L j)
      by_cases e2 : j = k
      · subst e2; simp
      · rw [if_neg e2, if_neg (fun h => e2 h.symm), if_neg (fun h => e2 (by rw [← h, e]))]
    · rw [if_neg e] at h
      unfold upd; rw [if_neg e]; unfold find
      by_cases e2 : p.1 = j
      · rw [if_pos e2, if_neg (fun h => e (by rw [e2, h])), if_pos e2]
      · rw [if_neg e2, find_upd L k j x h, if_neg e2]
theorem upd_len : ∀ (L : NL) (k : Int) (x : Nd), (upd L k x).length = L.length
  | [], _, _ => rfl
  | p :: L, k, x => by
    unfold upd
    split
    · rfl
    · show (upd L k x).length + 1 = _; rw [upd_len L k x]; rfl
theorem blk_upd (L : NL) (k : Int) (x x' : Nd) (h : find L k = some x) (hb : x'.b = x.b) : blk (upd L k x') = blk L := by
  funext j
  unfold blk
  rw [find_upd L k j x' (by rw [h]; rfl)]
  by_cases e : j = k
  · subst e; rw [if_pos rfl, h]; simp [hb]
  · rw [if_neg e]
/-- A tree: its bounds, what is used, its nodes; how many entries its map ever had at most. -/
structure Fs where
  most : Int
  room : Int
  used : Int
  L : NL
  n : Nat
def fsO (F : Fs) (mb : Nat) : Obj := .cells #[.int .i64 F.most, .int .i64 F.room, .int .i64 F.used, .map (some mb)] 115 (0, 0)
def fsHp (fb mb : Nat) (F : Fs) : Hp := pts fb (fsO F mb) * (pmap mb (blk F.L) F.L.length F.n * nds F.L)
abbrev pp (b : Nat) : Value := .pointer (some ⟨b, 0, none⟩)
theorem fs_cells {w : World} {fb mb : Nat} {F : Fs} {R : Hp} (h : Sat w (fsHp fb mb F * R)) : w.cell? ⟨fb, 0, none⟩ = some (.int .i64 F.most) ∧ w.cell? ⟨fb, 1, none⟩ = some (.int .i64 F.room) ∧ w.cell? ⟨fb, 2, none⟩ = some (.int .i64 F.used) ∧ w.cell? ⟨fb, 3, none⟩ = some (.map (some mb)) := by
  have hb := (h.perm (show _ = pts fb (fsO F mb) * (pmap mb (blk F.L) F.L.length F.n * nds F.L * R) by unfold fsHp; ac_rfl)).get
  refine ⟨?_, ?_, ?_, ?_⟩ <;> rw [cell_at hb] <;> rfl
theorem fs_look {w : World} {fb mb : Nat} {F : Fs} {R : Hp} (h : Sat w (fsHp fb mb F * R)) (k : Int) (hk : I64 k) : (Instr.lookup 113 (.map (some mb)) (.int .i64 k) false).run Tryz.prog w = .ok (pv (blk F.L k)) w :=
  pmap_look Tryz.underlying113 zeroNode (h.perm (show _ = pmap mb (blk F.L) F.L.length F.n * (pts fb (fsO F mb) * nds F.L * R) by unfold fsHp; ac_rfl)) k hk
/-- One node, and how another one takes its place. -/
theorem fs_node {w : World} {fb mb : Nat} {F : Fs} {R : Hp} (h : Sat w (fsHp fb mb F * R)) {k : Int} {x : Nd} (hx : find F.L k = some x) :
    ∃ X : Hp, Sat w (pts x.b (ndO x) * (kidsHp x.kids * (pts fb (fsO F mb) * (X * R)))) ∧
      ∀ (w' : World) (x' : Nd) (F' : Fs) (R' : Hp), x'.b = x.b → F'.L = upd F.L k x' → F'.n = F.n → Sat w' (pts x'.b (ndO x') * (kidsHp x'.kids * (pts fb (fsO F' mb) * (X * R')))) → Sat w' (fsHp fb mb F' * R') := by
  obtain ⟨X, h1, h2⟩ := focus F.L k x hx
  refine ⟨pmap mb (blk F.L) F.L.length F.n * X, h.perm ?_, fun w' x' F' R' hb hL hn h' => h'.perm ?_⟩
  · unfold fsHp; rw [h1]; unfold ndHp; ac_rfl
  · unfold fsHp
    rw [hL, h2 x', blk_upd F.L k x x' hx hb, upd_len, hn]; unfold ndHp; ac_rfl
theorem nd_cells {w : World} {x : Nd} {S : Hp} (h : Sat w (pts x.b (ndO x) * S)) : w.cell? ⟨x.b, 0, none⟩ = some (.int .i64 x.kind) ∧ w.cell? ⟨x.b, 1, none⟩ = some (.string x.text) ∧ w.cell? ⟨x.b, 2, none⟩ = some (kv x.kids) ∧ w.cell? ⟨x.b, 3, none⟩ = some (.int .i64 x.par) ∧ w.cell? ⟨x.b, 4, none⟩ = some (.int .i64 x.names) ∧ w.cell? ⟨x.b, 5, none⟩ = some (.int .i64 x.holds) := by
  have hb := h.get
  refine ⟨?_, ?_, ?_, ?_, ?_, ?_⟩ <;> rw [cell_at hb] <;> rfl
/-- What stands where a node stands. -/
theorem fs_at {w : World} {fb mb : Nat} {F : Fs} {R : Hp} (h : Sat w (fsHp fb mb F * R)) {k : Int} {x : Nd} (hx : find F.L k = some x) : w.cell? ⟨x.b, 0, none⟩ = some (.int .i64 x.kind) ∧ w.cell? ⟨x.b, 1, none⟩ = some (.string x.text) ∧ w.cell? ⟨x.b, 2, none⟩ = some (kv x.kids) ∧ w.cell? ⟨x.b, 3, none⟩ = some (.int .i64 x.par) ∧ w.cell? ⟨x.b, 4, none⟩ = some (.int .i64 x.names) ∧ w.cell? ⟨x.b, 5, none⟩ = some (.int .i64 x.holds) := by
  obtain ⟨X, h1, _⟩ := fs_node h hx
  exact nd_cells h1
def isK (F : Fs) (k kd : Int) : Bool := match find F.L k with
  | none => false
  | some x => x.kind == kd
set_option maxRecDepth 100000 in
set_option maxHeartbeats 4000000 in
theorem is_calls (fb mb : Nat) (F : Fs) (k kd : Int) (hk : I64 k) (w : World) (R : Hp) (h : Sat w (fsHp fb mb F * R)) :
    Calls Tryz.prog 64 #[pp fb, .int .i64 k, .int .i64 kd] w fun e w' => e = .returned (.bool (isK F k kd)) ∧ w = w' := by
  obtain ⟨c0, c1, c2, c3⟩ := fs_cells h
  have hl := fs_look h k hk
  unfold isK
  cases hx : find F.L k with
  | none =>
    have : blk F.L k = none := by unfold blk; rw [hx]; rfl
    rw [this] at hl
    clear h hx this
    unfold pv at hl
    go_enter Tryz.func64, Tryz.ntmps64
    go_wp2_with fail
    go_ret
    exact ⟨rfl, rfl⟩
  | some x =>
    have : blk F.L k = some x.b := by unfold blk; rw [hx]; rfl
    rw [this] at hl
    obtain ⟨d0, d1, d2, d3, d4, d5⟩ := fs_at h hx
    show Calls _ _ _ _ (fun e w' => e = .returned (.bool (x.kind == kd)) ∧ w = w')
    unfold pv at hl
    clear h hx this
    go_enter Tryz.func64, Tryz.ntmps64
    go_wp2_with fail
    go_ret
    exact ⟨rfl, rfl⟩
/-- The node of a number that has bytes, and what is wrong with it. -/
def textE (F : Fs) (k : Int) : Int := match find F.L k with
  | none => 10
  | some x => if x.kind = 1 then 13 else 0
def textV (F : Fs) (k : Int) : Option Nat := match find F.L k with
  | none => none
  | some x => if x.kind = 1 then none else some x.b
set_option maxRecDepth 100000 in
set_option maxHeartbeats 4000000 in
theorem text_calls (fb mb : Nat) (F : Fs) (k : Int) (hk : I64 k) (w : World) (R : Hp) (h : Sat w (fsHp fb mb F * R)) :
    Calls Tryz.prog 66 #[pp fb, .int .i64 k] w fun e w' => e = .returned (.tuple #[pv (textV F k), .int .i64 (textE F k)]) ∧ w = w' := by
  obtain ⟨c0, c1, c2, c3⟩ := fs_cells h
  have hl := fs_look h k hk
  have HI := is_calls fb mb F k 1 hk w R h
  unfold isK at HI
  unfold textE textV
  cases hx : find F.L k with
  | none =>
    have : blk F.L k = none := by unfold blk; rw [hx]; rfl
    rw [this] at hl
    clear h hx this HI
    unfold pv at hl
    go_enter Tryz.func66, Tryz.ntmps66
    go_wp2_with fail
    go_ret2
    exact ⟨rfl, rfl⟩
  | some x =>
    have : blk F.L k = some x.b := by unfold blk; rw [hx]; rfl
    rw [this] at hl
    rw [hx] at HI
    unfold pv at hl
    by_cases e : x.kind = 1
    · rw [show (match some x with | none => false | some x => x.kind == 1) = true by simp [e]] at HI
      have HI := Lib.hid HI
      dsimp only
      rw [if_pos e, if_pos e]
      clear h hx this e
      go_enter Tryz.func66, Tryz.ntmps66
      go_wp2_with fail
      refine HI.out.mono ?_
      rintro e w1 ⟨rfl, rfl⟩
      go_wp2_with fail
      go_ret2
      exact ⟨rfl, rfl⟩
    · rw [show (match some x with | none => false | some x => x.kind == 1) = false by simp [e]] at HI
      have HI := Lib.hid HI
      dsimp only
      rw [if_neg e, if_neg e]
      clear h hx this e
      go_enter Tryz.func66, Tryz.ntmps66
      go_wp2_with fail
      refine HI.out.mono ?_
      rintro e w1 ⟨rfl, rfl⟩
      go_wp2_with fail
      go_ret2
      exact ⟨rfl, rfl⟩
end Go.Proofs.YteienbdbhnikbaaGreatDoor.Hd

namespace Go.Proofs.YteienbdbhnikbaaGreatDoor.Hd
open Go.RowKit Go.Maps Go.Proofs.YteienbdbhnikbaaGreatDoor Go.Proofs.YteienbdbhnikbaaGreatDoor.Hp
set_option linter.unusedVariables false
attribute [local go_sem] Oper.semAt_some

def ksz : Option Kd → Nat
  | none => 0
  | some k => k.sz
theorem kids_len {w : World} {k : Option Kd} {S : Hp} (h : Sat w (kidsHp k * S)) (ty : TypeId) : (Builtin.len_ #[116] ty #[kv k]).run Tryz.prog w = .ok (.int .i64 (ksz k : Int)) w := by
  cases k with
  | none => exact K.smap_nil w ty
  | some k => exact K.smap_len h ty
abbrev infoO (a b c d : Int) : Obj := .cells #[.int .i64 a, .int .i64 b, .int .i64 c, .int .i64 d] 56 (0, 0)
theorem info_cells {w : World} {b : Nat} {x y z u : Int} {S : Hp} (h : Sat w (pts b (infoO x y z u) * S)) : w.cell? ⟨b, 0, none⟩ = some (.int .i64 x) ∧ w.cell? ⟨b, 1, none⟩ = some (.int .i64 y) ∧ w.cell? ⟨b, 2, none⟩ = some (.int .i64 z) ∧ w.cell? ⟨b, 3, none⟩ = some (.int .i64 u) := by
  have hb := h.get
  refine ⟨?_, ?_, ?_, ?_⟩ <;> rw [cell_at hb] <;> rfl
def statE (F : Fs) (k : Int) : Int := match find F.L k with
  | none => 10
  | some _ => 0
def sizeN (x : Nd) : Int := (x.text.size : Int) + (ksz x.kids : Int)
def statV (F : Fs) (k : Int) : Value := match find F.L k with
  | none => .agg #[.int .i64 0, .int .i64 0, .int .i64 0, .int .i64 0]
  | some x => .agg #[.int .i64 x.kind, .int .i64 (sizeN x), .int .i64 x.names, .int .i64 x.holds]
def NdSmall (x : Nd) : Prop := x.text.size ≤ 1000000 ∧ ksz x.kids ≤ 1000000
set_option maxRecDepth 100000 in
set_option maxHeartbeats 8000000 in
theorem Stat_calls (fb mb : Nat) (F : Fs) (k : Int) (hk : I64 k) (hs : ∀ x, find F.L k = some x → NdSmall x) (w : World) (R : Hp) (h : Sat w (fsHp fb mb F * R)) :
    Calls Tryz.prog 22 #[pp fb, .int .i64 k] w fun e w' => e = .returned (.tuple #[statV F k, .int .i64 (statE F k)]) ∧ Below w.heap.size w w' := by
  unfold statE statV
  have H1 := h.alloc (infoO 0 0 0 0)
  obtain ⟨r0, r1, r2, r3⟩ := info_cells H1
  have hB1 := (Below.refl w.heap.size w).alloc (Nat.le_refl _) (infoO 0 0 0 0)
  have H2 := H1.perm (show _ = fsHp fb mb F * (pts w.heap.size (infoO 0 0 0 0) * R) by ac_rfl)
  obtain ⟨c0, c1, c2, c3⟩ := fs_cells H2
  have hl := fs_look H2 k hk
  cases hx : find F.L k with
  | none =>
    have : blk F.L k = none := by unfold blk; rw [hx]; rfl
    rw [this] at hl
    unfold pv at hl
    clear h hx this hs H2 H1
    have HB1 := Lib.hid hB1
    clear hB1
    go_enter Tryz.func22, Tryz.ntmps22
    go_wp2_with fail
    exact bodyPost_ret (v := .tuple #[.agg #[.int .i64 0, .int .i64 0, .int .i64 0, .int .i64 0], .int .i64 10]) (by simp [results, Tryz.results22, go_sem]) rfl ⟨rfl, HB1.out⟩
  | some x =>
    have hl2 : blk F.L k = some x.b := by unfold blk; rw [hx]; rfl
    rw [hl2] at hl
    unfold pv at hl
    obtain ⟨h1, h2⟩ := hs x hx
    obtain ⟨X, H3, _⟩ := fs_node H2 hx
    have D3 := H3.drew
    have hlen := kids_len (D3.perm (show _ = kidsHp x.kids * (pts x.b (ndO x) * (pts fb (fsO F mb) * (X * (pts w.heap.size (infoO 0 0 0 0) * R)))) by ac_rfl))
    obtain ⟨d0, d1, d2, d3, d4, d5⟩ := nd_cells D3
    have D5 := ((h.alloc (infoO x.kind ((x.text.size : Int) + (ksz x.kids : Int)) x.names x.holds)).perm (show _ = fsHp fb mb F * (pts w.heap.size (infoO x.kind ((x.text.size : Int) + (ksz x.kids : Int)) x.names x.holds) * R) by ac_rfl)).drew
    obtain ⟨X5, D6, _⟩ := fs_node D5 hx
    obtain ⟨q0, q1, q2, q3, q4, q5⟩ := nd_cells D6
    have hlen5 := kids_len (D6.perm (show _ = kidsHp x.kids * (pts x.b (ndO x) * (pts fb (fsO F mb) * (X5 * (pts w.heap.size (infoO x.kind ((x.text.size : Int) + (ksz x.kids : Int)) x.names x.holds) * R)))) by ac_rfl))
    obtain ⟨r0, r1, r2, r3⟩ := info_cells (D6.perm (show _ = pts w.heap.size (infoO x.kind ((x.text.size : Int) + (ksz x.kids : Int)) x.names x.holds) * (kidsHp x.kids * (pts x.b (ndO x) * (pts fb (fsO F mb) * (X5 * R)))) by ac_rfl))
    have HB3 := Lib.hid (((Below.refl w.heap.size w).alloc (Nat.le_refl _) (infoO x.kind ((x.text.size : Int) + (ksz x.kids : Int)) x.names x.holds)).trans ⟨rfl, rfl, rfl, Nat.le_refl _, fun _ _ => rfl⟩ : Below w.heap.size w (w.alloc (infoO x.kind ((x.text.size : Int) + (ksz x.kids : Int)) x.names x.holds)).drew)
    show Calls _ _ _ _ (fun e w' => e = .returned (.tuple #[.agg #[.int .i64 x.kind, .int .i64 ((x.text.size : Int) + (ksz x.kids : Int)), .int .i64 x.names, .int .i64 x.holds], .int .i64 0]) ∧ Below w.heap.size w w')
    have hb1 : (x.text.size : Int) ≤ 1000000 := by omega
    have hb2 : (ksz x.kids : Int) ≤ 1000000 := by omega
    have hb3 : (0 : Int) ≤ (ksz x.kids : Int) := by omega
    have hw : IntKind.i64.wrap ((x.text.size : Int) + (ksz x.kids : Int)) = (x.text.size : Int) + (ksz x.kids : Int) := IntWalk.i64_in _ (by omega)
    clear h hx hl2 hs H2 H1 H3 D3 D5 D6 h1 h2 hB1 c0 c1 c2
    go_enter Tryz.func22, Tryz.ntmps22
    go_wp2_with fail
    refine region_plan (S := (fun w' => w'.cell? ⟨x.b, 0, none⟩ = some (.int .i64 x.kind) ∧ w'.cell? ⟨x.b, 1, none⟩ = some (.string x.text) ∧ w'.cell? ⟨x.b, 2, none⟩ = some (kv x.kids) ∧ w'.cell? ⟨x.b, 4, none⟩ = some (.int .i64 x.names) ∧ w'.cell? ⟨x.b, 5, none⟩ = some (.int .i64 x.holds) ∧ ∀ ty, (Builtin.len_ #[116] ty #[kv x.kids]).run Tryz.prog w' = .ok (.int .i64 (ksz x.kids : Int)) w')) [(0, true), (1, true), (2, true), (3, true), (4, true), (5, true), (6, true), (7, true), (8, true), (9, true), (10, true), (11, true), (12, true), (13, true), (14, true), (15, true), (16, true), (17, true), (18, true), (19, true), (20, true), (21, true), (22, true), (23, true), (24, false), (25, true)] (by kernel_rfl) (by kernel_rfl) (by kernel_rfl) ?_ ?_
    · ((try dsimp only); (first | done | (first | exact ⟨d0, d1, d2, d4, d5, hlen⟩ | exact ⟨q0, q1, q2, q4, q5, hlen5⟩)))
    simp only [planOps, List.map_cons, List.map_nil, List.getElem?_toArray, List.getElem?_cons_zero, List.getElem?_cons_succ]
    repeat (first
      | ((refine plan_yes (v := ?_) (by rfl) ?_ ?_); rotate_left; (focus (intro w hSw; (try dsimp only at hSw); go_simp; try (with_reducible rfl))); (try simp only [Act.put, List.setIfInBounds_toArray, List.set_cons_zero, List.set_cons_succ]))
      | ((refine plan_no (by rfl) ?_); (try simp only [Act.put, List.setIfInBounds_toArray, List.set_cons_zero, List.set_cons_succ]))
      | ((refine plan_step (fun K hK => ?_)); (first | (fail) | (go_simp; (fail); (try go_wp2_with fail)) | go_simp); (refine hK.out _ _ ?_ (fun hHeld => ?_)); (focus ((try dsimp only); (first | done | (first | exact ⟨d0, d1, d2, d4, d5, hlen⟩ | exact ⟨q0, q1, q2, q4, q5, hlen5⟩)))); clear hK K; (try simp only [Act.put, List.setIfInBounds_toArray, List.set_cons_zero, List.set_cons_succ])))
    refine plan_done ?_
    go_wp2_with fail
    exact bodyPost_ret (v := .tuple #[.agg #[.int .i64 x.kind, .int .i64 ((x.text.size : Int) + (ksz x.kids : Int)), .int .i64 x.names, .int .i64 x.holds], .int .i64 0]) (by simp [results, Tryz.results22, go_sem, r0, r1, r2, r3]) rfl ⟨rfl, HB3.out⟩
end Go.Proofs.YteienbdbhnikbaaGreatDoor.Hd

namespace Go.Proofs.YteienbdbhnikbaaGreatDoor.Hd
open Go.RowKit Go.Maps Go.Proofs.YteienbdbhnikbaaGreatDoor Go.Proofs.YteienbdbhnikbaaGreatDoor.Hp
set_option linter.unusedVariables false
attribute [local go_sem] Oper.semAt_some

structure NdOk (x : Nd) : Prop where
  text : x.text.size ≤ 1000000
  kids : ksz x.kids ≤ 1000000
  holds : 0 ≤ x.holds ∧ x.holds ≤ 1000000
  names : 0 ≤ x.names ∧ x.names ≤ 1000000
def FsOk (F : Fs) : Prop := ∀ k x, find F.L k = some x → NdOk x
theorem FsOk.small {F : Fs} (h : FsOk F) (k : Int) : ∀ x, find F.L k = some x → NdSmall x := fun x hx => ⟨(h k x hx).text, (h k x hx).kids⟩
def Fs.put (F : Fs) (k : Int) (x : Nd) : Fs := { F with L := upd F.L k x }
def holdP (F : Fs) (k : Int) : Fs := match find F.L k with
  | none => F
  | some x => F.put k { x with holds := x.holds + 1 }
theorem below_ran {w w' : World} {B : Nat} (h : Below B w w') : Ran w w' := h.mono (Nat.zero_le _)
set_option maxRecDepth 100000 in
set_option maxHeartbeats 8000000 in
theorem Hold_calls (fb mb : Nat) (F : Fs) (k : Int) (hk : I64 k) (hs : FsOk F) (w : World) (R : Hp) (h : Sat w (fsHp fb mb F * R)) :
    Calls Tryz.prog 46 #[pp fb, .int .i64 k] w fun e w' => (e = .returned (.int .i64 (statE F k)) ∧ Sat w' (fsHp fb mb (holdP F k) * R)) ∧ Ran w w' := by
  have HS := Stat_calls fb mb F k hk (hs.small k) w R h
  unfold statE statV at HS
  unfold statE holdP
  cases hx : find F.L k with
  | none =>
    rw [hx] at HS
    have HS := Lib.hid HS
    have H0 := Lib.hid h
    clear h hx hs
    go_enter Tryz.func46, Tryz.ntmps46
    go_wp2_with fail
    refine HS.out.mono ?_
    rintro e w1 ⟨rfl, hB⟩
    have S1 := Lib.hid (H0.out.below hB)
    have R1 := Lib.hid (below_ran hB)
    clear hB HS
    go_wp2_with fail
    go_ret
    exact ⟨⟨rfl, S1.out.old _⟩, Ran.new R1.out _⟩
  | some x =>
    rw [hx] at HS
    have HS := Lib.hid HS
    have H0 := Lib.hid h
    have hh := (hs k x hx).holds
    obtain ⟨hh1, hh2⟩ := hh
    have Hx := Lib.hid hx
    clear h hs hx
    go_enter Tryz.func46, Tryz.ntmps46
    go_wp2_with fail
    refine HS.out.mono ?_
    rintro e w1 ⟨rfl, hB⟩
    have S1 := (H0.out.below hB).old (infoO x.kind (sizeN x) x.names x.holds)
    have R1 := Lib.hid (Ran.new (below_ran hB) (infoO x.kind (sizeN x) x.names x.holds))
    obtain ⟨c0, c1, c2, c3⟩ := fs_cells S1
    have hl := fs_look S1 k hk
    rw [show blk F.L k = some x.b by unfold blk; rw [Hx.out]; rfl] at hl
    unfold pv at hl
    obtain ⟨X, S2, back⟩ := fs_node S1 Hx.out
    obtain ⟨d0, d1, d2, d3, d4, d5⟩ := nd_cells S2
    have f0 : ∀ i, (w1.alloc (infoO x.kind (sizeN x) x.names x.holds)).frozen? ⟨x.b, i, none⟩ = false := fun i => free_at S2.get i
    have S3 := Lib.hid (back _ { x with holds := x.holds + 1 } (F.put k { x with holds := x.holds + 1 }) R rfl rfl rfl (S2.set (i := 5) (.int .i64 (x.holds + 1))))
    clear hB HS S1 S2 back
    go_wp2_with fail
    go_ret
    exact ⟨⟨rfl, S3.out⟩, R1.out.set _ _⟩
def dropE (F : Fs) (k : Int) : Int := match find F.L k with
  | none => 10
  | some x => if x.holds = 0 then 1 else 0
end Go.Proofs.YteienbdbhnikbaaGreatDoor.Hd

namespace Go.Proofs.YteienbdbhnikbaaGreatDoor.Hd
open Go.RowKit Go.Maps Go.Proofs.YteienbdbhnikbaaGreatDoor Go.Proofs.YteienbdbhnikbaaGreatDoor.Hp
set_option linter.unusedVariables false
attribute [local go_sem] Oper.semAt_some

def readB (t : ByteArray) (a m : Nat) : ByteArray := (t.extract (min a t.size) t.size).extract 0 (min m (t.extract (min a t.size) t.size).size)
theorem textE_ok {F : Fs} {k : Int} {x : Nd} (hx : find F.L k = some x) (hd : x.kind ≠ 1) : textE F k = 0 ∧ textV F k = some x.b := by
  unfold textE textV
  rw [hx]
  exact ⟨if_neg hd, if_neg hd⟩
set_option maxRecDepth 100000 in
set_option maxHeartbeats 8000000 in
theorem Read_calls (fb mb : Nat) (F : Fs) (k : Int) (a m : Nat) (x : Nd) (hk : I64 k) (ha : a ≤ 1000000000000) (hm : m ≤ 9223372036854775807) (hs : FsOk F) (hx : find F.L k = some x) (hd : x.kind ≠ 1) (w : World) (R : Hp) (h : Sat w (fsHp fb mb F * R)) :
    Calls Tryz.prog 29 #[pp fb, .int .i64 k, .int .i64 a, .int .i64 m] w fun e w' => (e = .returned (.tuple #[.string (readB x.text a m), .int .i64 0]) ∧ Sat w' (fsHp fb mb F * R)) ∧ Ran w w' := by
  have HT := text_calls fb mb F k hk w R h
  rw [(textE_ok hx hd).1, (textE_ok hx hd).2] at HT
  unfold pv at HT
  have HT := Lib.hid HT
  have h1 := (hs k x hx).text
  obtain ⟨-, d1, -⟩ := fs_at h hx
  have d1' : w.drew.cell? ⟨x.b, 1, none⟩ = some (.string x.text) := d1
  have H0 := Lib.hid h
  have ha0 : (0 : Int) ≤ (a : Int) := by omega
  have hm0 : (0 : Int) ≤ (m : Int) := by omega
  have h1I : (x.text.size : Int) ≤ 1000000 := by omega
  unfold readB
  obtain ⟨pa, hpa⟩ : ∃ p, p = min a x.text.size := ⟨_, rfl⟩
  rw [← hpa]
  have hmin : min (a : Int) (x.text.size : Int) = (pa : Int) := by omega
  have hp0 : (0 : Int) ≤ (pa : Int) := by omega
  have hp1 : (pa : Int) ≤ (x.text.size : Int) := by omega
  obtain ⟨rs, hrs⟩ : ∃ r, r = x.text.extract pa x.text.size := ⟨_, rfl⟩
  rw [← hrs]
  obtain ⟨pm, hpm⟩ : ∃ p, p = min m rs.size := ⟨_, rfl⟩
  rw [← hpm]
  have hmin2 : min (m : Int) (rs.size : Int) = (pm : Int) := by omega
  have hp2 : (0 : Int) ≤ (pm : Int) := by omega
  have hp3 : (pm : Int) ≤ (rs.size : Int) := by omega
  have Hrs := Lib.hid hrs.symm
  have hp1n : pa ≤ x.text.size := by omega
  have hp3n : pm ≤ rs.size := by omega
  clear h hx hd hs hpa hpm hrs
  go_enter Tryz.func29, Tryz.ntmps29
  go_wp2_with fail
  refine HT.out.mono ?_
  rintro e w1 ⟨rfl, rfl⟩
  go_wp2_with fail
  refine region_plan (S := (fun w' => w'.cell? ⟨x.b, 1, none⟩ = some (.string x.text))) [(0, true), (1, true), (2, true), (3, true), (4, true), (5, true), (6, true), (7, true), (8, true), (9, true), (10, true), (11, true), (12, true)] (by kernel_rfl) (by kernel_rfl) (by kernel_rfl) ?_ ?_
  · ((try dsimp only); (first | done | (exact d1')))
  simp only [planOps, List.map_cons, List.map_nil, List.getElem?_toArray, List.getElem?_cons_zero, List.getElem?_cons_succ]
  repeat (first
    | ((refine plan_yes (v := ?_) (by rfl) ?_ ?_); rotate_left; (focus (intro w hSw; (try dsimp only at hSw); go_simp; try (with_reducible rfl))); (try simp only [Act.put, List.setIfInBounds_toArray, List.set_cons_zero, List.set_cons_succ]))
    | ((refine plan_no (by rfl) ?_); (try simp only [Act.put, List.setIfInBounds_toArray, List.set_cons_zero, List.set_cons_succ]))
    | ((refine plan_step (fun K hK => ?_)); (first | (fail) | (go_simp; (fail); (try go_wp2_with fail)) | go_simp); (refine hK.out _ _ ?_ (fun hHeld => ?_)); (focus ((try dsimp only); (first | done | (exact d1')))); clear hK K; (try simp only [Act.put, List.setIfInBounds_toArray, List.set_cons_zero, List.set_cons_succ])))
  refine plan_done ?_
  rw [Hrs.out]
  go_wp2_with fail
  go_ret2
  exact ⟨⟨rfl, H0.out.drew⟩, Ran.drewN (Below.refl 0 w) 1⟩
def zerosB (n : Nat) : ByteArray := ⟨(Lib.repeatL [0] n).toArray⟩
/-- The bytes d put at a. -/
def wrB (t : ByteArray) (a : Nat) (d : ByteArray) : ByteArray := t.extract 0 (min a t.size) ++ zerosB (a - t.size) ++ d ++ t.extract (min (a + d.size) t.size) t.size
def moreB (t : ByteArray) (a : Nat) (d : ByteArray) : Nat := (a + d.size) - t.size
def writeP (F : Fs) (k : Int) (x : Nd) (a : Nat) (d : ByteArray) : Int × Fs :=
  if 4096 < a ∨ 4096 - a < d.size then (21, F) else if d.size = 0 then (0, F) else if F.room - F.used < (moreB x.text a d : Int) then (15, F)
  else (0, { F.put k { x with text := wrB x.text a d } with used := F.used + (moreB x.text a d : Int) })
theorem used_back {fb mb : Nat} {F : Fs} {u : Int} {R : Hp} {w : World} (h : Sat w (fsHp fb mb F * R)) : Sat (w.setCell ⟨fb, 2, none⟩ (.int .i64 u)) (fsHp fb mb { F with used := u } * R) := by
  have h1 := h.perm (show _ = pts fb (fsO F mb) * (pmap mb (blk F.L) F.L.length F.n * nds F.L * R) by unfold fsHp; ac_rfl)
  exact (h1.set (i := 2) (.int .i64 u)).perm (show pts fb (fsO { F with used := u } mb) * _ = _ by unfold fsHp; ac_rfl)
set_option maxRecDepth 100000 in
set_option maxHeartbeats 2000000 in
theorem Write_no (fb mb : Nat) (F : Fs) (k : Int) (a : Nat) (x : Nd) (d : ByteArray) (hk : I64 k) (ha : a ≤ 1000000000) (hd : d.size ≤ 1000000000) (hs : FsOk F) (hx : find F.L k = some x) (h2 : x.kind = 2) (hu : 0 ≤ F.used ∧ F.used ≤ 1000000000) (hr : 0 ≤ F.room ∧ F.room ≤ 1000000000) (hno : (writeP F k x a d).1 ≠ 0 ∨ d.size = 0) (w : World) (R : Hp) (h : Sat w (fsHp fb mb F * R)) :
    Calls Tryz.prog 187 #[pp fb, .int .i64 k, .int .i64 a, .string d] w fun e w' => (e = .returned (.int .i64 (writeP F k x a d).1) ∧ Sat w' (fsHp fb mb (writeP F k x a d).2 * R)) ∧ Ran w w' := by
  have HT := text_calls fb mb F k hk w R h
  have hd1 : x.kind ≠ 1 := by omega
  rw [(textE_ok hx hd1).1, (textE_ok hx hd1).2] at HT
  unfold pv at HT
  have HT := Lib.hid HT
  have h1 := (hs k x hx).text
  have hxx := fs_at h hx
  rw [h2] at hxx
  obtain ⟨d0, d1, -⟩ := hxx
  have H0 := Lib.hid h
  have ha0 : (0 : Int) ≤ (a : Int) := by omega
  have haI : (a : Int) ≤ 1000000000 := by omega
  have hd0 : (0 : Int) ≤ (d.size : Int) := by omega
  have hdI : (d.size : Int) ≤ 1000000000 := by omega
  have h1I : (x.text.size : Int) ≤ 1000000 := by omega
  unfold writeP at hno ⊢
  by_cases hb1 : 4096 < a
  · rw [if_pos (.inl hb1)]
    have hb1I : (4096 : Int) < a := by omega
    clear h hx hs h2 hd1 hno
    go_enter Tryz.func187, Tryz.ntmps187
    go_wp2_with fail
    refine HT.out.mono ?_
    rintro e w1 ⟨rfl, rfl⟩
    go_wp2_with fail
    go_ret
    exact ⟨⟨rfl, H0.out⟩, Below.refl 0 w⟩
  by_cases hb2 : 4096 - a < d.size
  · rw [if_pos (.inr hb2)]
    have hb1I : (a : Int) ≤ 4096 := by omega
    have hb2I : (4096 : Int) - a < d.size := by omega
    clear h hx hs h2 hd1 hno
    go_enter Tryz.func187, Tryz.ntmps187
    go_wp2_with fail
    refine HT.out.mono ?_
    rintro e w1 ⟨rfl, rfl⟩
    go_wp2_with fail
    go_ret
    exact ⟨⟨rfl, H0.out⟩, Below.refl 0 w⟩
  rw [if_neg (by omega)] at hno ⊢
  have hb1I : (a : Int) ≤ 4096 := by omega
  have hb2I : (d.size : Int) ≤ (4096 : Int) - a := by omega
  by_cases hz : d.size = 0
  · rw [if_pos hz]
    obtain rfl : d = ⟨#[]⟩ := by
      cases d with | mk l =>
      have : l.size = 0 := hz
      rw [Array.eq_empty_of_size_eq_zero this]
    clear h hx hs h2 hd1 hd0 hdI hz hno
    go_enter Tryz.func187, Tryz.ntmps187
    go_wp2_with fail
    refine HT.out.mono ?_
    rintro e w1 ⟨rfl, rfl⟩
    go_wp2_with fail
    go_ret
    exact ⟨⟨rfl, H0.out⟩, Below.refl 0 w⟩
  rw [if_neg hz] at hno ⊢
  have hzl : d.toList.isEmpty = false := by
    cases hl : d.toList with
    | nil => exact absurd (by rw [ByteArray.toList_eq] at hl; have := congrArg List.length hl; simpa using this) hz
    | cons y l => rfl
  obtain ⟨u0, u1⟩ := hu
  obtain ⟨r0, r1⟩ := hr
  obtain ⟨mo, hmo⟩ : ∃ m, m = moreB x.text a d := ⟨_, rfl⟩
  rw [← hmo] at hno ⊢
  unfold moreB at hmo
  have hmax : max 0 ((a : Int) + (d.size : Int) - (x.text.size : Int)) = (mo : Int) := by omega
  obtain ⟨c0, c1, c2, c3⟩ := fs_cells h
  have e1 : w.drew.cell? ⟨fb, 1, none⟩ = some (.int .i64 F.room) := c1
  have e2 : w.drew.cell? ⟨fb, 2, none⟩ = some (.int .i64 F.used) := c2
  have hwr : IntKind.i64.wrap (F.room - F.used) = F.room - F.used := IntWalk.i64_in _ (by omega)
  by_cases hro : F.room - F.used < (mo : Int)
  · rw [if_pos hro]
    clear h hx hs h2 hd1 hmo hno
    go_enter Tryz.func187, Tryz.ntmps187
    go_wp2_with fail
    refine HT.out.mono ?_
    rintro e w1 ⟨rfl, rfl⟩
    go_wp2_with fail
    refine region_plan (S := (fun w' => w'.cell? ⟨fb, 1, none⟩ = some (.int .i64 F.room) ∧ w'.cell? ⟨fb, 2, none⟩ = some (.int .i64 F.used))) [(0, true), (1, true), (2, true), (3, true), (4, true), (5, true), (6, true), (7, true), (8, true), (9, true), (10, true)] (by kernel_rfl) (by kernel_rfl) (by kernel_rfl) ?_ ?_
    · ((try dsimp only); (first | done | (exact ⟨e1, e2⟩)))
    simp only [planOps, List.map_cons, List.map_nil, List.getElem?_toArray, List.getElem?_cons_zero, List.getElem?_cons_succ]
    repeat (first
      | ((refine plan_yes (v := ?_) (by rfl) ?_ ?_); rotate_left; (focus (intro w hSw; (try dsimp only at hSw); go_simp; try (with_reducible rfl))); (try simp only [Act.put, List.setIfInBounds_toArray, List.set_cons_zero, List.set_cons_succ]))
      | ((refine plan_no (by rfl) ?_); (try simp only [Act.put, List.setIfInBounds_toArray, List.set_cons_zero, List.set_cons_succ]))
      | ((refine plan_step (fun K hK => ?_)); (first | (fail) | (go_simp; (fail); (try go_wp2_with fail)) | go_simp); (refine hK.out _ _ ?_ (fun hHeld => ?_)); (focus ((try dsimp only); (first | done | (exact ⟨e1, e2⟩)))); clear hK K; (try simp only [Act.put, List.setIfInBounds_toArray, List.set_cons_zero, List.set_cons_succ])))
    refine plan_done ?_
    go_wp2_with fail
    go_ret
    exact ⟨⟨rfl, H0.out.drew⟩, Ran.drewN (Below.refl 0 w) 1⟩
  · rw [if_neg hro] at hno
    rcases hno with h0 | h0
    · exact absurd rfl h0
    · exact absurd h0 hz
end Go.Proofs.YteienbdbhnikbaaGreatDoor.Hd

