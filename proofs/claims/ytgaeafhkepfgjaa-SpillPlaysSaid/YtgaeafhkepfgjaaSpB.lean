/- The spill package, walked: New, Open, is, at, Held, Chunks, Buffers, Len. -/
import Derived.Test.YtgaeafhkepfgjaaSpA
namespace Go.Proofs.Ytgaeafhkepfgjaa.Spill
open Go.RowKit Go.Proofs.Ytgaeafhkepfgjaa Go.Proofs.Ytgaeafhkepfgjaa.Hp

theorem held_calls (w : World) (b : Nat) (h : Int) (hh : w.cell? ⟨b, 3, none⟩ = some (.int .i64 h)) :
    Calls Try.prog 11 #[.pointer (some ⟨b, 0, none⟩)] w fun e w' => e = .returned (.int .i64 h) ∧ w = w' := by
  go_enter Try.func11, Try.ntmps11
  go_wp2
  go_ret
  exact ⟨rfl, rfl⟩
theorem held_nil (w : World) : Calls Try.prog 11 #[.pointer none] w fun e w' => e = .returned (.int .i64 0) ∧ w = w' := by
  go_enter Try.func11, Try.ntmps11
  go_wp2
  go_ret
  exact ⟨rfl, rfl⟩
theorem chunks_calls (w : World) (b : Nat) (h : Int) (hh : w.cell? ⟨b, 4, none⟩ = some (.int .i64 h)) :
    Calls Try.prog 12 #[.pointer (some ⟨b, 0, none⟩)] w fun e w' => e = .returned (.int .i64 h) ∧ w = w' := by
  go_enter Try.func12, Try.ntmps12
  go_wp2
  go_ret
  exact ⟨rfl, rfl⟩
theorem chunks_nil (w : World) : Calls Try.prog 12 #[.pointer none] w fun e w' => e = .returned (.int .i64 0) ∧ w = w' := by
  go_enter Try.func12, Try.ntmps12
  go_wp2
  go_ret
  exact ⟨rfl, rfl⟩
theorem buffers_calls (w : World) (b : Nat) (h : Int) (hh : w.cell? ⟨b, 5, none⟩ = some (.int .i64 h)) :
    Calls Try.prog 26 #[.pointer (some ⟨b, 0, none⟩)] w fun e w' => e = .returned (.int .i64 h) ∧ w = w' := by
  go_enter Try.func26, Try.ntmps26
  go_wp2
  go_ret
  exact ⟨rfl, rfl⟩
theorem buffers_nil (w : World) : Calls Try.prog 26 #[.pointer none] w fun e w' => e = .returned (.int .i64 0) ∧ w = w' := by
  go_enter Try.func26, Try.ntmps26
  go_wp2
  go_ret
  exact ⟨rfl, rfl⟩
theorem is_nil (w : World) : Calls Try.prog 28 #[.pointer none] w fun e w' => e = .returned (.int .i64 2) ∧ w = w' := by
  go_enter Try.func28, Try.ntmps28
  go_wp2
  go_ret
  exact ⟨rfl, rfl⟩
theorem is_closed (w : World) (b : Nat) (hh : w.cell? ⟨b, 1, none⟩ = some (.bool true)) :
    Calls Try.prog 28 #[.pointer (some ⟨b, 0, none⟩)] w fun e w' => e = .returned (.int .i64 18) ∧ w = w' := by
  go_enter Try.func28, Try.ntmps28
  go_wp2
  go_ret
  exact ⟨rfl, rfl⟩
theorem is_open (w : World) (b : Nat) (hh : w.cell? ⟨b, 1, none⟩ = some (.bool false)) :
    Calls Try.prog 28 #[.pointer (some ⟨b, 0, none⟩)] w fun e w' => e = .returned (.int .i64 0) ∧ w = w' := by
  go_enter Try.func28, Try.ntmps28
  go_wp2
  go_ret
  exact ⟨rfl, rfl⟩
theorem len_nil (w : World) : Calls Try.prog 22 #[.pointer none] w fun e w' => e = .returned (.int .i64 0) ∧ w = w' := by
  go_enter Try.func22, Try.ntmps22
  go_wp2_with (go_at_call 28; refine (is_nil _).mono ?_; rintro e w' ⟨rfl, rfl⟩)
  go_ret
  exact ⟨rfl, rfl⟩
theorem len_closed (w : World) (b : Nat) (hh : w.cell? ⟨b, 1, none⟩ = some (.bool true)) :
    Calls Try.prog 22 #[.pointer (some ⟨b, 0, none⟩)] w fun e w' => e = .returned (.int .i64 0) ∧ w = w' := by
  go_enter Try.func22, Try.ntmps22
  go_wp2_with (go_at_call 28; refine (is_closed _ _ hh).mono ?_; rintro e w' ⟨rfl, rfl⟩)
  go_ret
  exact ⟨rfl, rfl⟩
theorem len_open (w : World) (b f t : Nat) (hh : w.cell? ⟨b, 1, none⟩ = some (.bool false)) (hf : w.cell? ⟨b, 5, none⟩ = some (.int .i64 f)) (ht : w.cell? ⟨b, 6, none⟩ = some (.int .i64 t)) (h1 : f ≤ t) (h2 : t ≤ 1000000000000) :
    Calls Try.prog 22 #[.pointer (some ⟨b, 0, none⟩)] w fun e w' => e = .returned (.int .i64 ((t : Int) - f)) ∧ ∃ n, w' = w.drewN n := by
  go_enter Try.func22, Try.ntmps22
  go_wp2_with (go_at_call 28; refine (is_open _ _ hh).mono ?_; rintro e w' ⟨rfl, rfl⟩)
  go_quiet (fail)
  go_wp2
  go_ret
  exact ⟨rfl, _, rfl⟩

/-- New refuses. -/
theorem new_bad (q m c : Int) (w : World) (h : q < 0 ∨ 1048576 < q ∨ m < 0 ∨ 65536 < m ∨ c < 1 ∨ 65536 < c) :
    Calls Try.prog 9 #[.int .i64 q, .int .i64 m, .int .i64 c] w fun e w' => e = .returned (.tuple #[.pointer none, .int .i64 1]) ∧ w = w' := by
  by_cases h1 : q < 0
  · clear h; go_enter Try.func9, Try.ntmps9
    go_wp2; go_ret2; exact ⟨rfl, rfl⟩
  by_cases h2 : 1048576 < q
  · clear h; go_enter Try.func9, Try.ntmps9
    go_wp2; go_ret2; exact ⟨rfl, rfl⟩
  by_cases h3 : m < 0
  · clear h; go_enter Try.func9, Try.ntmps9
    go_wp2; go_ret2; exact ⟨rfl, rfl⟩
  by_cases h4 : 65536 < m
  · clear h; go_enter Try.func9, Try.ntmps9
    go_wp2; go_ret2; exact ⟨rfl, rfl⟩
  by_cases h5 : c < 1
  · clear h; go_enter Try.func9, Try.ntmps9
    go_wp2; go_ret2; exact ⟨rfl, rfl⟩
  have h6 : 65536 < c := by omega
  clear h; go_enter Try.func9, Try.ntmps9
  go_wp2; go_ret2; exact ⟨rfl, rfl⟩

def NewPost (q m c : Nat) (R : Hp) (w : World) (e : Ending) (w' : World) : Prop :=
  ∃ bp, e = .returned (.tuple #[.pointer (some ⟨bp, 0, none⟩), .int .i64 0]) ∧ Sat w' (pool bp q m c 0 0 0 none 0 [] * R) ∧ Ran w w'
theorem new_good (q m c : Nat) (w : World) (R : Hp) (H : Sat w R) (h2 : q ≤ 1048576) (h4 : m ≤ 65536) (h5 : 1 ≤ c) (h6 : c ≤ 65536) :
    Calls Try.prog 9 #[.int .i64 q, .int .i64 m, .int .i64 c] w (NewPost q m c R w) := by
  have g1 : ¬ ((q : Int) < 0) := by omega
  have g2 : ¬ ((1048576 : Int) < q) := by omega
  have g3 : ¬ ((m : Int) < 0) := by omega
  have g4 : ¬ ((65536 : Int) < m) := by omega
  have g5 : ¬ ((c : Int) < 1) := by omega
  have g6 : ¬ ((65536 : Int) < c) := by omega
  go_enter Try.func9, Try.ntmps9
  go_wp2
  go_ret2
  refine ⟨w.heap.size, rfl, ?_, Ran.new (Below.refl _ _) _⟩
  have := (H.alloc (pf q m c 0 0 0 (.slice none 0 0)))
  refine (this.perm ?_)
  unfold pool
  show _ = pts w.heap.size (pf q m c 0 0 0 (.slice none 0 0)) * (arr 58 1 none 0 0 [] * emp) * R
  rw [arr_nil, emp_sep, sep_emp]

/-- A buffer's fields. -/
abbrev bf (bp : Nat) (closed : Bool) (first chunks : Value) (gone frm til : Int) : Obj := .cells #[.pointer (some ⟨bp, 0, none⟩), .bool closed, first, chunks, .int .i64 gone, .int .i64 frm, .int .i64 til] 60 (0, 0)
/-- An open buffer: its fields, its first bytes, its chunks. -/
def bufO (bb bp m c fb : Nat) (p : Option Addr) (cap gone frm til : Nat) (fs : List Value) (L : List (Nat × List Value)) : Hp :=
  pts bb (bf bp false (.slice (some ⟨fb, 0, none⟩) m m) (.slice p L.length cap) gone frm til) *
    (fact (fs.length = m) * pts fb (.cells fs.toArray 5 (0, 0)) * (arr 58 1 p L.length cap (L.map (bs c)) * all (chunk c) L))

def OpenPost (bp q m c held used opn cap : Nat) (p : Option Addr) (F : List (Nat × List Value)) (R : Hp) (w : World) (e : Ending) (w' : World) : Prop :=
  ∃ bb fb fs, e = .returned (.pointer (some ⟨bb, 0, none⟩)) ∧ Sat w' (pool bp q m c held used (opn + 1) p cap F * (bufO bb bp m c fb none 0 0 0 0 fs [] * R)) ∧ Ran w w'
set_option maxHeartbeats 400000 in
theorem open_calls (bp q m c held used opn cap : Nat) (p : Option Addr) (F : List (Nat × List Value)) (R : Hp) (w : World) (hu : opn ≤ 1000000000000) (hm : m ≤ 65536) (H : Sat w (pool bp q m c held used opn p cap F * R)) :
    Calls Try.prog 10 #[.pointer (some ⟨bp, 0, none⟩)] w (OpenPost bp q m c held used opn cap p F R w) := by
  have H1 := H.perm (sep_assoc _ _ _)
  obtain ⟨c0, c1, c2, c3, c4, c5, c6, cf⟩ := cells7 H1.get
  obtain ⟨i0, hi, hz0, hz1, hz2⟩ := info_parts info5
  have hmk : ∀ w' : World, (Instr.makeSlice 58 (.int .i64 (m : Int)) (.int .i64 (m : Int))).run Try.prog w' = .ok (.slice (some ⟨w'.heap.size, 0, none⟩) m m) (w'.alloc (.cells (madeCells #[.int .u8 0] m) 5)) := fun w' => by
    have := run_make (P := Try.prog) w' _ _ i0 _ Try.underlying58 hi hz0 .i64 .i64 (m : Int) (m : Int) (by omega) (by omega) (by rw [hz2]; omega) (by omega)
    simpa [hz1, Value.cells] using this
  clear hi hz0 hz1 hz2
  go_enter Try.func10, Try.ntmps10
  go_wp2
  go_ret
  have hs : (madeCells #[Value.int .u8 0] m).toList.length = m := by simp [size_madeCells]
  refine ⟨w.heap.size + 1, w.heap.size, (madeCells #[.int .u8 0] m).toList, rfl, ?_, Ran.new (Ran.new (Ran.set (Below.refl _ _) _ _) _) _⟩
  have H2 : Sat (w.setCell ⟨bp, 5, none⟩ (.int .i64 ((opn : Int) + 1))) (pts bp (pf q m c held used (opn + 1 : Nat) (.slice p F.length cap)) * (arr 58 1 p F.length cap (F.map (bs c)) * all (chunk c) F * R)) :=
    H1.set (i := 5) (.int .i64 ((opn : Int) + 1))
  have H3 := (H2.alloc (.cells (madeCells #[.int .u8 0] m) 5))
  have H4 := H3.alloc (bf bp false (.slice (some ⟨w.heap.size, 0, none⟩) m m) (.slice none 0 0) 0 0 0)
  simp only [World.size_alloc, World.size_setCell] at H4
  have H5 := H4.fact_in hs
  refine H5.perm ?_
  unfold pool bufO
  show _ = pts bp (pf q m c held used (opn + 1 : Nat) (.slice p F.length cap)) * (arr 58 1 p F.length cap (F.map (bs c)) * all (chunk c) F) * (pts (w.heap.size + 1) (bf bp false (.slice (some ⟨w.heap.size, 0, none⟩) m m) (.slice none 0 0) 0 0 0) *
    (fact ((madeCells #[Value.int .u8 0] m).toList.length = m) * pts w.heap.size (.cells (madeCells #[Value.int .u8 0] m) 5 (0, 0)) * (arr 58 1 none 0 0 [] * emp)) * R)
  rw [arr_nil, emp_sep, sep_emp]
  ac_rfl
theorem open_nil (w : World) : Calls Try.prog 10 #[.pointer none] w fun e w' => e = .returned (.pointer none) ∧ w = w' := by
  go_enter Try.func10, Try.ntmps10
  go_wp2
  go_ret
  exact ⟨rfl, rfl⟩

/-- at, in memory. -/
theorem at_first (w : World) (bb bp fb m pl : Nat) (h0 : w.cell? ⟨bb, 0, none⟩ = some (.pointer (some ⟨bp, 0, none⟩))) (h2 : w.cell? ⟨bb, 2, none⟩ = some (.slice (some ⟨fb, 0, none⟩) m m)) (hm : w.cell? ⟨bp, 1, none⟩ = some (.int .i64 m)) (hl : (pl : Int) < m) :
    Calls Try.prog 30 #[.pointer (some ⟨bb, 0, none⟩), .int .i64 pl] w fun e w' => e = .returned (.slice (some ⟨fb, pl, none⟩) (m - pl) (m - pl)) ∧ ∃ n, w' = w.drewN n := by
  go_enter Try.func30, Try.ntmps30
  go_wp2
  go_ret
  exact ⟨rfl, 0, rfl⟩
set_option maxHeartbeats 400000 in
/-- at, in a chunk. -/
theorem at_chunk (w : World) (bb bp m c b g o n cap gone k off : Nat) (pl : Int) (h0 : w.cell? ⟨bb, 0, none⟩ = some (.pointer (some ⟨bp, 0, none⟩))) (h3 : w.cell? ⟨bb, 3, none⟩ = some (.slice (some ⟨g, o, none⟩) n cap)) (h4 : w.cell? ⟨bb, 4, none⟩ = some (.int .i64 gone))
    (hm : w.cell? ⟨bp, 1, none⟩ = some (.int .i64 m)) (hc : w.cell? ⟨bp, 2, none⟩ = some (.int .i64 c)) (hk : w.cell? ⟨g, o + k, none⟩ = some (.slice (some ⟨b, 0, none⟩) c c)) (hkn : (k : Int) < n) (hoff : (off : Int) < c) (hc1 : c ≤ 65536) (hmp : (m : Int) ≤ pl) (hpl : pl ≤ 1000000000000)
    (e1 : (pl - m) / c = (gone : Int) + k) (e2 : (pl - m) % c = off) (hgk : gone + k ≤ 1000000000000) :
    Calls Try.prog 30 #[.pointer (some ⟨bb, 0, none⟩), .int .i64 pl] w fun e w' => e = .returned (.slice (some ⟨b, off, none⟩) (c - off) (c - off)) ∧ ∃ n, w' = w.drewN n := by
  have hc0 : (1 : Int) ≤ c := by omega
  have hlt : ¬ (pl < m) := by omega
  go_enter Try.func30, Try.ntmps30
  go_wp2_with fail
  go_quiet (fail)
  go_wp2
  go_ret
  exact ⟨rfl, _, rfl⟩
end Go.Proofs.Ytgaeafhkepfgjaa.Spill
