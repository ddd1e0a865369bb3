/- A map and a cell of no log; a map of floats: NewMap, Set, Get. -/
import Derived.Test.YtibgpkcklneloaaNiD
namespace Go.Proofs.Ytibgpkcklneloaa.Undo
open Go.RowKit Go.ChangeMaps Go.Proofs.Ytibgpkcklneloaa Go.Proofs.Ytibgpkcklneloaa.Hp
set_option linter.unusedVariables false
attribute [local go_sem] Oper.semAt_some

theorem set0_calls (m : Nat) (k : ByteArray) (v : Int) (B : Nat) (M : ByteArray → Option Int) (w : World) (S : Hp) (hk : k.size ≤ maxLen) (h : Sat w (MapAt m none B M * S)) :
    Calls Try.prog 28 #[.pointer (some ⟨m, 0, none⟩), .string k, .int .i64 v] w fun e w' => e = .returned (.int .i64 2) ∧ Sat w' (MapAt m none B M * S) ∧ Ran w w' := by
  have Hn := Lib.hid (mnote0_calls m k B M w S hk h)
  clear h
  go_enter Try.func28, Try.ntmps28
  go_wp2_with fail
  refine Hn.out.mono ?_
  rintro e w1 ⟨rfl, HL, R1⟩
  have HL := Lib.hid HL
  go_wp2_with fail
  go_ret
  exact ⟨rfl, HL.out, R1⟩
theorem del0_calls (m : Nat) (k : ByteArray) (B : Nat) (M : ByteArray → Option Int) (w : World) (S : Hp) (h : Sat w (MapAt m none B M * S)) :
    Calls Try.prog 29 #[.pointer (some ⟨m, 0, none⟩), .string k] w fun e w' => e = .returned (.int .i64 2) ∧ w = w' := by
  obtain ⟨mp, n, hn, hM, HS⟩ := mapAt_out h
  obtain ⟨c0, c1⟩ := map_cells HS
  clear HS h
  go_enter Try.func29, Try.ntmps29
  go_wp2_with fail
  go_ret
  exact ⟨rfl, rfl⟩
set_option maxRecDepth 100000 in
set_option maxHeartbeats 4000000 in
theorem cset0_calls (cb : Nat) (c v : ByteArray) (w : World) (R : Hp) (h : Sat w (CellAt cb none c * R)) :
    Calls Try.prog 31 #[.pointer (some ⟨cb, 0, none⟩), .string v] w fun e w' => e = .returned (.int .i64 2) ∧ Sat w' (CellAt cb none c * R) ∧ Ran w w' := by
  have H2 := (h.alloc (coO cb)).alloc (kO c)
  have hsz : (w.alloc (coO cb)).heap.size = w.heap.size + 1 := World.size_alloc _ _
  rw [hsz] at H2
  obtain ⟨c0, c1, cz⟩ := cell_cells (pull1 (h.alloc (coO cb)))
  obtain ⟨y0, y1, yz⟩ := cell_cells (pull2 H2)
  have Hsz := Lib.hid hsz
  have HF := Lib.hid ((pull2 H2).perm (show _ = (CellAt cb none c * R) * (pts (w.heap.size + 1) (kO c) * pts w.heap.size (coO cb)) by ac_rfl))
  clear hsz h
  go_enter Try.func31, Try.ntmps31
  go_wp2_with fail
  refine (nnote_calls 47 _ _).mono ?_
  rintro e w1 ⟨rfl, rfl⟩
  clear H2 c0 c1 cz y0 y1 yz
  go_wp2_with fail
  go_ret
  exact ⟨rfl, HF.out.left, Ran.new (Ran.new (Below.refl 0 w) _) _⟩
theorem newfmap_calls (lb : Option Addr) (w : World) (S : Hp) (h : Sat w S) :
    Calls Try.prog 33 #[.pointer lb] w fun e w' => ∃ m mb, e = .returned (.pointer (some ⟨m, 0, none⟩)) ∧ Sat w' (pts m (mapF lb mb) * (fMap mb none * S)) ∧ Ran w w' := by
  have H2 := Lib.hid ((h.alloc (.map #[] 0)).alloc (mapF lb w.heap.size))
  clear h
  have hmk : (Instr.makeMap 95 none).run Try.prog w = .ok (.map (some w.heap.size)) (w.alloc (.map #[] 0)) := rfl
  go_enter Try.func33, Try.ntmps33
  go_wp2_with fail
  go_ret
  rw [← World.size_alloc w (.map #[] 0)]
  exact ⟨_, _, rfl, H2.out, Ran.new (Ran.new (Below.refl 0 w) _) _⟩
/-- What a map has behind Set at a number. -/
def keyF (x : Nat) : Option Nat := if Op.floatEq .f64 x x = true then some x else none
set_option maxRecDepth 100000 in
set_option maxHeartbeats 4000000 in
theorem fset_calls (lb m mb : Nat) (x : Nat) (w : World) (R : Hp) (h : LogAt w lb 5 5 [] [] (pts m (mapF (some ⟨lb, 0, none⟩) mb) * (fMap mb none * R))) :
    Calls Try.prog 34 #[.pointer (some ⟨m, 0, none⟩), fV x, .int .i64 1] w fun e w' => e = .returned (.int .i64 (if Op.floatEq .f64 x x = true then 0 else 1)) ∧ LogAt w' lb 5 5 [] [] (pts m (mapF (some ⟨lb, 0, none⟩) mb) * (fMap mb (keyF x) * R)) ∧ Ran w w' := by
  unfold keyF
  have hne : (FloatKind.f64.format.order x x != some Ordering.eq) = !Op.floatEq .f64 x x := rfl
  cases hx : Op.floatEq .f64 x x
  · rw [if_neg (by decide), if_neg (by decide)]
    rw [hx] at hne; simp only [Bool.not_false] at hne
    have H := Lib.hid h
    clear h hx
    go_enter Try.func34, Try.ntmps34
    go_wp2_with fail
    go_ret
    exact ⟨rfl, H.out, Below.refl _ _⟩
  · rw [if_pos rfl, if_pos rfl]
    rw [hx] at hne; simp only [Bool.not_true] at hne
    have Hn := Lib.hid (fnote_calls lb m mb x w R h)
    clear h hx
    go_enter Try.func34, Try.ntmps34
    go_wp2_with fail
    refine Hn.out.mono ?_
    rintro e w1 ⟨rfl, HL, R1⟩
    obtain ⟨np, nc, qp, qc, HL⟩ := HL
    have HS := HL.perm (show _ = fMap mb none * (pts m (mapF (some ⟨lb, 0, none⟩) mb) * (pts lb (logO 5 5 np ([] : List Value).length nc qp ([] : List Nat).length qc) * (notes np ([] : List Value).length nc [] * (marksA qp qc [] * R)))) by ac_rfl)
    have hput := fput_run x HS
    obtain ⟨c0, c1⟩ := mapF_cells (pull1 HS)
    have HF := Lib.hid (fset_put HS (.map #[⟨fV x, .int .i64 1, 0⟩] 1))
    have RF := Ran.block' R1 mb (.map #[⟨fV x, .int .i64 1, 0⟩] 1)
    clear HS HL Hn
    go_wp2_with fail
    go_ret
    exact ⟨rfl, ⟨np, nc, qp, qc, HF.out.perm (by show pts mb (.map #[⟨fV x, .int .i64 1, 0⟩] 1) * _ = _; show _ = pts lb _ * (_ * (_ * (pts m (mapF (some ⟨lb, 0, none⟩) mb) * (pts mb (.map #[⟨fV x, .int .i64 1, 0⟩] 1) * R)))); ac_rfl)⟩, RF⟩
set_option maxHeartbeats 4000000 in
theorem fget_calls (m mb : Nat) (lb : Option Addr) (x : Nat) (w : World) (S : Hp) (h : Sat w (pts m (mapF lb mb) * (fMap mb (keyF x) * S))) :
    Calls Try.prog 35 #[.pointer (some ⟨m, 0, none⟩), fV x] w fun e w' => (∃ v, e = .returned (.tuple #[.int .i64 v, .bool (Op.floatEq .f64 x x)])) ∧ w = w' := by
  unfold keyF at h
  obtain ⟨c0, c1⟩ := mapF_cells h
  cases hx : Op.floatEq .f64 x x
  · rw [hx, if_neg (by decide)] at h
    have hl := flook_none (pull1 h) x
    clear h hx
    go_enter Try.func35, Try.ntmps35
    go_wp2_with fail
    go_ret2
    exact ⟨⟨_, rfl⟩, rfl⟩
  · rw [hx, if_pos rfl] at h
    have hl := flook_some x (pull1 h) hx
    clear h hx
    go_enter Try.func35, Try.ntmps35
    go_wp2_with fail
    go_ret2
    exact ⟨⟨_, rfl⟩, rfl⟩
end Go.Proofs.Ytibgpkcklneloaa.Undo
