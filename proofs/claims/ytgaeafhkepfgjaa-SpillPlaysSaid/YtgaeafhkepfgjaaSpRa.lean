/- The document's answer for layer 6, walked: what only reads. -/
import Derived.Test.YtgaeafhkepfgjaaSpF
import Derived.Laws.IdiomStrings
namespace Go.Proofs.Ytgaeafhkepfgjaa.Spill
open Go.RowKit Go.Proofs.Ytgaeafhkepfgjaa Go.Proofs.Ytgaeafhkepfgjaa.Hp
set_option linter.unusedVariables false

/-- A buffer, here and in the document's answer: its two blocks, what was drained, what is held. -/
structure Bf where
  ba : Nat
  rb : Nat
  closed : Bool
  pre : List UInt8
  data : List UInt8
instance : Inhabited Bf := ⟨⟨0, 0, false, [], []⟩⟩
/-- How much it holds, how many chunks it uses, whether it is open. -/
def Bf.h (x : Bf) : Nat := if x.closed then 0 else x.data.length
def Bf.u (m c : Nat) (x : Bf) : Nat := if x.closed then 0 else cl m c (x.pre.length + x.data.length) - gn m c x.pre.length
def Bf.o (x : Bf) : Nat := if x.closed then 0 else 1
def sumOf (f : Bf → Nat) (L : List Bf) : Nat := (L.map f).sum
theorem sumOf_take (f : Bf → Nat) (L : List Bf) (i : Nat) (h : i < L.length) : sumOf f (L.take (i + 1)) = sumOf f (L.take i) + f L[i] := by
  unfold sumOf
  rw [List.take_succ_eq_append_getElem h]
  simp only [List.map_append, List.sum_append, List.map_cons, List.map_nil, List.sum_cons, List.sum_nil, Nat.add_zero]
theorem sumOf_take_le (f : Bf → Nat) (L : List Bf) (i : Nat) : sumOf f (L.take i) ≤ sumOf f L := by
  unfold sumOf
  conv => rhs; rw [← List.take_append_drop i L]
  simp only [List.map_append, List.sum_append]
  omega
theorem sumOf_set (f : Bf → Nat) (L : List Bf) (i : Nat) (h : i < L.length) (x : Bf) : sumOf f (L.set i x) + f L[i] = sumOf f L + f x := by
  unfold sumOf
  conv => rhs; rw [← List.take_append_drop i L, List.drop_eq_getElem_cons h]
  rw [List.set_eq_take_append_cons_drop, if_pos h]
  simp only [List.map_append, List.sum_append, List.map_cons, List.sum_cons]
  omega
theorem sumOf_snoc (f : Bf → Nat) (L : List Bf) (x : Bf) : sumOf f (L ++ [x]) = sumOf f L + f x := by
  unfold sumOf
  simp
abbrev rbo (x : Bf) : Obj := .cells #[.string ⟨(x.pre ++ x.data).toArray⟩, .int .i64 x.pre.length, .bool x.closed] 65 (0, 0)
def rbuf (x : Bf) : Hp := pts x.rb (rbo x)
def rptr (x : Bf) : Value := .pointer (some ⟨x.rb, 0, none⟩)
abbrev rpo (q m c : Nat) (l : Value) : Obj := .cells #[.int .i64 q, .int .i64 m, .int .i64 c, l] 48 (0, 0)
def rpool (rp q m c cap : Nat) (p : Option Addr) (L : List Bf) : Hp := pts rp (rpo q m c (.slice p L.length cap)) * arr 43 1 p L.length cap (L.map rptr)
def Small (x : Bf) : Prop := x.pre.length + x.data.length ≤ 1000000

theorem rbo_cells {w : World} {x : Bf} (h : w.heap[x.rb]? = some (rbo x)) :
    w.cell? ⟨x.rb, 0, none⟩ = some (.string ⟨(x.pre ++ x.data).toArray⟩) ∧ w.cell? ⟨x.rb, 1, none⟩ = some (.int .i64 x.pre.length) ∧ w.cell? ⟨x.rb, 2, none⟩ = some (.bool x.closed) ∧ ∀ i, w.frozen? ⟨x.rb, i, none⟩ = false :=
  ⟨by rw [cell_at h]; rfl, by rw [cell_at h]; rfl, by rw [cell_at h]; rfl, fun i => free_at h i⟩
theorem rpo_cells {w : World} {rp q m c : Nat} {l : Value} (h : w.heap[rp]? = some (rpo q m c l)) :
    w.cell? ⟨rp, 0, none⟩ = some (.int .i64 q) ∧ w.cell? ⟨rp, 1, none⟩ = some (.int .i64 m) ∧ w.cell? ⟨rp, 2, none⟩ = some (.int .i64 c) ∧ w.cell? ⟨rp, 3, none⟩ = some l ∧ ∀ i, w.frozen? ⟨rp, i, none⟩ = false :=
  ⟨by rw [cell_at h]; rfl, by rw [cell_at h]; rfl, by rw [cell_at h]; rfl, by rw [cell_at h]; rfl, fun i => free_at h i⟩

theorem rlen (x : Bf) (w : World) (h : w.heap[x.rb]? = some (rbo x)) (hx : Small x) :
    Calls Try.prog 23 #[.pointer (some ⟨x.rb, 0, none⟩)] w fun e w' => e = .returned (.int .i64 x.h) ∧ ∃ n, w' = w.drewN n := by
  obtain ⟨c0, c1, c2, _⟩ := rbo_cells h
  obtain ⟨ba, rb, cld, pre, data⟩ := x
  simp only [Small, Bf.h] at *
  have hw : IntKind.i64.wrap ((pre.length : Int) + data.length - pre.length) = (data.length : Int) := by rw [IntWalk.i64_in _ (by omega)]; omega
  cases cld
  · go_enter Try.func23, Try.ntmps23
    go_wp2_with fail
    go_quiet (fail)
    go_wp2
    go_ret
    refine ⟨by simp_all, _, rfl⟩
  · go_enter Try.func23, Try.ntmps23
    go_wp2
    go_ret
    exact ⟨rfl, 0, rfl⟩

/-- The pool's fields, a buffer's pointer and its cells. -/
theorem rpool_at {w : World} {R : Hp} {rp q m c cap : Nat} {p : Option Addr} {L : List Bf} (H : Sat w (rpool rp q m c cap p L * (all rbuf L * R))) :
    w.heap[rp]? = some (rpo q m c (.slice p L.length cap)) ∧ L.length ≤ 9223372036854775807 ∧
    (∀ i (h : i < L.length), ∃ b o, p = some ⟨b, o, none⟩ ∧ w.cell? ⟨b, o + i, none⟩ = some (.pointer (some ⟨L[i].rb, 0, none⟩)) ∧ w.heap[L[i].rb]? = some (rbo L[i])) := by
  have H1 := H.perm (show _ = pts rp (rpo q m c (.slice p L.length cap)) * (arr 43 1 p L.length cap (L.map rptr) * (all rbuf L * R)) by unfold rpool; ac_rfl)
  have hl := H1.right.arr_len
  refine ⟨H1.get, by have := hl.2; unfold maxLen at this; omega, fun i h => ?_⟩
  obtain ⟨b, o, rfl⟩ := H1.right.arr_addr (by omega)
  refine ⟨b, o, rfl, ?_, ?_⟩
  · have := H1.right.arr_cell i (by simpa using h)
    simpa [rptr] using this
  · have h2 := H1.right.right
    rw [all_split rbuf L i h] at h2
    exact (h2.perm (sep_assoc _ _ _)).get

def RdRel (f : Bf → Nat) (L : List Bf) (w : World) (k : Nat) (nv iv : Value) (wr : World) : Prop :=
  ∃ i n : Nat, i + k = L.length ∧ iv = .int .i64 (i : Int) ∧ nv = .int .i64 (sumOf f (L.take i) : Nat) ∧ wr = w.drewN n

set_option maxRecDepth 100000 in
set_option maxHeartbeats 2000000 in
theorem rheld (rp q m c cap : Nat) (p : Option Addr) (L : List Bf) (w : World) (R : Hp) (hs : ∀ x ∈ L, Small x) (hb : sumOf Bf.h L ≤ 1000000000) (H : Sat w (rpool rp q m c cap p L * (all rbuf L * R))) :
    Calls Try.prog 24 #[.pointer (some ⟨rp, 0, none⟩)] w fun e w' => e = .returned (.int .i64 (sumOf Bf.h L : Nat)) ∧ ∃ n, w' = w.drewN n := by
  obtain ⟨h0, hL, hB⟩ := rpool_at H
  obtain ⟨c0, c1, c2, c3, _⟩ := rpo_cells h0
  go_enter Try.func24, Try.ntmps24
  go_wp2_with fail
  go_loopg [3, 4] (L.length) (RdRel Bf.h L w)
  case atStart => exact ⟨0, 0, by omega, rfl, rfl, rfl⟩
  case round =>
    obtain ⟨i, n, hik, rfl, rfl, rfl⟩ := hrel
    have h1 : (w.drewN n).cell? ⟨rp, 3, none⟩ = some (.slice p L.length cap) := c3
    have hi0 : (0 : Int) ≤ i := by omega
    by_cases hi : i < L.length
    · have hlt : (i : Int) < L.length := by omega
      obtain ⟨b, o, rfl, h2, h3⟩ := hB i hi
      have h4 : (w.drewN n).cell? ⟨b, o + i, none⟩ = some (.pointer (some ⟨L[i].rb, 0, none⟩)) := h2
      have hx := hs L[i] (List.getElem_mem hi)
      have ht := sumOf_take Bf.h L i hi
      have hle := sumOf_take_le Bf.h L (i + 1)
      obtain ⟨x, hx0⟩ : ∃ x, x = L[i] := ⟨_, rfl⟩
      rw [← hx0] at h3 h4 hx ht
      generalize sumOf Bf.h (L.take i) = sm at *
      have Ht := Lib.hid ht
      have hsm : (sm : Int) ≤ 1000000000 := by omega
      have hxh : (x.h : Int) ≤ 1000000000 := by omega
      have Hik := Lib.hid hik
      have HL : (L.length : Int) ≤ 9223372036854775807 := by omega
      clear c0 c1 c2 c3 h2 hB hs ht hle hik hx0 hL
      go_wp2_with fail
      refine (rlen x _ (by exact h3) hx).mono ?_
      rintro e w' ⟨rfl, n1, rfl⟩
      go_wp2_with fail
      go_roundg (gk - 1)
      case measure => have := Hik.out; omega
      case rel => exact ⟨i + 1, _, by have := Hik.out; omega, rfl, by rw [Ht.out]; simp, rfl⟩
    · have hge : ¬ ((i : Int) < L.length) := by omega
      have hil : i = L.length := by omega
      clear hB hs hik
      go_wp2_with fail
      go_ret
      subst hil
      exact ⟨rfl, _, rfl⟩
set_option maxRecDepth 100000 in
set_option maxHeartbeats 2000000 in
theorem rbuffers (rp q m c cap : Nat) (p : Option Addr) (L : List Bf) (w : World) (R : Hp) (hb : sumOf Bf.o L ≤ 1000000000) (H : Sat w (rpool rp q m c cap p L * (all rbuf L * R))) :
    Calls Try.prog 27 #[.pointer (some ⟨rp, 0, none⟩)] w fun e w' => e = .returned (.int .i64 (sumOf Bf.o L : Nat)) ∧ ∃ n, w' = w.drewN n := by
  obtain ⟨h0, hL, hB⟩ := rpool_at H
  obtain ⟨c0, c1, c2, c3, _⟩ := rpo_cells h0
  go_enter Try.func27, Try.ntmps27
  go_wp2_with fail
  go_loopg [3, 4] (L.length) (RdRel Bf.o L w)
  case atStart => exact ⟨0, 0, by omega, rfl, rfl, rfl⟩
  case round =>
    obtain ⟨i, n, hik, rfl, rfl, rfl⟩ := hrel
    have h1 : (w.drewN n).cell? ⟨rp, 3, none⟩ = some (.slice p L.length cap) := c3
    have hi0 : (0 : Int) ≤ i := by omega
    by_cases hi : i < L.length
    · have hlt : (i : Int) < L.length := by omega
      obtain ⟨b, o, rfl, h2, h3⟩ := hB i hi
      have h4 : (w.drewN n).cell? ⟨b, o + i, none⟩ = some (.pointer (some ⟨L[i].rb, 0, none⟩)) := h2
      have ht := sumOf_take Bf.o L i hi
      have hle := sumOf_take_le Bf.o L (i + 1)
      have h5 : (w.drewN n).cell? ⟨L[i].rb, 2, none⟩ = some (.bool L[i].closed) := (rbo_cells h3).2.2.1
      generalize L[i] = x at *
      generalize sumOf Bf.o (L.take i) = sm at *
      have Ht := Lib.hid ht
      have hsm : (sm : Int) ≤ 1000000000 := by omega
      have Hik := Lib.hid hik
      have HL : (L.length : Int) ≤ 9223372036854775807 := by omega
      clear c0 c1 c2 c3 h2 hB ht hle hik hL
      obtain ⟨ba, rb, cld, pre, data⟩ := x
      cases cld
      · go_wp2_with fail
        go_roundg (gk - 1)
        case measure => have := Hik.out; omega
        case rel => exact ⟨i + 1, _, by have := Hik.out; omega, rfl, by rw [Ht.out]; simp [Bf.o], rfl⟩
      · go_wp2_with fail
        go_roundg (gk - 1)
        case measure => have := Hik.out; omega
        case rel => exact ⟨i + 1, _, by have := Hik.out; omega, rfl, by rw [Ht.out]; simp [Bf.o], rfl⟩
    · have hge : ¬ ((i : Int) < L.length) := by omega
      have hil : i = L.length := by omega
      clear hB hik
      go_wp2_with fail
      go_ret
      subst hil
      exact ⟨rfl, _, rfl⟩
end Go.Proofs.Ytgaeafhkepfgjaa.Spill
