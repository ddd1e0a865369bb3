/- HandlesPlays, part 10 of 34: the texts SpR HdPa, joined by a program. -/
import Derived.Test.YtljlpkeddbfpaaaGreatDoorHm3
import Derived.Laws.IdiomStrings
import Derived.Test.YtljlpkeddbfpaaaGreatDoorHm9
namespace Go.Proofs.YtljlpkeddbfpaaaGreatDoor.Spill
open Go.RowKit Go.Proofs.YtljlpkeddbfpaaaGreatDoor Go.Proofs.YtljlpkeddbfpaaaGreatDoor.Hp
set_option linter.unusedVariables false

/-- A buffer, here and in the document's answer: its two blocks, what was drained, what is held. -/
structure Bf where
  ba : Nat
  rb : Nat
  closed : Bool
  pre : List UInt8
  data : List UInt8
instance : Inhabited Bf := ⟨⟨0, 0, false, [], []⟩⟩
/-- How much it holds, how many chunks it uses, whether it is open. -/
def Bf.h (x : Bf) : Nat := if x.closed then 0 else x.data.length
def Bf.u (m c : Nat) (x : Bf) : Nat := if x.closed then 0 else cl m c (x.pre.length + x.data.length) - gn m c x.pre.length
def Bf.o (x : Bf) : Nat := if x.closed then 0 else 1
def sumOf (f : Bf → Nat) (L : List Bf) : Nat := (L.map f).sum
theorem sumOf_take (f : Bf → Nat) (L : List Bf) (i : Nat) (h : i < L.length) : sumOf f (L.take (i + 1)) = sumOf f (L.take i) + f L[i] := by
  unfold sumOf
  rw [List.take_succ_eq_append_getElem h]
  simp only [List.map_append, List.sum_append, List.map_cons, List.map_nil, List.sum_cons, List.sum_nil, Nat.add_zero]
theorem sumOf_take_le (f : Bf → Nat) (L : List Bf) (i : Nat) : sumOf f (L.take i) ≤ sumOf f L := by
  unfold sumOf
  conv => rhs; rw [← List.take_append_drop i L]
  simp only [List.map_append, List.sum_append]
  omega
theorem sumOf_set (f : Bf → Nat) (L : List Bf) (i : Nat) (h : i < L.length) (x : Bf) : sumOf f (L.set i x) + f L[i] = sumOf f L + f x := by
  unfold sumOf
  conv => rhs; rw [← List.take_append_drop i L, List.drop_eq_getElem_cons h]
  rw [List.set_eq_take_append_cons_drop, if_pos h]
  simp only [List.map_append, List.sum_append, List.map_cons, List.sum_cons]
  omega
theorem sumOf_snoc (f : Bf → Nat) (L : List Bf) (x : Bf) : sumOf f (L ++ [x]) = sumOf f L + f x := by
  unfold sumOf
  simp
abbrev rbo (x : Bf) : Obj := .cells #[.string ⟨(x.pre ++ x.data).toArray⟩, .int .i64 x.pre.length, .bool x.closed] 185 (0, 0)
def rbuf (x : Bf) : Hp := pts x.rb (rbo x)
def rptr (x : Bf) : Value := .pointer (some ⟨x.rb, 0, none⟩)
abbrev rpo (q m c : Nat) (l : Value) : Obj := .cells #[.int .i64 q, .int .i64 m, .int .i64 c, l] 171 (0, 0)
def rpool (rp q m c cap : Nat) (p : Option Addr) (L : List Bf) : Hp := pts rp (rpo q m c (.slice p L.length cap)) * arr 179 1 p L.length cap (L.map rptr)
def Small (x : Bf) : Prop := x.pre.length + x.data.length ≤ 1000000

theorem rbo_cells {w : World} {x : Bf} (h : w.heap[x.rb]? = some (rbo x)) :
    w.cell? ⟨x.rb, 0, none⟩ = some (.string ⟨(x.pre ++ x.data).toArray⟩) ∧ w.cell? ⟨x.rb, 1, none⟩ = some (.int .i64 x.pre.length) ∧ w.cell? ⟨x.rb, 2, none⟩ = some (.bool x.closed) ∧ ∀ i, w.frozen? ⟨x.rb, i, none⟩ = false :=
  ⟨by rw [cell_at h]; rfl, by rw [cell_at h]; rfl, by rw [cell_at h]; rfl, fun i => free_at h i⟩
theorem rpo_cells {w : World} {rp q m c : Nat} {l : Value} (h : w.heap[rp]? = some (rpo q m c l)) :
    w.cell? ⟨rp, 0, none⟩ = some (.int .i64 q) ∧ w.cell? ⟨rp, 1, none⟩ = some (.int .i64 m) ∧ w.cell? ⟨rp, 2, none⟩ = some (.int .i64 c) ∧ w.cell? ⟨rp, 3, none⟩ = some l ∧ ∀ i, w.frozen? ⟨rp, i, none⟩ = false :=
  ⟨by rw [cell_at h]; rfl, by rw [cell_at h]; rfl, by rw [cell_at h]; rfl, by rw [cell_at h]; rfl, fun i => free_at h i⟩

theorem rlen (x : Bf) (w : World) (h : w.heap[x.rb]? = some (rbo x)) (hx : Small x) :
    Calls Tryz.prog 87 #[.pointer (some ⟨x.rb, 0, none⟩)] w fun e w' => e = .returned (.int .i64 x.h) ∧ ∃ n, w' = w.drewN n := by
  obtain ⟨c0, c1, c2, _⟩ := rbo_cells h
  obtain ⟨ba, rb, cld, pre, data⟩ := x
  simp only [Small, Bf.h] at *
  have hw : IntKind.i64.wrap ((pre.length : Int) + data.length - pre.length) = (data.length : Int) := by rw [IntWalk.i64_in _ (by omega)]; omega
  cases cld
  · go_enter Tryz.func87, Tryz.ntmps87
    go_wp2_with fail
    go_quiet (fail)
    go_wp2
    go_ret
    refine ⟨by simp_all, _, rfl⟩
  · go_enter Tryz.func87, Tryz.ntmps87
    go_wp2
    go_ret
    exact ⟨rfl, 0, rfl⟩

/-- The pool's fields, a buffer's pointer and its cells. -/
theorem rpool_at {w : World} {R : Hp} {rp q m c cap : Nat} {p : Option Addr} {L : List Bf} (H : Sat w (rpool rp q m c cap p L * (all rbuf L * R))) :
    w.heap[rp]? = some (rpo q m c (.slice p L.length cap)) ∧ L.length ≤ 9223372036854775807 ∧
    (∀ i (h : i < L.length), ∃ b o, p = some ⟨b, o, none⟩ ∧ w.cell? ⟨b, o + i, none⟩ = some (.pointer (some ⟨L[i].rb, 0, none⟩)) ∧ w.heap[L[i].rb]? = some (rbo L[i])) := by
  have H1 := H.perm (show _ = pts rp (rpo q m c (.slice p L.length cap)) * (arr 179 1 p L.length cap (L.map rptr) * (all rbuf L * R)) by unfold rpool; ac_rfl)
  have hl := H1.right.arr_len
  refine ⟨H1.get, by have := hl.2; unfold maxLen at this; omega, fun i h => ?_⟩
  obtain ⟨b, o, rfl⟩ := H1.right.arr_addr (by omega)
  refine ⟨b, o, rfl, ?_, ?_⟩
  · have := H1.right.arr_cell i (by simpa using h)
    simpa [rptr] using this
  · have h2 := H1.right.right
    rw [all_split rbuf L i h] at h2
    exact (h2.perm (sep_assoc _ _ _)).get

def RdRel (f : Bf → Nat) (L : List Bf) (w : World) (k : Nat) (nv iv : Value) (wr : World) : Prop :=
  ∃ i n : Nat, i + k = L.length ∧ iv = .int .i64 (i : Int) ∧ nv = .int .i64 (sumOf f (L.take i) : Nat) ∧ wr = w.drewN n

set_option maxRecDepth 100000 in
set_option maxHeartbeats 2000000 in
theorem rheld (rp q m c cap : Nat) (p : Option Addr) (L : List Bf) (w : World) (R : Hp) (hs : ∀ x ∈ L, Small x) (hb : sumOf Bf.h L ≤ 1000000000) (H : Sat w (rpool rp q m c cap p L * (all rbuf L * R))) :
    Calls Tryz.prog 56 #[.pointer (some ⟨rp, 0, none⟩)] w fun e w' => e = .returned (.int .i64 (sumOf Bf.h L : Nat)) ∧ ∃ n, w' = w.drewN n := by
  obtain ⟨h0, hL, hB⟩ := rpool_at H
  obtain ⟨c0, c1, c2, c3, _⟩ := rpo_cells h0
  go_enter Tryz.func56, Tryz.ntmps56
  go_wp2_with fail
  go_loopg [3, 4] (L.length) (RdRel Bf.h L w)
  case atStart => exact ⟨0, 0, by omega, rfl, rfl, rfl⟩
  case round =>
    obtain ⟨i, n, hik, rfl, rfl, rfl⟩ := hrel
    have h1 : (w.drewN n).cell? ⟨rp, 3, none⟩ = some (.slice p L.length cap) := c3
    have hi0 : (0 : Int) ≤ i := by omega
    by_cases hi : i < L.length
    · have hlt : (i : Int) < L.length := by omega
      obtain ⟨b, o, rfl, h2, h3⟩ := hB i hi
      have h4 : (w.drewN n).cell? ⟨b, o + i, none⟩ = some (.pointer (some ⟨L[i].rb, 0, none⟩)) := h2
      have hx := hs L[i] (List.getElem_mem hi)
      have ht := sumOf_take Bf.h L i hi
      have hle := sumOf_take_le Bf.h L (i + 1)
      obtain ⟨x, hx0⟩ : ∃ x, x = L[i] := ⟨_, rfl⟩
      rw [← hx0] at h3 h4 hx ht
      generalize sumOf Bf.h (L.take i) = sm at *
      have Ht := Lib.hid ht
      have hsm : (sm : Int) ≤ 1000000000 := by omega
      have hxh : (x.h : Int) ≤ 1000000000 := by omega
      have Hik := Lib.hid hik
      have HL : (L.length : Int) ≤ 9223372036854775807 := by omega
      clear c0 c1 c2 c3 h2 hB hs ht hle hik hx0 hL
      go_wp2_with fail
      refine (rlen x _ (by exact h3) hx).mono ?_
      rintro e w' ⟨rfl, n1, rfl⟩
      go_wp2_with fail
      go_roundg (gk - 1)
      case measure => have := Hik.out; omega
      case rel => exact ⟨i + 1, _, by have := Hik.out; omega, rfl, by rw [Ht.out]; simp, rfl⟩
    · have hge : ¬ ((i : Int) < L.length) := by omega
      have hil : i = L.length := by omega
      clear hB hs hik
      go_wp2_with fail
      go_ret
      subst hil
      exact ⟨rfl, _, rfl⟩
set_option maxRecDepth 100000 in
set_option maxHeartbeats 2000000 in
theorem rbuffers (rp q m c cap : Nat) (p : Option Addr) (L : List Bf) (w : World) (R : Hp) (hb : sumOf Bf.o L ≤ 1000000000) (H : Sat w (rpool rp q m c cap p L * (all rbuf L * R))) :
    Calls Tryz.prog 57 #[.pointer (some ⟨rp, 0, none⟩)] w fun e w' => e = .returned (.int .i64 (sumOf Bf.o L : Nat)) ∧ ∃ n, w' = w.drewN n := by
  obtain ⟨h0, hL, hB⟩ := rpool_at H
  obtain ⟨c0, c1, c2, c3, _⟩ := rpo_cells h0
  go_enter Tryz.func57, Tryz.ntmps57
  go_wp2_with fail
  go_loopg [3, 4] (L.length) (RdRel Bf.o L w)
  case atStart => exact ⟨0, 0, by omega, rfl, rfl, rfl⟩
  case round =>
    obtain ⟨i, n, hik, rfl, rfl, rfl⟩ := hrel
    have h1 : (w.drewN n).cell? ⟨rp, 3, none⟩ = some (.slice p L.length cap) := c3
    have hi0 : (0 : Int) ≤ i := by omega
    by_cases hi : i < L.length
    · have hlt : (i : Int) < L.length := by omega
      obtain ⟨b, o, rfl, h2, h3⟩ := hB i hi
      have h4 : (w.drewN n).cell? ⟨b, o + i, none⟩ = some (.pointer (some ⟨L[i].rb, 0, none⟩)) := h2
      have ht := sumOf_take Bf.o L i hi
      have hle := sumOf_take_le Bf.o L (i + 1)
      have h5 : (w.drewN n).cell? ⟨L[i].rb, 2, none⟩ = some (.bool L[i].closed) := (rbo_cells h3).2.2.1
      generalize L[i] = x at *
      generalize sumOf Bf.o (L.take i) = sm at *
      have Ht := Lib.hid ht
      have hsm : (sm : Int) ≤ 1000000000 := by omega
      have Hik := Lib.hid hik
      have HL : (L.length : Int) ≤ 9223372036854775807 := by omega
      clear c0 c1 c2 c3 h2 hB ht hle hik hL
      obtain ⟨ba, rb, cld, pre, data⟩ := x
      cases cld
      · go_wp2_with fail
        go_roundg (gk - 1)
        case measure => have := Hik.out; omega
        case rel => exact ⟨i + 1, _, by have := Hik.out; omega, rfl, by rw [Ht.out]; simp [Bf.o], rfl⟩
      · go_wp2_with fail
        go_roundg (gk - 1)
        case measure => have := Hik.out; omega
        case rel => exact ⟨i + 1, _, by have := Hik.out; omega, rfl, by rw [Ht.out]; simp [Bf.o], rfl⟩
    · have hge : ¬ ((i : Int) < L.length) := by omega
      have hil : i = L.length := by omega
      clear hB hik
      go_wp2_with fail
      go_ret
      subst hil
      exact ⟨rfl, _, rfl⟩
end Go.Proofs.YtljlpkeddbfpaaaGreatDoor.Spill
namespace Go.Proofs.YtljlpkeddbfpaaaGreatDoor.Spill
open Go.RowKit Go.Proofs.YtljlpkeddbfpaaaGreatDoor Go.Proofs.YtljlpkeddbfpaaaGreatDoor.Hp
set_option linter.unusedVariables false

def RNewPost (q m c : Nat) (R : Hp) (w : World) (e : Ending) (w' : World) : Prop :=
  ∃ rp, e = .returned (.tuple #[.pointer (some ⟨rp, 0, none⟩), .int .i64 0]) ∧ Sat w' (rpool rp q m c 0 none [] * R) ∧ Ran w w'
theorem rnew_good (q m c : Nat) (w : World) (R : Hp) (H : Sat w R) (h2 : q ≤ 1048576) (h4 : m ≤ 65536) (h5 : 1 ≤ c) (h6 : c ≤ 65536) :
    Calls Tryz.prog 45 #[.int .i64 q, .int .i64 m, .int .i64 c] w (RNewPost q m c R w) := by
  have g1 : ¬ ((q : Int) < 0) := by omega
  have g2 : ¬ ((1048576 : Int) < q) := by omega
  have g3 : ¬ ((m : Int) < 0) := by omega
  have g4 : ¬ ((65536 : Int) < m) := by omega
  have g5 : ¬ ((c : Int) < 1) := by omega
  have g6 : ¬ ((65536 : Int) < c) := by omega
  go_enter Tryz.func45, Tryz.ntmps45
  go_wp2
  go_ret2
  refine ⟨w.heap.size, rfl, ?_, Ran.new (Below.refl _ _) _⟩
  have := (H.alloc (rpo q m c (.slice none 0 0)))
  refine (this.perm ?_)
  unfold rpool
  show _ = pts w.heap.size (rpo q m c (.slice none 0 0)) * arr 179 1 none 0 0 [] * R
  rw [arr_nil, sep_emp]

theorem info43 : (Tryz.prog.info? 179).map (fun i => (i.zero, i.size, i.bytes)) = some (some (.pointer none), 1, 8) := by kernel_rfl
theorem app46 {w : World} {R : Hp} {ops : Array Oper} {rest : List Oper} {o : Oper} {a : Act} {Q : Exit → Act → World → Prop} (hgd : o.guard = none) (s x : Operand)
    (ho : o.op = .call { callee := .builtin .append, args := #[s, x], argTypes := #[141, 141] })
    (p : Option Addr) (n cap : Nat) (xs : List Value) (hp : a.eval s = .slice p n cap) (b : Nat) (v : Value) (hvx : a.eval x = .slice (some ⟨b, 0, none⟩) 1 1) (h : Sat w (arr 179 1 p n cap xs * R)) (hb : w.cell? ⟨b, 0, none⟩ = some v) (hv : v.oneCell' = true) (hn : n ≤ 1000000000000)
    (hk : ∀ p' cap' w', Sat w' (arr 179 1 p' (n + 1) cap' (xs ++ [v]) * R) → Ran w w' → wpList Tryz.prog ops Q rest (a.put o.dst (.slice p' (n + 1) cap')) w') : wpList Tryz.prog ops Q (o :: rest) a w := by
  obtain ⟨i0, hi, hz0, hz1, hz2⟩ := info_parts info43
  refine wpList_append_arr hgd s x _ _ ho 179 i0 _ 1 8 Tryz.underlying141 hi hz0 hz1 hz2 rfl p n cap xs hp h _ hvx 1 [v] (Src.ofSlice _ Tryz.underlying141 ⟨b, 0, none⟩ 1 1 [v] (by simp [hz1]) ?_ (by simpa using hv)) (by omega) (by unfold maxLen; omega) fun p' cap' w' h1 h2 _ => hk p' cap' w' h1 h2
  intro j u hj
  cases j with
  | zero => simp at hj; subst hj; simpa [Addr.add] using hb
  | succ j => simp at hj
def ROpenPost (rp q m c : Nat) (L : List Bf) (R : Hp) (w : World) (e : Ending) (w' : World) : Prop :=
  ∃ rb cap' p', e = .returned (.pointer (some ⟨rb, 0, none⟩)) ∧ (∀ ba, Sat w' (rpool rp q m c cap' p' (L ++ [⟨ba, rb, false, [], []⟩]) * (rbuf ⟨ba, rb, false, [], []⟩ * R))) ∧ Ran w w'
set_option maxHeartbeats 400000 in
theorem ropen (rp q m c cap : Nat) (p : Option Addr) (L : List Bf) (w : World) (R : Hp) (hL : L.length ≤ 1000000) (H : Sat w (rpool rp q m c cap p L * R)) :
    Calls Tryz.prog 79 #[.pointer (some ⟨rp, 0, none⟩)] w (ROpenPost rp q m c L R w) := by
  have H1 := H.perm (show _ = pts rp (rpo q m c (.slice p L.length cap)) * (arr 179 1 p L.length cap (L.map rptr) * R) by unfold rpool; ac_rfl)
  obtain ⟨c0, c1, c2, c3, cf⟩ := rpo_cells H1.get
  have H2 := H1.alloc (rbo ⟨0, w.heap.size, false, [], []⟩)
  have H3 : Sat ((w.alloc (rbo ⟨0, w.heap.size, false, [], []⟩)).alloc (.cells #[.pointer (some ⟨w.heap.size, 0, none⟩)] 179)) (arr 179 1 p L.length cap (L.map rptr) * (pts rp (rpo q m c (.slice p L.length cap)) * (pts w.heap.size (rbo ⟨0, w.heap.size, false, [], []⟩) * R))) :=
    (H2.old _).perm (by ac_rfl)
  have HR3 : Ran w ((w.alloc (rbo ⟨0, w.heap.size, false, [], []⟩)).alloc (.cells #[.pointer (some ⟨w.heap.size, 0, none⟩)] 179)) := Ran.new (Ran.new (Below.refl _ _) _) _
  have Hc : ((w.alloc (rbo ⟨0, w.heap.size, false, [], []⟩)).alloc (.cells #[.pointer (some ⟨w.heap.size, 0, none⟩)] 179)).cell? ⟨w.heap.size + 1, 0, none⟩ = some (.pointer (some ⟨w.heap.size, 0, none⟩)) := by
    simp
  have c3' : (w.alloc (.cells #[.string ⟨#[]⟩, .int .i64 0, .bool false] 185)).cell? ⟨rp, 3, none⟩ = some (.slice p L.length cap) := (rpo_cells H2.right.get).2.2.2.1
  have HC := Lib.hid Hc
  clear H1 H2 Hc
  go_enter Tryz.func79, Tryz.ntmps79
  go_wp2_with (at_builtin; refine app46 rfl _ _ rfl p L.length cap _ rfl (w.heap.size + 1) (.pointer (some ⟨w.heap.size, 0, none⟩)) rfl H3 HC.out rfl (by omega) ?_; intro p' cap' w' HS' HR'; clear H3 HC; have HB := HS'.perm (show _ = pts rp (rpo q m c (.slice p L.length cap)) * (arr 179 1 p' (L.length + 1) cap' (L.map rptr ++ [.pointer (some ⟨w.heap.size, 0, none⟩)]) * (pts w.heap.size (rbo ⟨0, w.heap.size, false, [], []⟩) * R)) by ac_rfl); obtain ⟨d0, d1, d2, d3, df⟩ := rpo_cells HB.get)
  go_ret
  have H4 : Sat (w'.setCell ⟨rp, 3, none⟩ (.slice p' (L.length + 1) cap')) (pts rp (rpo q m c (.slice p' (L.length + 1) cap')) * (arr 179 1 p' (L.length + 1) cap' (L.map rptr ++ [.pointer (some ⟨w.heap.size, 0, none⟩)]) * (pts w.heap.size (rbo ⟨0, w.heap.size, false, [], []⟩) * R))) := HB.set (i := 3) (.slice p' (L.length + 1) cap')
  refine ⟨w.heap.size, cap', p', rfl, fun ba => H4.perm ?_, Ran.set (HR3.trans HR') _ _⟩
  unfold rpool rbuf
  rw [List.length_append, List.map_append]
  show _ = pts rp (rpo q m c (.slice p' (L.length + 1) cap')) * arr 179 1 p' (L.length + 1) cap' (L.map rptr ++ [.pointer (some ⟨w.heap.size, 0, none⟩)]) * (pts w.heap.size (rbo ⟨0, w.heap.size, false, [], []⟩) * R)
  ac_rfl

theorem rclose_open (ba rb : Nat) (pre data : List UInt8) (w : World) (R : Hp) (H : Sat w (rbuf ⟨ba, rb, false, pre, data⟩ * R)) :
    Calls Tryz.prog 82 #[.pointer (some ⟨rb, 0, none⟩)] w fun e w' => e = .returned (.int .i64 0) ∧ Sat w' (rbuf ⟨ba, rb, true, pre, data⟩ * R) ∧ Ran w w' := by
  obtain ⟨c0, c1, c2, cf⟩ := rbo_cells (x := ⟨ba, rb, false, pre, data⟩) H.get
  simp only at c0 c1 c2 cf
  go_enter Tryz.func82, Tryz.ntmps82
  go_wp2
  go_ret
  exact ⟨rfl, H.set (i := 2) (.bool true), Ran.set (Below.refl _ _) _ _⟩
end Go.Proofs.YtljlpkeddbfpaaaGreatDoor.Spill
namespace Go.Proofs.YtljlpkeddbfpaaaGreatDoor.Spill
open Go.RowKit Go.Proofs.YtljlpkeddbfpaaaGreatDoor Go.Proofs.YtljlpkeddbfpaaaGreatDoor.Hp
set_option linter.unusedVariables false

theorem str_tail (a b : List UInt8) : (ByteArray.mk (a ++ b).toArray).extract a.length (a.length + b.length) = ⟨b.toArray⟩ := by
  rw [← List.length_append, str_drop, List.drop_left]
theorem str_head (a : List UInt8) (k : Nat) : (ByteArray.mk a.toArray).extract 0 k = ⟨(a.take k).toArray⟩ := by
  apply ByteArray.ext
  simp

def RDrainPost (ba rb k : Nat) (pre data : List UInt8) (R : Hp) (w : World) (e : Ending) (w' : World) : Prop :=
  e = .returned (.tuple #[.string ⟨(data.take k).toArray⟩, .int .i64 0]) ∧ Sat w' (rbuf ⟨ba, rb, false, pre ++ data.take k, data.drop k⟩ * R) ∧ Ran w w'
set_option maxHeartbeats 1000000 in
theorem rdrain_open (ba rb n k : Nat) (pre data : List UInt8) (w : World) (R : Hp) (hx : pre.length + data.length ≤ 1000000) (hn : (n : Int) ≤ 9223372036854775807) (hk : k = min n data.length) (H : Sat w (rbuf ⟨ba, rb, false, pre, data⟩ * R)) :
    Calls Tryz.prog 83 #[.pointer (some ⟨rb, 0, none⟩), .int .i64 n] w (RDrainPost ba rb k pre data R w) := by
  obtain ⟨c0, c1, c2, cf⟩ := rbo_cells (x := ⟨ba, rb, false, pre, data⟩) H.get
  simp only at c0 c1 c2 cf
  have hn0 : ¬ ((n : Int) < 0) := by omega
  have hs := str_tail pre data
  have Hk := Lib.hid hk
  clear hk
  go_enter Tryz.func83, Tryz.ntmps83
  go_wp2_with fail
  go_quiet (fail)
  by_cases hlt : n < data.length
  · have hkn : k = n := by have := Hk.out; omega
    have htl : (data.take n).length = n := by rw [List.length_take]; omega
    have hlt1 : (n : Int) < data.length := by omega
    have hh := str_head data n
    have hmn : min n data.length = n := by omega
    have Htl := Lib.hid htl
    clear htl
    go_wp2_with fail
    go_ret2
    subst hkn
    refine ⟨rfl, ?_, Ran.set (Ran.drewN (Below.refl _ _) _) _ _⟩
    have H2 : Sat ((w.drewN nq).setCell ⟨rb, 1, none⟩ (.int .i64 ((pre.length : Int) + k))) (pts rb (.cells #[.string ⟨(pre ++ data).toArray⟩, .int .i64 ((pre.length : Int) + k), .bool false] 185 (0, 0)) * R) := (H.drewN nq).set (i := 1) _
    refine H2.perm ?_
    unfold rbuf rbo
    simp only [List.append_assoc, List.take_append_drop, List.length_append, Htl.out]
    rfl
  · have hkn : k = data.length := by have := Hk.out; omega
    have hge : ¬ (n : Int) < data.length := by omega
    go_wp2_with fail
    go_ret2
    subst hkn
    refine ⟨by rw [List.take_length]; rfl, ?_, Ran.set (Ran.drewN (Below.refl _ _) _) _ _⟩
    have H2 : Sat ((w.drewN nq).setCell ⟨rb, 1, none⟩ (.int .i64 ((pre.length : Int) + data.length))) (pts rb (.cells #[.string ⟨(pre ++ data).toArray⟩, .int .i64 ((pre.length : Int) + data.length), .bool false] 185 (0, 0)) * R) := (H.drewN nq).set (i := 1) _
    refine H2.perm ?_
    unfold rbuf rbo
    simp only [List.take_length, List.drop_length, List.append_nil, List.length_append]
    rfl

set_option maxHeartbeats 1000000 in
theorem rappend_full (rp q m c cap i : Nat) (p : Option Addr) (L : List Bf) (w : World) (R : Hp) (s : ByteArray) (hi : i < L.length) (hc : L[i].closed = false) (hss : (s.size : Int) ≤ 9223372036854775807) (hs : ∀ x ∈ L, Small x) (hb : sumOf Bf.h L ≤ 1000000000) (hq : q ≤ 1048576) (hf : q < sumOf Bf.h L + s.size) (hsz : sumOf Bf.h L + s.size ≤ 9223372036854775807)
    (H : Sat w (rpool rp q m c cap p L * (all rbuf L * R))) :
    Calls Tryz.prog 85 #[.pointer (some ⟨rp, 0, none⟩), .pointer (some ⟨L[i].rb, 0, none⟩), .string s] w fun e w' => e = .returned (.int .i64 41) ∧ ∃ n, w' = w.drewN n := by
  obtain ⟨h0, hL, hB⟩ := rpool_at H
  obtain ⟨_, _, _, _, h3⟩ := hB i hi
  obtain ⟨d0, d1, d2, df⟩ := rbo_cells h3
  rw [hc] at d2
  obtain ⟨c0, c1, c2, c3, _⟩ := rpo_cells h0
  generalize L[i].rb = rb at *
  have hsm : ((sumOf Bf.h L : Nat) : Int) ≤ 1000000000 := by omega
  have hf1 : (q : Int) < (sumOf Bf.h L : Nat) + s.size := by omega
  have hsz1 : ((sumOf Bf.h L : Nat) : Int) + s.size ≤ 9223372036854775807 := by omega
  have hwr : IntKind.i64.wrap (((sumOf Bf.h L : Nat) : Int) + s.size) = ((sumOf Bf.h L : Nat) : Int) + s.size := IntWalk.i64_in _ (by omega)
  clear hB h3 hf hsz
  go_enter Tryz.func85, Tryz.ntmps85
  go_wp2_with fail
  go_region_held3 (fun w' => w'.cell? ⟨rp, 0, none⟩ = some (.int .i64 q)) (first | exact c0 | go_keep)
    (first
      | (go_at_call 56; refine (rheld rp q m c cap p L _ R hs hb (by exact H.drew)).mono ?_; rintro e w' ⟨rfl, n1, rfl⟩))
  go_wp2_with fail
  go_ret
  exact ⟨rfl, _, rfl⟩

/-- One buffer out of all, and a changed one back. -/
def rrest (rp q m c cap i : Nat) (p : Option Addr) (L : List Bf) (R : Hp) : Hp := rpool rp q m c cap p L * (all rbuf (L.take i) * all rbuf (L.drop (i + 1)) * R)
theorem rfocus {w : World} {rp q m c cap i : Nat} {p : Option Addr} {L : List Bf} {R : Hp} (hi : i < L.length) (H : Sat w (rpool rp q m c cap p L * (all rbuf L * R))) : Sat w (rbuf L[i] * rrest rp q m c cap i p L R) := by
  rw [all_split rbuf L i hi] at H
  exact H.perm (by unfold rrest; ac_rfl)
theorem runfocus {w : World} {rp q m c cap i : Nat} {p : Option Addr} {L : List Bf} {R : Hp} (hi : i < L.length) (x : Bf) (hx : x.rb = L[i].rb) (H : Sat w (rbuf x * rrest rp q m c cap i p L R)) : Sat w (rpool rp q m c cap p (L.set i x) * (all rbuf (L.set i x) * R)) := by
  rw [all_set rbuf L i hi]
  have hm : (L.set i x).map rptr = L.map rptr := by
    rw [List.map_set]
    have : rptr x = (L.map rptr)[i]'(by simpa using hi) := by simp [rptr, hx]
    rw [this, List.set_getElem_self]
  unfold rrest at H
  unfold rpool at H ⊢
  rw [hm, List.length_set]
  exact H.perm (by ac_rfl)
def RAppPost (rp q m c cap i : Nat) (p : Option Addr) (L : List Bf) (x : Bf) (R : Hp) (w : World) (e : Ending) (w' : World) : Prop :=
  e = .returned (.int .i64 0) ∧ Sat w' (rpool rp q m c cap p (L.set i x) * (all rbuf (L.set i x) * R)) ∧ Ran w w'
set_option maxHeartbeats 1000000 in
theorem rappend_ok (rp q m c cap i ba rb : Nat) (pre data d : List UInt8) (p : Option Addr) (L : List Bf) (w : World) (R : Hp) (hi : i < L.length) (hLi : L[i] = ⟨ba, rb, false, pre, data⟩) (hd : d.length ≤ 1000000) (hs : ∀ x ∈ L, Small x) (hb : sumOf Bf.h L ≤ 1000000000) (hq : q ≤ 1048576) (hf : sumOf Bf.h L + d.length ≤ q)
    (H : Sat w (rpool rp q m c cap p L * (all rbuf L * R))) :
    Calls Tryz.prog 85 #[.pointer (some ⟨rp, 0, none⟩), .pointer (some ⟨rb, 0, none⟩), .string ⟨d.toArray⟩] w (RAppPost rp q m c cap i p L ⟨ba, rb, false, pre, data ++ d⟩ R w) := by
  obtain ⟨h0, hL, hB⟩ := rpool_at H
  obtain ⟨_, _, _, _, h3⟩ := hB i hi
  have hsm := hs L[i] (List.getElem_mem hi)
  have HF := rfocus hi H
  rw [hLi] at h3 hsm HF
  obtain ⟨d0, d1, d2, df⟩ := rbo_cells h3
  obtain ⟨c0, c1, c2, c3, _⟩ := rpo_cells h0
  simp only [Small] at d0 d1 d2 df hsm
  have hsm1 : ((sumOf Bf.h L : Nat) : Int) ≤ 1000000000 := by omega
  have hf1 : ¬ (q : Int) < (sumOf Bf.h L : Nat) + (d.length : Int) := by omega
  have hwr : IntKind.i64.wrap (((sumOf Bf.h L : Nat) : Int) + (d.length : Int)) = ((sumOf Bf.h L : Nat) : Int) + (d.length : Int) := IntWalk.i64_in _ (by omega)
  have hsum : pre.length + data.length + d.length ≤ 2000000 := by omega
  clear hB h3 hf
  go_enter Tryz.func85, Tryz.ntmps85
  go_wp2_with fail
  go_region_held3 (fun w' => w'.cell? ⟨rp, 0, none⟩ = some (.int .i64 q)) (first | exact c0 | go_keep)
    (first
      | (go_at_call 56; refine (rheld rp q m c cap p L _ R hs hb (by exact H.drew)).mono ?_; rintro e w' ⟨rfl, n1, rfl⟩))
  clear hwr
  go_wp2_with fail
  go_ret
  refine ⟨rfl, ?_, Ran.set (Ran.drewN (Below.refl _ _) _) _ _⟩
  refine runfocus hi ⟨ba, rb, false, pre, data ++ d⟩ (by rw [hLi]) ?_
  have H2 := (HF.drewN (1 + n1)).set (i := 0) (.string ⟨(pre ++ (data ++ d)).toArray⟩)
  rw [← List.append_assoc, ← ByteArray.mk_append_mk] at H2
  refine H2.perm ?_
  unfold rbuf rbo
  rw [ByteArray.mk_append_mk, List.append_assoc]
  rfl
end Go.Proofs.YtljlpkeddbfpaaaGreatDoor.Spill

namespace Go.Proofs.YtljlpkeddbfpaaaGreatDoor.Hd
open Go.RowKit Go.Maps Go.Proofs.YtljlpkeddbfpaaaGreatDoor Go.Proofs.YtljlpkeddbfpaaaGreatDoor.Hp
set_option linter.unusedVariables false
attribute [local go_sem] Oper.semAt_some

section
variable {α : Type} {f : α → List Value} {K : Nat}
theorem flat_len (hK : ∀ x, (f x).length = K) : ∀ l : List α, (l.flatMap f).length = l.length * K
  | [] => by simp
  | x :: l => by rw [List.flatMap_cons, List.length_append, hK, flat_len hK l, List.length_cons, Nat.add_mul]; omega
theorem flat_get (hK : ∀ x, (f x).length = K) : ∀ (l : List α) (i j : Nat) (hi : i < l.length), j < K → (l.flatMap f)[i * K + j]? = (f l[i])[j]?
  | [], i, j, hi, _ => by simp at hi
  | x :: l, 0, j, _, hj => by rw [List.flatMap_cons, Nat.zero_mul, Nat.zero_add, List.getElem?_append_left (by rw [hK]; exact hj)]; rfl
  | x :: l, i + 1, j, hi, hj => by
    rw [List.flatMap_cons, List.getElem?_append_right (by rw [hK, Nat.add_mul]; omega), hK, show (i + 1) * K + j - K = i * K + j by rw [Nat.add_mul]; omega]
    exact flat_get hK l i j (by simpa using hi) hj
theorem flat_set (hK : ∀ x, (f x).length = K) : ∀ (l : List α) (i j : Nat) (v : Value) (y : α) (hi : i < l.length), j < K → f y = (f l[i]).set j v → (l.flatMap f).set (i * K + j) v = (l.set i y).flatMap f
  | [], i, j, v, y, hi, _, _ => by simp at hi
  | x :: l, 0, j, v, y, _, hj, hy => by
    rw [List.flatMap_cons, Nat.zero_mul, Nat.zero_add, List.set_append_left _ _ (by rw [hK]; exact hj), List.set_cons_zero, List.flatMap_cons, hy]; rfl
  | x :: l, i + 1, j, v, y, hi, hj, hy => by
    rw [List.flatMap_cons, List.set_append_right _ _ (by rw [hK, Nat.add_mul]; omega), hK, show (i + 1) * K + j - K = i * K + j by rw [Nat.add_mul]; omega, List.set_cons_succ, List.flatMap_cons]
    rw [flat_set hK l i j v y (by simpa using hi) hj hy]
theorem rec_cell (hK : ∀ x, (f x).length = K) {w : World} {E b o n cap : Nat} {l : List α} {R : Hp} (h : Sat w (arr E K (some ⟨b, o, none⟩) n cap (l.flatMap f) * R)) (i j : Nat) (hi : i < l.length) (hj : j < K) : w.cell? ⟨b, o + i * K + j, none⟩ = (f l[i])[j]? := by
  have hlt : i * K + j < (l.flatMap f).length := by
    rw [flat_len hK]
    have : (i + 1) * K ≤ l.length * K := Nat.mul_le_mul_right K hi
    rw [Nat.add_mul] at this; omega
  rw [Nat.add_assoc, h.arr_cell _ hlt, ← flat_get hK l i j hi hj, List.getElem?_eq_getElem hlt]
theorem rec_set (hK : ∀ x, (f x).length = K) {w : World} {E b o n cap : Nat} {l : List α} {R : Hp} (h : Sat w (arr E K (some ⟨b, o, none⟩) n cap (l.flatMap f) * R)) (i j : Nat) (v : Value) (y : α) (hi : i < l.length) (hj : j < K) (hy : f y = (f l[i]).set j v) :
    Sat (w.setCell ⟨b, o + i * K + j, none⟩ v) (arr E K (some ⟨b, o, none⟩) n cap ((l.set i y).flatMap f) * R) := by
  rw [← flat_set hK l i j v y hi hj hy, Nat.add_assoc]
  exact h.arr_set _ v
end
/-- A handle of the document's. -/
structure DH where
  id : Int
  kind : Int
  refs : Int
  at_ : Int
  node : Int
  rd : Bool
  pt : Bool
  mo : Bool
  data : ByteArray
  most : Int
  pipe : Int
instance : Inhabited DH := ⟨⟨0, 0, 0, 0, 0, false, false, false, ⟨#[]⟩, 0, 0⟩⟩
def dhC (x : DH) : List Value := [.int .i64 x.id, .int .i64 x.kind, .int .i64 x.refs, .int .i64 x.at_, .int .i64 x.node, .bool x.rd, .bool x.pt, .bool x.mo, .string x.data, .int .i64 x.most, .int .i64 x.pipe]
theorem dhC_len (x : DH) : (dhC x).length = 11 := rfl
abbrev dhV (x : DH) : Value := .agg #[.int .i64 x.id, .int .i64 x.kind, .int .i64 x.refs, .int .i64 x.at_, .int .i64 x.node, .bool x.rd, .bool x.pt, .bool x.mo, .string x.data, .int .i64 x.most, .int .i64 x.pipe]
abbrev dhO (x : DH) : Obj := .cells #[.int .i64 x.id, .int .i64 x.kind, .int .i64 x.refs, .int .i64 x.at_, .int .i64 x.node, .bool x.rd, .bool x.pt, .bool x.mo, .string x.data, .int .i64 x.most, .int .i64 x.pipe] 146 (0, 0)
abbrev dhA (p : Option Addr) (cap : Nat) (l : List DH) : Hp := arr 146 11 p l.length cap (l.flatMap dhC)
/-- The document's table: where its tree and its pool lie, its handles, its pipes. -/
structure RT where
  tb : Nat
  rf : Nat
  rp : Nat
  lp : Option Addr
  lc : Nat
  qp : Option Addr
  qc : Nat
abbrev rtO (c : RT) (n qn : Nat) : Obj := .cells #[pp c.rf, pp c.rp, .slice c.lp n c.lc, .slice c.qp qn c.qc] 143 (0, 0)
def rtHp (c : RT) (L : List DH) (qn : Nat) : Hp := pts c.tb (rtO c L.length qn) * dhA c.lp c.lc L
theorem rt_cells {w : World} {c : RT} {L : List DH} {qn : Nat} {R : Hp} (h : Sat w (rtHp c L qn * R)) : w.cell? ⟨c.tb, 0, none⟩ = some (pp c.rf) ∧ w.cell? ⟨c.tb, 1, none⟩ = some (pp c.rp) ∧ w.cell? ⟨c.tb, 2, none⟩ = some (.slice c.lp L.length c.lc) ∧ w.cell? ⟨c.tb, 3, none⟩ = some (.slice c.qp qn c.qc) := by
  unfold rtHp at h
  have hb := (h.perm (sep_assoc _ _ _)).get
  refine ⟨?_, ?_, ?_, ?_⟩ <;> rw [cell_at hb] <;> rfl
theorem rt_arr {w : World} {c : RT} {L : List DH} {qn : Nat} {R : Hp} (h : Sat w (rtHp c L qn * R)) : Sat w (dhA c.lp c.lc L * (pts c.tb (rtO c L.length qn) * R)) := h.perm (by unfold rtHp; ac_rfl)
theorem rt_addr {w : World} {c : RT} {L : List DH} {qn : Nat} {R : Hp} (h : Sat w (rtHp c L qn * R)) {i : Nat} (hi : i < L.length) : (∃ b o, c.lp = some ⟨b, o, none⟩) ∧ L.length ≤ c.lc ∧ c.lc ≤ maxLen := by
  have h1 := (rt_arr h).arr_len
  exact ⟨(rt_arr h).arr_addr (by omega), h1.2.1, h1.2.2⟩
theorem dh_cells {w : World} {c : RT} {L : List DH} {qn b o : Nat} {R : Hp} (h : Sat w (rtHp c L qn * R)) (hp : c.lp = some ⟨b, o, none⟩) {i : Nat} (hi : i < L.length) :
    w.cell? ⟨b, o + i * 11, none⟩ = some (.int .i64 L[i].id) ∧ w.cell? ⟨b, o + i * 11 + 1, none⟩ = some (.int .i64 L[i].kind) ∧ w.cell? ⟨b, o + i * 11 + 2, none⟩ = some (.int .i64 L[i].refs) ∧ w.cell? ⟨b, o + i * 11 + 3, none⟩ = some (.int .i64 L[i].at_) ∧
    w.cell? ⟨b, o + i * 11 + 4, none⟩ = some (.int .i64 L[i].node) ∧ w.cell? ⟨b, o + i * 11 + 5, none⟩ = some (.bool L[i].rd) ∧ w.cell? ⟨b, o + i * 11 + 6, none⟩ = some (.bool L[i].pt) ∧ w.cell? ⟨b, o + i * 11 + 7, none⟩ = some (.bool L[i].mo) ∧
    w.cell? ⟨b, o + i * 11 + 8, none⟩ = some (.string L[i].data) ∧ w.cell? ⟨b, o + i * 11 + 9, none⟩ = some (.int .i64 L[i].most) ∧ w.cell? ⟨b, o + i * 11 + 10, none⟩ = some (.int .i64 L[i].pipe) := by
  have h1 := rt_arr h
  rw [hp] at h1
  have g := fun j hj => rec_cell dhC_len h1 i j hi hj
  exact ⟨g 0 (by omega), g 1 (by omega), g 2 (by omega), g 3 (by omega), g 4 (by omega), g 5 (by omega), g 6 (by omega), g 7 (by omega), g 8 (by omega), g 9 (by omega), g 10 (by omega)⟩
/-- One cell of a handle is written. -/
theorem dh_set {w : World} {c : RT} {L : List DH} {qn b o : Nat} {R : Hp} (h : Sat w (rtHp c L qn * R)) (hp : c.lp = some ⟨b, o, none⟩) {i : Nat} (hi : i < L.length) (j : Nat) (v : Value) (y : DH) (hj : j < 11) (hy : dhC y = (dhC L[i]).set j v) :
    Sat (w.setCell ⟨b, o + i * 11 + j, none⟩ v) (rtHp c (L.set i y) qn * R) := by
  have h1 := rt_arr h
  unfold dhA at h1
  rw [hp] at h1
  refine (rec_set dhC_len h1 i j v y hi hj hy).perm ?_
  unfold rtHp dhA
  rw [hp, List.length_set]
  ac_rfl
def placeN : List DH → Int → Nat → Int
  | [], _, _ => -1
  | x :: l, id, k => if x.id = id then (k : Int) else placeN l id (k + 1)
theorem placeN_cons (x : DH) (l : List DH) (id : Int) (k : Nat) : placeN (x :: l) id k = if x.id = id then (k : Int) else placeN l id (k + 1) := rfl
theorem placeN_cases : ∀ (l : List DH) (id : Int) (k : Nat), (placeN l id k = -1 ∧ ∀ x ∈ l, x.id ≠ id) ∨ ∃ i, ∃ h : i < l.length, placeN l id k = ((k + i : Nat) : Int) ∧ l[i].id = id
  | [], id, k => .inl ⟨rfl, fun x hx => by cases hx⟩
  | x :: l, id, k => by
    unfold placeN
    by_cases e : x.id = id
    · exact .inr ⟨0, by simp, by rw [if_pos e]; rfl, e⟩
    · rw [if_neg e]
      rcases placeN_cases l id (k + 1) with ⟨h1, h2⟩ | ⟨i, hi, h1, h2⟩
      · exact .inl ⟨h1, fun y hy => by
          rcases List.mem_cons.1 hy with e2 | e2
          · rw [e2]; exact e
          · exact h2 y e2⟩
      · exact .inr ⟨i + 1, by simpa using hi, by rw [h1]; omega, h2⟩
set_option maxRecDepth 100000 in
set_option maxHeartbeats 4000000 in
theorem rplace_calls (c : RT) (L : List DH) (qn : Nat) (id : Int) (hL : L.length ≤ 1000000) (w : World) (R : Hp) (h : Sat w (rtHp c L qn * R)) :
    Calls Tryz.prog 80 #[pp c.tb, .int .i64 id] w fun e w' => e = .returned (.int .i64 (placeN L id 0)) ∧ w = w' := by
  obtain ⟨c0, c1, c2, c3⟩ := rt_cells h
  have H := Lib.hid h
  have hLI : (L.length : Int) ≤ 1000000 := by omega
  clear h
  go_enter Tryz.func80, Tryz.ntmps80
  go_wp2_with fail
  go_loopg [5] (L.length) (fun (g : Nat) (v5 : Value) (wr : World) => ∃ i : Nat, v5 = .int .i64 (i : Int) ∧ i + g = L.length ∧ placeN L id 0 = placeN (L.drop i) id i ∧ w = wr)
  case atStart => exact ⟨0, rfl, by omega, by rw [List.drop_zero], rfl⟩
  case round =>
    obtain ⟨i, rfl, hg, hpl, rfl⟩ := hrel
    by_cases hlt : i < L.length
    · have hltI : (i : Int) < (L.length : Int) := by omega
      have hi0 : (0 : Int) ≤ (i : Int) := by omega
      obtain ⟨⟨b, o, hb⟩, hlc, hlm⟩ := rt_addr H.out hlt
      have d0 := (dh_cells H.out hb hlt).1
      rw [hb] at c2
      rw [List.drop_eq_getElem_cons hlt] at hpl
      rw [placeN_cons] at hpl
      obtain ⟨xi, hxi⟩ : ∃ xi, xi = L[i].id := ⟨_, rfl⟩
      rw [← hxi] at d0 hpl
      clear hxi hb
      by_cases he : xi = id
      · rw [if_pos he] at hpl
        have hbe : (xi == id) = true := by simp [he]
        have Hpl := Lib.hid hpl
        clear hpl
        go_wp2_with fail
        go_ret
        exact ⟨by rw [Hpl.out]; rfl, rfl⟩
      · rw [if_neg he] at hpl
        have hbe : (xi == id) = false := by simp [he]
        have Hpl := Lib.hid hpl
        clear hpl
        go_wp2_with fail
        go_roundg (gk - 1)
        case rel => exact ⟨i + 1, by simp, by omega, Hpl.out, rfl⟩
        case measure => omega
    · have hge : (L.length : Int) ≤ (i : Int) := by omega
      have Hpl : Hid (placeN L id 0 = -1) := Lib.hid (by rw [hpl, List.drop_eq_nil_of_le (by omega)]; rfl)
      clear hpl
      go_wp2_with fail
      go_ret
      exact ⟨by rw [Hpl.out]; rfl, rfl⟩
set_option maxRecDepth 100000 in
set_option maxHeartbeats 4000000 in
theorem RRef_calls (c : RT) (L : List DH) (qn : Nat) (id : Int) (hL : L.length ≤ 1000000) (hr : ∀ x ∈ L, 0 ≤ x.refs ∧ x.refs ≤ 1000000) (w : World) (R : Hp) (h : Sat w (rtHp c L qn * R)) :
    Calls Tryz.prog 52 #[pp c.tb, .int .i64 id] w fun e w' => ((placeN L id 0 = -1 ∧ e = .returned (.int .i64 18) ∧ Sat w' (rtHp c L qn * R)) ∨
      ∃ i, ∃ hi : i < L.length, placeN L id 0 = (i : Int) ∧ e = .returned (.int .i64 0) ∧ Sat w' (rtHp c (L.set i { L[i] with refs := L[i].refs + 1 }) qn * R)) ∧ Ran w w' := by
  have HP := Lib.hid (rplace_calls c L qn id hL w R h)
  obtain ⟨c0, c1, c2, c3⟩ := rt_cells h
  rcases placeN_cases L id 0 with ⟨h1, h2⟩ | ⟨i, hi, h1, h2⟩
  · rw [h1] at HP
    have H := Lib.hid (And.intro h h1)
    clear h h1 h2
    go_enter Tryz.func52, Tryz.ntmps52
    go_wp2_with fail
    refine HP.out.mono ?_
    rintro e w1 ⟨rfl, rfl⟩
    clear HP
    go_wp2_with fail
    go_ret
    exact ⟨.inl ⟨H.out.2, rfl, H.out.1⟩, Below.refl 0 w⟩
  · rw [Nat.zero_add] at h1
    rw [h1] at HP
    obtain ⟨⟨b, o, hb⟩, hlc, hlm⟩ := rt_addr h hi
    obtain ⟨d0, d1, d2, -⟩ := dh_cells h hb hi
    have hh := hr L[i] (List.getElem_mem hi)
    have f0 : ∀ j, w.frozen? ⟨b, j, none⟩ = false := fun j => by
      have := rt_arr h; rw [hb] at this; exact this.arr_free j
    have S1 := Lib.hid (And.intro h1 (dh_set h.drew hb hi 2 (.int .i64 (L[i].refs + 1)) { L[i] with refs := L[i].refs + 1 } (by omega) rfl))
    rw [hb] at c2
    have HC := Lib.hid hb
    obtain ⟨rf, hrf⟩ : ∃ rf, rf = L[i].refs := ⟨_, rfl⟩
    rw [← hrf] at d2 hh S1
    have HRF := Lib.hid hrf
    have hiI : (i : Int) < (L.length : Int) := by omega
    have hi0 : (0 : Int) ≤ (i : Int) := by omega
    have hLI : (L.length : Int) ≤ 1000000 := by omega
    have hcm : (c.lc : Int) ≤ 9223372036854775807 := by unfold maxLen at hlm; omega
    clear h h1 h2 hb hrf d0 d1
    go_enter Tryz.func52, Tryz.ntmps52
    go_wp2_with fail
    refine HP.out.mono ?_
    rintro e w1 ⟨rfl, rfl⟩
    clear HP
    go_upto_region 4 with fail
    go_still_tail 16, (by kernel_rfl)
    go_wp2_with fail
    go_ret
    exact ⟨.inr ⟨i, hi, S1.out.1, rfl, by rw [← HRF.out]; exact S1.out.2⟩, Ran.set (Ran.drewN (Below.refl 0 w) 1) _ _⟩
end Go.Proofs.YtljlpkeddbfpaaaGreatDoor.Hd

