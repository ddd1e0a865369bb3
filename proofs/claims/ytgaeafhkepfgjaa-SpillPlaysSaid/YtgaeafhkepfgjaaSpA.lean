/- The spill package's small functions, walked: New, Open, take, give, at, is, Held, Chunks, Buffers, Len. -/
import Derived.Test.YtgaeafhkepfgjaaArr
import Derived.Test.YtgaeafhkepfgjaaRows
import Derived.Deep.QuietTactic
import Derived.BigQuiet
import Derived.Deep.RegionHeld3
import Derived.Deep.DeepCutAuto
import Derived.Deep.LoopGhost
import Derived.Deep.DeepFit
import Derived.Lib.Hide
namespace Go.Proofs.Ytgaeafhkepfgjaa.Spill
open Go.RowKit Go.Proofs.Ytgaeafhkepfgjaa Go.Proofs.Ytgaeafhkepfgjaa.Hp

theorem info58 : (Try.prog.info? 58).map (fun i => (i.zero, i.size, i.bytes)) = some (some (.slice none 0 0), 1, 24) := by kernel_rfl
theorem info5 : (Try.prog.info? 5).map (fun i => (i.zero, i.size, i.bytes)) = some (some (.int .u8 0), 1, 1) := by kernel_rfl

/-- A chunk's slice. -/
def bs (c : Nat) (x : Nat × List Value) : Value := .slice (some ⟨x.1, 0, none⟩) c c
/-- A chunk: a block of c cells. -/
def chunk (c : Nat) (x : Nat × List Value) : Hp := fact (x.2.length = c) * pts x.1 (.cells x.2.toArray 5 (0, 0))
/-- A pool's fields. -/
abbrev pf (q m c held used opn : Int) (v : Value) : Obj := .cells #[.int .i64 q, .int .i64 m, .int .i64 c, .int .i64 held, .int .i64 used, .int .i64 opn, v] 57 (0, 0)
/-- A pool: its fields, the chunks that are free. -/
def pool (bp q m c held used opn : Nat) (p : Option Addr) (cap : Nat) (F : List (Nat × List Value)) : Hp :=
  pts bp (pf q m c held used opn (.slice p F.length cap)) * (arr 58 1 p F.length cap (F.map (bs c)) * all (chunk c) F)

theorem cells7 {w : World} {b : Nat} {T : TypeId} {v0 v1 v2 v3 v4 v5 v6 : Value} (h : w.heap[b]? = some (.cells #[v0, v1, v2, v3, v4, v5, v6] T (0, 0))) :
    w.cell? ⟨b, 0, none⟩ = some v0 ∧ w.cell? ⟨b, 1, none⟩ = some v1 ∧ w.cell? ⟨b, 2, none⟩ = some v2 ∧ w.cell? ⟨b, 3, none⟩ = some v3 ∧ w.cell? ⟨b, 4, none⟩ = some v4 ∧ w.cell? ⟨b, 5, none⟩ = some v5 ∧ w.cell? ⟨b, 6, none⟩ = some v6 ∧
      ∀ i, w.frozen? ⟨b, i, none⟩ = false := by
  refine ⟨?_, ?_, ?_, ?_, ?_, ?_, ?_, free_at h⟩ <;> (rw [cell_at h]; rfl)

def TakePost (bp q m c held used opn : Nat) (F : List (Nat × List Value)) (R : Hp) (w : World) (e : Ending) (w' : World) : Prop :=
  ∃ x p' cap' F', e = .returned (.slice (some ⟨x.1, 0, none⟩) c c) ∧ F'.length = F.length - 1 ∧ Sat w' (pool bp q m c held (used + 1) opn p' cap' F' * (chunk c x * R)) ∧ Ran w w'

set_option maxHeartbeats 400000 in
theorem take_some (bp q m c held used opn g o cap : Nat) (F : List (Nat × List Value)) (x : Nat × List Value) (R : Hp) (w : World) (hu : used ≤ 1000000000000)
    (H : Sat w (pool bp q m c held used opn (some ⟨g, o, none⟩) cap (F ++ [x]) * R)) :
    Calls Try.prog 29 #[.pointer (some ⟨bp, 0, none⟩)] w (TakePost bp q m c held used opn (F ++ [x]) R w) := by
  have H1 := H.perm (sep_assoc _ _ _)
  obtain ⟨c0, c1, c2, c3, c4, c5, c6, cf⟩ := cells7 H1.get
  have HA : Sat w (arr 58 1 (some ⟨g, o, none⟩) (F ++ [x]).length cap ((F ++ [x]).map (bs c)) * (pts bp (pf q m c held used opn (.slice (some ⟨g, o, none⟩) (F ++ [x]).length cap)) * (all (chunk c) (F ++ [x]) * R))) := H1.perm (by ac_rfl)
  obtain ⟨hne, hx, hl, hm⟩ : bp ≠ g ∧ w.cell? ⟨g, o + F.length, none⟩ = some (.slice (some ⟨x.1, 0, none⟩) c c) ∧ (F.length : Int) + 1 ≤ cap ∧ (cap : Int) ≤ 9223372036854775807 := by
    obtain ⟨cur, _, hl, hm, hsz, _, hcell, Hg⟩ := Sat.arr_some HA
    simp only [List.length_append, List.length_cons, List.length_nil] at hl
    unfold maxLen at hm
    refine ⟨Hg.ne.symm, ?_, by omega, by omega⟩
    rw [cell_at Hg.get, hcell _ (by simp)]; simp [bs]
  simp only [List.length_append, List.length_cons, List.length_nil, Nat.zero_add] at c6
  have hb2 : (0 : Int) ≤ (F.length : Int) := by omega
  go_enter Try.func29, Try.ntmps29
  go_wp2
  go_ret
  have H2 : Sat ((w.setCell ⟨bp, 4, none⟩ (.int .i64 ((used : Int) + 1))).setCell ⟨bp, 6, none⟩ (.slice (some ⟨g, o, none⟩) F.length cap))
      (pts bp (pf q m c held (used + 1 : Nat) opn (.slice (some ⟨g, o, none⟩) F.length cap)) * (arr 58 1 (some ⟨g, o, none⟩) (F ++ [x]).length cap ((F ++ [x]).map (bs c)) * all (chunk c) (F ++ [x]) * R)) :=
    (H1.set (i := 4) (.int .i64 ((used : Int) + 1))).set (i := 6) (.slice (some ⟨g, o, none⟩) F.length cap)
  rw [all_snoc] at H2
  have H3 := (H2.perm (show _ = arr 58 1 (some ⟨g, o, none⟩) (F ++ [x]).length cap ((F ++ [x]).map (bs c)) * (pts bp (pf q m c held (used + 1 : Nat) opn (.slice (some ⟨g, o, none⟩) F.length cap)) * (all (chunk c) F * (chunk c x * R))) by ac_rfl)).arr_take F.length (by simp)
  have e : List.take (F.length * 1) ((F ++ [x]).map (bs c)) = F.map (bs c) := by simp
  rw [e] at H3
  exact ⟨x, some ⟨g, o, none⟩, cap, F, rfl, by simp, H3.perm (by unfold pool; ac_rfl), Ran.set (Ran.set (Below.refl _ _) _ _) _ _⟩

set_option maxHeartbeats 400000 in
theorem take_none (bp q m c held used opn cap : Nat) (p : Option Addr) (R : Hp) (w : World) (hu : used ≤ 1000000000000) (hc : c ≤ 65536)
    (H : Sat w (pool bp q m c held used opn p cap [] * R)) :
    Calls Try.prog 29 #[.pointer (some ⟨bp, 0, none⟩)] w (TakePost bp q m c held used opn [] R w) := by
  have H1 := H.perm (sep_assoc _ _ _)
  obtain ⟨c0, c1, c2, c3, c4, c5, c6, cf⟩ := cells7 H1.get
  simp only [List.length_nil] at c6
  obtain ⟨i0, hi, hz0, hz1, hz2⟩ := info_parts info5
  have hmk : ∀ w' : World, (Instr.makeSlice 58 (.int .i64 (c : Int)) (.int .i64 (c : Int))).run Try.prog w' = .ok (.slice (some ⟨w'.heap.size, 0, none⟩) c c) (w'.alloc (.cells (madeCells #[.int .u8 0] c) 5)) := fun w' => by
    have := run_make (P := Try.prog) w' _ _ i0 _ Try.underlying58 hi hz0 .i64 .i64 (c : Int) (c : Int) (by omega) (by omega) (by rw [hz2]; omega) (by omega)
    simpa [hz1, Value.cells] using this
  clear hi hz0 hz1 hz2
  go_enter Try.func29, Try.ntmps29
  go_wp2
  go_ret
  have H2 : Sat (w.setCell ⟨bp, 4, none⟩ (.int .i64 ((used : Int) + 1))) (pts bp (pf q m c held (used + 1 : Nat) opn (.slice p 0 cap)) * (arr 58 1 p 0 cap [] * emp * R)) :=
    H1.set (i := 4) (.int .i64 ((used : Int) + 1))
  have H3 := H2.alloc (.cells (madeCells #[.int .u8 0] c) 5)
  have hs : (madeCells #[Value.int .u8 0] c).toList.length = c := by simp [size_madeCells]
  refine ⟨(w.heap.size, (madeCells #[.int .u8 0] c).toList), p, cap, [], rfl, rfl, ?_, Ran.new (Ran.set (Below.refl _ _) _ _) _⟩
  unfold pool chunk
  have H4 : Sat ((w.setCell ⟨bp, 4, none⟩ (.int .i64 ((used : Int) + 1))).alloc (.cells (madeCells #[.int .u8 0] c) 5)) (fact ((madeCells #[Value.int .u8 0] c).toList.length = c) * (pts w.heap.size (.cells (madeCells #[.int .u8 0] c) 5 (0, 0)) * (pts bp (pf q m c held (used + 1 : Nat) opn (.slice p 0 cap)) * (arr 58 1 p 0 cap [] * emp * R)))) := by
    rw [World.size_setCell] at H3
    exact H3.fact_in hs
  exact H4.perm (by show _ = pts bp _ * (arr 58 1 p 0 cap [] * emp) * (fact _ * pts w.heap.size (.cells _ _ (0, 0)) * R); ac_rfl)

theorem take_calls (bp q m c held used opn cap : Nat) (p : Option Addr) (F : List (Nat × List Value)) (R : Hp) (w : World) (hu : used ≤ 1000000000000) (hc : c ≤ 65536)
    (H : Sat w (pool bp q m c held used opn p cap F * R)) :
    Calls Try.prog 29 #[.pointer (some ⟨bp, 0, none⟩)] w (TakePost bp q m c held used opn F R w) := by
  rcases List.eq_nil_or_concat F with rfl | ⟨F, x, rfl⟩
  · exact take_none bp q m c held used opn cap p R w hu hc H
  · rw [List.concat_eq_append] at H ⊢
    obtain ⟨b, o, rfl⟩ : ∃ b o, p = some ⟨b, o, none⟩ := by
      have HA : Sat w (arr 58 1 p (F ++ [x]).length cap ((F ++ [x]).map (bs c)) * (pts bp (pf q m c held used opn (.slice p (F ++ [x]).length cap)) * (all (chunk c) (F ++ [x]) * R))) := H.perm (by unfold pool; ac_rfl)
      exact HA.arr_addr (by have := HA.arr_len; simp at this; omega)
    exact take_some bp q m c held used opn b o cap F x R w hu H

/-- append of one chunk's slice that lies in a block of its own. -/
theorem app58 {w : World} {R : Hp} {ops : Array Oper} {rest : List Oper} {o : Oper} {a : Act} {Q : Exit → Act → World → Prop} (hgd : o.guard = none) (s x : Operand)
    (ho : o.op = .call { callee := .builtin .append, args := #[s, x], argTypes := #[55, 55] })
    (p : Option Addr) (n cap : Nat) (xs : List Value) (hp : a.eval s = .slice p n cap) (b : Nat) (v : Value) (hvx : a.eval x = .slice (some ⟨b, 0, none⟩) 1 1) (h : Sat w (arr 58 1 p n cap xs * R)) (hb : w.cell? ⟨b, 0, none⟩ = some v) (hv : v.oneCell' = true) (hn : n ≤ 1000000000000)
    (hk : ∀ p' cap' w', Sat w' (arr 58 1 p' (n + 1) cap' (xs ++ [v]) * R) → Ran w w' → wpList Try.prog ops Q rest (a.put o.dst (.slice p' (n + 1) cap')) w') : wpList Try.prog ops Q (o :: rest) a w := by
  obtain ⟨i0, hi, hz0, hz1, hz2⟩ := info_parts info58
  refine wpList_append_arr hgd s x _ _ ho 58 i0 _ 1 24 Try.underlying55 hi hz0 hz1 hz2 rfl p n cap xs hp h _ hvx 1 [v] (Src.ofSlice _ Try.underlying55 ⟨b, 0, none⟩ 1 1 [v] (by simp [hz1]) ?_ (by simpa using hv)) (by omega) (by unfold maxLen; omega) fun p' cap' w' h1 h2 _ => hk p' cap' w' h1 h2
  intro j u hj
  cases j with
  | zero => simp at hj; subst hj; simpa [Addr.add] using hb
  | succ j => simp at hj

/-- The same, as a step of a region that draws its order. -/
theorem stepapp58 {w : World} {R : Hp} {ops : Array Oper} {o : Oper} {a : Act} {K : Act → World → Prop} {Q : Exit → Act → World → Prop} {E : Prop} (hgd : o.guard = none) (s x : Operand)
    (ho : o.op = .call { callee := .builtin .append, args := #[s, x], argTypes := #[55, 55] })
    (p : Option Addr) (n cap : Nat) (xs : List Value) (hp : a.eval s = .slice p n cap) (b : Nat) (v : Value) (hvx : a.eval x = .slice (some ⟨b, 0, none⟩) 1 1) (h : Sat w (arr 58 1 p n cap xs * R)) (hb : w.cell? ⟨b, 0, none⟩ = some v) (hv : v.oneCell' = true) (hn : n ≤ 1000000000000)
    (hk : ∀ p' cap' w', Sat w' (arr 58 1 p' (n + 1) cap' (xs ++ [v]) * R) → Ran w w' → K (a.put o.dst (.slice p' (n + 1) cap')) w') : if Region.wanted o (yielded ops a.tmps) = true then Oper.wp Try.prog o a w K Q else E := by
  obtain ⟨i0, hi, hz0, hz1, hz2⟩ := info_parts info58
  refine step_append_arr hgd s x _ _ ho 58 i0 _ 1 24 Try.underlying55 hi hz0 hz1 hz2 rfl p n cap xs hp h _ hvx 1 [v] (Src.ofSlice _ Try.underlying55 ⟨b, 0, none⟩ 1 1 [v] (by simp [hz1]) ?_ (by simpa using hv)) (by omega) (by unfold maxLen; omega) fun p' cap' w' h1 h2 _ => hk p' cap' w' h1 h2
  intro j u hj
  cases j with
  | zero => simp at hj; subst hj; simpa [Addr.add] using hb
  | succ j => simp at hj

def GivePost (bp q m c held used opn : Nat) (F : List (Nat × List Value)) (R : Hp) (w : World) (e : Ending) (w' : World) : Prop :=
  e = .returned (.tuple #[]) ∧ ∃ p' cap', Sat w' (pool bp q m c held used opn p' cap' F * R) ∧ Ran w w'

set_option maxHeartbeats 400000 in
theorem give_calls (bp q m c held used opn cap : Nat) (p : Option Addr) (F : List (Nat × List Value)) (x : Nat × List Value) (R : Hp) (w : World) (hu : used ≤ 1000000000000) (hF : F.length ≤ 1000000000000)
    (H : Sat w (pool bp q m c held (used + 1) opn p cap F * (chunk c x * R))) :
    Calls Try.prog 31 #[.pointer (some ⟨bp, 0, none⟩), .slice (some ⟨x.1, 0, none⟩) c c] w (GivePost bp q m c held used opn (F ++ [x]) R w) := by
  have H1 := H.perm (sep_assoc _ _ _)
  obtain ⟨c0, c1, c2, c3, c4, c5, c6, cf⟩ := cells7 H1.get
  rw [show ((used + 1 : Nat) : Int) = (used : Int) + 1 from rfl] at c4
  have H2 : Sat (w.setCell ⟨bp, 4, none⟩ (.int .i64 (used : Int))) (pts bp (pf q m c held used opn (.slice p F.length cap)) * (arr 58 1 p F.length cap (F.map (bs c)) * all (chunk c) F * (chunk c x * R))) :=
    H1.set (i := 4) (.int .i64 (used : Int))
  have H3 : Sat ((w.setCell ⟨bp, 4, none⟩ (.int .i64 (used : Int))).alloc (.cells #[.slice (some ⟨x.1, 0, none⟩) c c] 58)) (arr 58 1 p F.length cap (F.map (bs c)) * (pts bp (pf q m c held used opn (.slice p F.length cap)) * (all (chunk c) (F ++ [x]) * R))) := by
    rw [all_snoc]
    exact (H2.old _).perm (by ac_rfl)
  have HR3 : Ran w ((w.setCell ⟨bp, 4, none⟩ (.int .i64 (used : Int))).alloc (.cells #[.slice (some ⟨x.1, 0, none⟩) c c] 58)) := Ran.new (Ran.set (Below.refl _ _) _ _) _
  have Hc : ((w.setCell ⟨bp, 4, none⟩ (.int .i64 (used : Int))).alloc (.cells #[.slice (some ⟨x.1, 0, none⟩) c c] 58)).cell? ⟨w.heap.size, 0, none⟩ = some (.slice (some ⟨x.1, 0, none⟩) c c) := by
    have := World.cell?_alloc_new (w.setCell ⟨bp, 4, none⟩ (.int .i64 (used : Int))) #[.slice (some ⟨x.1, 0, none⟩) c c] 58 0
    simpa using this
  have HC := Lib.hid Hc
  clear H1 H2 Hc
  go_enter Try.func31, Try.ntmps31
  go_wp2_with (at_builtin; refine app58 rfl _ _ rfl p F.length cap _ rfl w.heap.size (.slice (some ⟨x.1, 0, none⟩) c c) rfl H3 HC.out rfl hF ?_; intro p' cap' w' HS' HR'; clear H3 HC; have HB := HS'.perm (show _ = pts bp (pf q m c held used opn (.slice p F.length cap)) * (arr 58 1 p' (F.length + 1) cap' (F.map (bs c) ++ [bs c x]) * (all (chunk c) (F ++ [x]) * R)) by unfold bs; ac_rfl); obtain ⟨d0, d1, d2, d3, d4, d5, d6, df⟩ := cells7 HB.get)
  go_end0
  have H4 : Sat (w'.setCell ⟨bp, 6, none⟩ (.slice p' (F.length + 1) cap')) (pts bp (pf q m c held used opn (.slice p' (F.length + 1) cap')) * (arr 58 1 p' (F.length + 1) cap' (F.map (bs c) ++ [bs c x]) * (all (chunk c) (F ++ [x]) * R))) := HB.set (i := 6) (.slice p' (F.length + 1) cap')
  refine ⟨rfl, p', cap', H4.perm ?_, Ran.set (HR3.trans HR') _ _⟩
  unfold pool
  rw [List.length_append, List.map_append]
  show _ = pts bp (pf q m c held used opn (.slice p' (F.length + 1) cap')) * (arr 58 1 p' (F.length + 1) cap' (F.map (bs c) ++ [bs c x]) * _) * _
  ac_rfl
end Go.Proofs.Ytgaeafhkepfgjaa.Spill
