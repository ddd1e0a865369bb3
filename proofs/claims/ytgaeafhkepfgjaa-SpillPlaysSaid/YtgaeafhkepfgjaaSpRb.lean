/- The document's answer for layer 6, walked: what makes and changes. -/
import Derived.Test.YtgaeafhkepfgjaaSpRa
namespace Go.Proofs.Ytgaeafhkepfgjaa.Spill
open Go.RowKit Go.Proofs.Ytgaeafhkepfgjaa Go.Proofs.Ytgaeafhkepfgjaa.Hp
set_option linter.unusedVariables false

theorem rnew_bad (q m c : Int) (w : World) (h : q < 0 ∨ 1048576 < q ∨ m < 0 ∨ 65536 < m ∨ c < 1 ∨ 65536 < c) :
    Calls Try.prog 15 #[.int .i64 q, .int .i64 m, .int .i64 c] w fun e w' => e = .returned (.tuple #[.pointer none, .int .i64 1]) ∧ w = w' := by
  by_cases h1 : q < 0
  · clear h; go_enter Try.func15, Try.ntmps15
    go_wp2; go_ret2; exact ⟨rfl, rfl⟩
  by_cases h2 : 1048576 < q
  · clear h; go_enter Try.func15, Try.ntmps15
    go_wp2; go_ret2; exact ⟨rfl, rfl⟩
  by_cases h3 : m < 0
  · clear h; go_enter Try.func15, Try.ntmps15
    go_wp2; go_ret2; exact ⟨rfl, rfl⟩
  by_cases h4 : 65536 < m
  · clear h; go_enter Try.func15, Try.ntmps15
    go_wp2; go_ret2; exact ⟨rfl, rfl⟩
  by_cases h5 : c < 1
  · clear h; go_enter Try.func15, Try.ntmps15
    go_wp2; go_ret2; exact ⟨rfl, rfl⟩
  have h6 : 65536 < c := by omega
  clear h; go_enter Try.func15, Try.ntmps15
  go_wp2; go_ret2; exact ⟨rfl, rfl⟩

def RNewPost (q m c : Nat) (R : Hp) (w : World) (e : Ending) (w' : World) : Prop :=
  ∃ rp, e = .returned (.tuple #[.pointer (some ⟨rp, 0, none⟩), .int .i64 0]) ∧ Sat w' (rpool rp q m c 0 none [] * R) ∧ Ran w w'
theorem rnew_good (q m c : Nat) (w : World) (R : Hp) (H : Sat w R) (h2 : q ≤ 1048576) (h4 : m ≤ 65536) (h5 : 1 ≤ c) (h6 : c ≤ 65536) :
    Calls Try.prog 15 #[.int .i64 q, .int .i64 m, .int .i64 c] w (RNewPost q m c R w) := by
  have g1 : ¬ ((q : Int) < 0) := by omega
  have g2 : ¬ ((1048576 : Int) < q) := by omega
  have g3 : ¬ ((m : Int) < 0) := by omega
  have g4 : ¬ ((65536 : Int) < m) := by omega
  have g5 : ¬ ((c : Int) < 1) := by omega
  have g6 : ¬ ((65536 : Int) < c) := by omega
  go_enter Try.func15, Try.ntmps15
  go_wp2
  go_ret2
  refine ⟨w.heap.size, rfl, ?_, Ran.new (Below.refl _ _) _⟩
  have := (H.alloc (rpo q m c (.slice none 0 0)))
  refine (this.perm ?_)
  unfold rpool
  show _ = pts w.heap.size (rpo q m c (.slice none 0 0)) * arr 43 1 none 0 0 [] * R
  rw [arr_nil, sep_emp]

theorem info43 : (Try.prog.info? 43).map (fun i => (i.zero, i.size, i.bytes)) = some (some (.pointer none), 1, 8) := by kernel_rfl
theorem app46 {w : World} {R : Hp} {ops : Array Oper} {rest : List Oper} {o : Oper} {a : Act} {Q : Exit → Act → World → Prop} (hgd : o.guard = none) (s x : Operand)
    (ho : o.op = .call { callee := .builtin .append, args := #[s, x], argTypes := #[46, 46] })
    (p : Option Addr) (n cap : Nat) (xs : List Value) (hp : a.eval s = .slice p n cap) (b : Nat) (v : Value) (hvx : a.eval x = .slice (some ⟨b, 0, none⟩) 1 1) (h : Sat w (arr 43 1 p n cap xs * R)) (hb : w.cell? ⟨b, 0, none⟩ = some v) (hv : v.oneCell' = true) (hn : n ≤ 1000000000000)
    (hk : ∀ p' cap' w', Sat w' (arr 43 1 p' (n + 1) cap' (xs ++ [v]) * R) → Ran w w' → wpList Try.prog ops Q rest (a.put o.dst (.slice p' (n + 1) cap')) w') : wpList Try.prog ops Q (o :: rest) a w := by
  obtain ⟨i0, hi, hz0, hz1, hz2⟩ := info_parts info43
  refine wpList_append_arr hgd s x _ _ ho 43 i0 _ 1 8 Try.underlying46 hi hz0 hz1 hz2 rfl p n cap xs hp h _ hvx 1 [v] (Src.ofSlice _ Try.underlying46 ⟨b, 0, none⟩ 1 1 [v] (by simp [hz1]) ?_ (by simpa using hv)) (by omega) (by unfold maxLen; omega) fun p' cap' w' h1 h2 _ => hk p' cap' w' h1 h2
  intro j u hj
  cases j with
  | zero => simp at hj; subst hj; simpa [Addr.add] using hb
  | succ j => simp at hj
def ROpenPost (rp q m c : Nat) (L : List Bf) (R : Hp) (w : World) (e : Ending) (w' : World) : Prop :=
  ∃ rb cap' p', e = .returned (.pointer (some ⟨rb, 0, none⟩)) ∧ (∀ ba, Sat w' (rpool rp q m c cap' p' (L ++ [⟨ba, rb, false, [], []⟩]) * (rbuf ⟨ba, rb, false, [], []⟩ * R))) ∧ Ran w w'
set_option maxHeartbeats 400000 in
theorem ropen (rp q m c cap : Nat) (p : Option Addr) (L : List Bf) (w : World) (R : Hp) (hL : L.length ≤ 1000000) (H : Sat w (rpool rp q m c cap p L * R)) :
    Calls Try.prog 16 #[.pointer (some ⟨rp, 0, none⟩)] w (ROpenPost rp q m c L R w) := by
  have H1 := H.perm (show _ = pts rp (rpo q m c (.slice p L.length cap)) * (arr 43 1 p L.length cap (L.map rptr) * R) by unfold rpool; ac_rfl)
  obtain ⟨c0, c1, c2, c3, cf⟩ := rpo_cells H1.get
  have H2 := H1.alloc (rbo ⟨0, w.heap.size, false, [], []⟩)
  have H3 : Sat ((w.alloc (rbo ⟨0, w.heap.size, false, [], []⟩)).alloc (.cells #[.pointer (some ⟨w.heap.size, 0, none⟩)] 43)) (arr 43 1 p L.length cap (L.map rptr) * (pts rp (rpo q m c (.slice p L.length cap)) * (pts w.heap.size (rbo ⟨0, w.heap.size, false, [], []⟩) * R))) :=
    (H2.old _).perm (by ac_rfl)
  have HR3 : Ran w ((w.alloc (rbo ⟨0, w.heap.size, false, [], []⟩)).alloc (.cells #[.pointer (some ⟨w.heap.size, 0, none⟩)] 43)) := Ran.new (Ran.new (Below.refl _ _) _) _
  have Hc : ((w.alloc (rbo ⟨0, w.heap.size, false, [], []⟩)).alloc (.cells #[.pointer (some ⟨w.heap.size, 0, none⟩)] 43)).cell? ⟨w.heap.size + 1, 0, none⟩ = some (.pointer (some ⟨w.heap.size, 0, none⟩)) := by
    simp
  have c3' : (w.alloc (.cells #[.string ⟨#[]⟩, .int .i64 0, .bool false] 65)).cell? ⟨rp, 3, none⟩ = some (.slice p L.length cap) := (rpo_cells H2.right.get).2.2.2.1
  have HC := Lib.hid Hc
  clear H1 H2 Hc
  go_enter Try.func16, Try.ntmps16
  go_wp2_with (at_builtin; refine app46 rfl _ _ rfl p L.length cap _ rfl (w.heap.size + 1) (.pointer (some ⟨w.heap.size, 0, none⟩)) rfl H3 HC.out rfl (by omega) ?_; intro p' cap' w' HS' HR'; clear H3 HC; have HB := HS'.perm (show _ = pts rp (rpo q m c (.slice p L.length cap)) * (arr 43 1 p' (L.length + 1) cap' (L.map rptr ++ [.pointer (some ⟨w.heap.size, 0, none⟩)]) * (pts w.heap.size (rbo ⟨0, w.heap.size, false, [], []⟩) * R)) by ac_rfl); obtain ⟨d0, d1, d2, d3, df⟩ := rpo_cells HB.get)
  go_ret
  have H4 : Sat (w'.setCell ⟨rp, 3, none⟩ (.slice p' (L.length + 1) cap')) (pts rp (rpo q m c (.slice p' (L.length + 1) cap')) * (arr 43 1 p' (L.length + 1) cap' (L.map rptr ++ [.pointer (some ⟨w.heap.size, 0, none⟩)]) * (pts w.heap.size (rbo ⟨0, w.heap.size, false, [], []⟩) * R))) := HB.set (i := 3) (.slice p' (L.length + 1) cap')
  refine ⟨w.heap.size, cap', p', rfl, fun ba => H4.perm ?_, Ran.set (HR3.trans HR') _ _⟩
  unfold rpool rbuf
  rw [List.length_append, List.map_append]
  show _ = pts rp (rpo q m c (.slice p' (L.length + 1) cap')) * arr 43 1 p' (L.length + 1) cap' (L.map rptr ++ [.pointer (some ⟨w.heap.size, 0, none⟩)]) * (pts w.heap.size (rbo ⟨0, w.heap.size, false, [], []⟩) * R)
  ac_rfl

theorem rclose_closed (x : Bf) (w : World) (h : w.heap[x.rb]? = some (rbo x)) (hc : x.closed = true) :
    Calls Try.prog 21 #[.pointer (some ⟨x.rb, 0, none⟩)] w fun e w' => e = .returned (.int .i64 18) ∧ w = w' := by
  obtain ⟨c0, c1, c2, _⟩ := rbo_cells h
  rw [hc] at c2
  go_enter Try.func21, Try.ntmps21
  go_wp2
  go_ret
  exact ⟨rfl, rfl⟩
theorem rclose_open (ba rb : Nat) (pre data : List UInt8) (w : World) (R : Hp) (H : Sat w (rbuf ⟨ba, rb, false, pre, data⟩ * R)) :
    Calls Try.prog 21 #[.pointer (some ⟨rb, 0, none⟩)] w fun e w' => e = .returned (.int .i64 0) ∧ Sat w' (rbuf ⟨ba, rb, true, pre, data⟩ * R) ∧ Ran w w' := by
  obtain ⟨c0, c1, c2, cf⟩ := rbo_cells (x := ⟨ba, rb, false, pre, data⟩) H.get
  simp only at c0 c1 c2 cf
  go_enter Try.func21, Try.ntmps21
  go_wp2
  go_ret
  exact ⟨rfl, H.set (i := 2) (.bool true), Ran.set (Below.refl _ _) _ _⟩
theorem rdrain_closed (x : Bf) (n : Int) (w : World) (h : w.heap[x.rb]? = some (rbo x)) (hc : x.closed = true) :
    Calls Try.prog 19 #[.pointer (some ⟨x.rb, 0, none⟩), .int .i64 n] w fun e w' => e = .returned (.tuple #[.string ⟨#[]⟩, .int .i64 18]) ∧ w = w' := by
  obtain ⟨c0, c1, c2, _⟩ := rbo_cells h
  rw [hc] at c2
  go_enter Try.func19, Try.ntmps19
  go_wp2
  go_ret2
  exact ⟨rfl, rfl⟩
theorem rdrain_neg (x : Bf) (n : Int) (w : World) (h : w.heap[x.rb]? = some (rbo x)) (hc : x.closed = false) (hn : n < 0) :
    Calls Try.prog 19 #[.pointer (some ⟨x.rb, 0, none⟩), .int .i64 n] w fun e w' => e = .returned (.tuple #[.string ⟨#[]⟩, .int .i64 1]) ∧ w = w' := by
  obtain ⟨c0, c1, c2, _⟩ := rbo_cells h
  rw [hc] at c2
  go_enter Try.func19, Try.ntmps19
  go_wp2
  go_ret2
  exact ⟨rfl, rfl⟩
theorem rappend_closed (x : Bf) (rp : Nat) (s : ByteArray) (w : World) (h : w.heap[x.rb]? = some (rbo x)) (hc : x.closed = true) :
    Calls Try.prog 18 #[.pointer (some ⟨rp, 0, none⟩), .pointer (some ⟨x.rb, 0, none⟩), .string s] w fun e w' => e = .returned (.int .i64 18) ∧ w = w' := by
  obtain ⟨c0, c1, c2, _⟩ := rbo_cells h
  rw [hc] at c2
  go_enter Try.func18, Try.ntmps18
  go_wp2
  go_ret
  exact ⟨rfl, rfl⟩
end Go.Proofs.Ytgaeafhkepfgjaa.Spill
