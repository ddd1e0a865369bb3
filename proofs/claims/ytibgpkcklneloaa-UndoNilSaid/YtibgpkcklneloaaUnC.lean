/- A log in memory; New, Mark, Note walked. -/
import Derived.Test.YtibgpkcklneloaaUnB
import Derived.Test.YtibgpkcklneloaaPlan
namespace Go.Proofs.Ytibgpkcklneloaa.Undo
open Go.RowKit Go.Proofs.Ytibgpkcklneloaa Go.Proofs.Ytibgpkcklneloaa.Hp
set_option linter.unusedVariables false

abbrev logO (most nest : Int) (np : Option Addr) (nn nc : Nat) (mp : Option Addr) (mn mc : Nat) : Obj := .cells #[.int .i64 most, .int .i64 nest, .slice np nn nc, .slice mp mn mc] 79 (0, 0)
abbrev marksA (mp : Option Addr) (mc : Nat) (ms : List Nat) : Hp := arr 3 1 mp ms.length mc (ms.map fun m : Nat => Value.int .i64 (m : Int))
/-- A log with its notes and marks; R: what else there is. -/
def LogAt (w : World) (lb : Nat) (most nest : Int) (fs : List Value) (ms : List Nat) (R : Hp) : Prop :=
  ∃ np nc mp mc, Sat w (pts lb (logO most nest np fs.length nc mp ms.length mc) * (notes np fs.length nc fs * (marksA mp mc ms * R)))
theorem log_cells {w : World} {lb : Nat} {most nest : Int} {np mp : Option Addr} {nn nc mn mc : Nat} (h : w.heap[lb]? = some (logO most nest np nn nc mp mn mc)) :
    w.cell? ⟨lb, 0, none⟩ = some (.int .i64 most) ∧ w.cell? ⟨lb, 1, none⟩ = some (.int .i64 nest) ∧ w.cell? ⟨lb, 2, none⟩ = some (.slice np nn nc) ∧ w.cell? ⟨lb, 3, none⟩ = some (.slice mp mn mc) ∧ ∀ i, w.frozen? ⟨lb, i, none⟩ = false :=
  ⟨by rw [cell_at h]; rfl, by rw [cell_at h]; rfl, by rw [cell_at h]; rfl, by rw [cell_at h]; rfl, fun i => free_at h i⟩
theorem infoInt : (Try.prog.info? 3).map (fun i => (i.zero, i.size, i.bytes)) = some (some (.int .i64 0), 1, 8) := by kernel_rfl
theorem infoFn : (Try.prog.info? 1).map (fun i => (i.zero, i.size, i.bytes)) = some (some Value.nilFunc, 1, 8) := by kernel_rfl
theorem stepInt {w : World} {H : Hp} {ops : Array Oper} {o : Oper} {a : Act} {K : Act → World → Prop} {Q : Exit → Act → World → Prop} {E : Prop} (hgd : o.guard = none) (s x : Operand)
    (ho : o.op = .call { callee := .builtin .append, args := #[s, x], argTypes := #[22, 22] })
    (p : Option Addr) (n cap : Nat) (xs : List Value) (hp : a.eval s = .slice p n cap) (b : Nat) (hvx : a.eval x = .slice (some ⟨b, 0, none⟩) 1 1) (h : Sat w (arr 3 1 p n cap xs * H)) (v : Value) (hb : w.heap[b]? = some (.cells #[v] 3 (0, 0))) (h0 : v.oneCell' = true) (hn : n ≤ 1000000000)
    (hk : ∀ p' cap' w', Sat w' (arr 3 1 p' (n + 1) cap' (xs ++ [v]) * H) → Ran w w' → K (a.put o.dst (.slice p' (n + 1) cap')) w') :
    if Region.wanted o (yielded ops a.tmps) = true then Oper.wp Try.prog o a w K Q else E := by
  obtain ⟨i0, hi, hz0, hz1, hz2⟩ := info_parts infoInt
  rw [if_pos (by simp [Region.wanted, hgd])]
  refine wp_append_arr s x _ _ ho 3 i0 _ 1 8 Try.underlying22 hi hz0 hz1 hz2 rfl p n cap xs hp h _ hvx 1 [v] (Src.ofSlice w Try.underlying22 ⟨b, 0, none⟩ 1 1 [v] (by rw [hz1]; rfl) ?_ (by simp [h0])) (by omega) (by unfold maxLen; omega) (fun p' cap' w' h1 h2 _ => hk p' cap' w' h1 h2)
  intro j u hj
  rw [Addr.add_lit, Nat.zero_add, cell_at hb, ← hj]
  simp
theorem appFn {w : World} {H : Hp} {ops : Array Oper} {rest : List Oper} {o : Oper} {a : Act} {Q : Exit → Act → World → Prop} (hgd : o.guard = none) (s x : Operand)
    (ho : o.op = .call { callee := .builtin .append, args := #[s, x], argTypes := #[77, 77] })
    (p : Option Addr) (n cap : Nat) (xs : List Value) (hp : a.eval s = .slice p n cap) (b : Nat) (hvx : a.eval x = .slice (some ⟨b, 0, none⟩) 1 1) (h : Sat w (arr 1 1 p n cap xs * H)) (v : Value) (hb : w.heap[b]? = some (.cells #[v] 1 (0, 0))) (h0 : v.oneCell' = true) (hn : n ≤ 1000000000)
    (hk : ∀ p' cap' w', Sat w' (arr 1 1 p' (n + 1) cap' (xs ++ [v]) * H) → Ran w w' → wpList Try.prog ops Q rest (a.put o.dst (.slice p' (n + 1) cap')) w') : wpList Try.prog ops Q (o :: rest) a w := by
  obtain ⟨i0, hi, hz0, hz1, hz2⟩ := info_parts infoFn
  refine wpList_append_arr hgd s x _ _ ho 1 i0 _ 1 8 Try.underlying77 hi hz0 hz1 hz2 rfl p n cap xs hp h _ hvx 1 [v] (Src.ofSlice w Try.underlying77 ⟨b, 0, none⟩ 1 1 [v] (by rw [hz1]; rfl) ?_ (by simp [h0])) (by omega) (by unfold maxLen; omega) (fun p' cap' w' h1 h2 _ => hk p' cap' w' h1 h2)
  intro j u hj
  rw [Addr.add_lit, Nat.zero_add, cell_at hb, ← hj]
  simp
theorem eql_func_nil (fn : Nat) (cs : Array Value) (w : World) : (binOp .eql 1 (.func (.func fn) #[] cs) Value.nilFunc).run Try.prog w = .ok (.bool false) w := by
  have h : ∀ d : Nat, (Op.equalIn (d + 1) 1 (.func (.func fn) #[] cs) Value.nilFunc).run Try.prog w = .ok false w := fun d => by
    simp [Op.equalIn, run_underlying Try.underlying1]
  simp only [binOp]
  simp [Op.equal, Op.maxDepth, h 9999]
theorem eql_nil_nil (w : World) : (binOp .eql 1 Value.nilFunc Value.nilFunc).run Try.prog w = .ok (.bool true) w := by
  have h : ∀ d : Nat, (Op.equalIn (d + 1) 1 Value.nilFunc Value.nilFunc).run Try.prog w = .ok true w := fun d => by
    simp [Op.equalIn, run_underlying Try.underlying1]
  simp only [binOp]
  simp [Op.equal, Op.maxDepth, h 9999]
set_option maxRecDepth 100000 in
set_option maxHeartbeats 1000000 in
theorem new_calls (most nest : Int) (h1 : 0 ≤ most) (h2 : most ≤ 1048576) (h3 : 1 ≤ nest) (h4 : nest ≤ 1024) (w : World) (R : Hp) (h : Sat w R) :
    Calls Try.prog 9 #[.int .i64 most, .int .i64 nest] w fun e w' => e = .returned (.tuple #[.pointer (some ⟨w.heap.size, 0, none⟩), .int .i64 0]) ∧ LogAt w' w.heap.size most nest [] [] R ∧ Ran w w' := by
  have H := h.alloc (logO most nest none 0 0 none 0 0)
  go_enter Try.func9, Try.ntmps9
  go_wp2_with fail
  go_ret2
  refine ⟨rfl, ⟨none, 0, none, 0, ?_⟩, Ran.new (Below.refl _ _) _⟩
  have := ((H.nil_arr 3 1).nil_arr 1 1).perm (show _ = pts w.heap.size (logO most nest none 0 0 none 0 0) * (notes none 0 0 [] * (arr 3 1 none 0 0 [] * R)) by ac_rfl)
  exact this
set_option maxRecDepth 100000 in
set_option maxHeartbeats 1000000 in
theorem note_calls (lb : Nat) (most nest : Int) (fs : List Value) (ms : List Nat) (fn : Nat) (cs : Array Value) (w : World) (R : Hp) (h : LogAt w lb most nest fs ms R) (hm : ms ≠ []) (hl : (fs.length : Int) < most) (hb : fs.length ≤ 1000000000) (hms : ms.length ≤ 1000000) :
    Calls Try.prog 11 #[.pointer (some ⟨lb, 0, none⟩), .func (.func fn) #[] cs] w fun e w' => e = .returned (.int .i64 0) ∧ LogAt w' lb most nest (fs ++ [.func (.func fn) #[] cs]) ms R ∧ Ran w w' := by
  obtain ⟨np, nc, mp, mc, HS⟩ := h
  obtain ⟨c0, c1, c2, c3, cz⟩ := log_cells HS.get
  have hml : ((ms.length : Int) == 0) = false := by
    rw [beq_eq_false_iff_ne]
    have := List.length_pos_iff.2 hm
    omega
  have hge : ¬ (most ≤ (fs.length : Int)) := by omega
  have HSB := (HS.perm (show _ = notes np fs.length nc fs * (pts lb (logO most nest np fs.length nc mp ms.length mc) * (marksA mp mc ms * R)) by ac_rfl)).old (.cells #[.func (.func fn) #[] cs] 1 (0, 0))
  have RB := Ran.new (Below.refl 0 w) (.cells #[.func (.func fn) #[] cs] 1 (0, 0))
  obtain ⟨nl, hnl⟩ : ∃ n, n = fs.length := ⟨_, rfl⟩
  obtain ⟨ml, hml2⟩ : ∃ n, n = ms.length := ⟨_, rfl⟩
  rw [← hnl] at c2 HSB hge hb hl
  rw [← hml2] at c3 HSB hml
  have Hnl := Lib.hid hnl
  have Hml := Lib.hid hml2
  clear HS hm hnl hml2 hms
  have efn := eql_func_nil fn cs
  go_enter Try.func11, Try.ntmps11
  go_wp2_with fail
  go_quiet (fail)
  go_wp2_with (at_builtin; go_loud (refine appFn rfl _ _ rfl np nl nc _ rfl _ rfl HSB _ (blk_new rfl) rfl hb ?_; intro p' cap' w6 HS7 HR7; clear HSB c0 c1 c2 c3 cz; have HS8 := HS7.perm (show _ = pts lb (logO most nest np nl nc mp ml mc) * (notes p' (nl + 1) cap' (fs ++ [.func (.func fn) #[] cs]) * (marksA mp mc ms * R)) by ac_rfl); obtain ⟨c0, c1, c2, c3, cz⟩ := log_cells HS8.get))
  go_ret
  refine ⟨rfl, ⟨p', cap', mp, mc, ?_⟩, Ran.set (Below.trans (Ran.new (Ran.drewN (Below.refl 0 w) nq) _) HR7) _ _⟩
  have h8 := HS8.set (i := 2) (.slice p' (nl + 1) cap')
  have e1 : (fs ++ [Value.func (.func fn) #[] cs]).length = nl + 1 := by rw [List.length_append, Hnl.out]; rfl
  rw [e1, ← Hml.out]
  exact h8
set_option maxRecDepth 100000 in
set_option maxHeartbeats 1000000 in
/-- Note without an open mark: nothing. -/
theorem note_idle (lb : Nat) (most nest : Int) (fs : List Value) (fn : Nat) (cs : Array Value) (w : World) (R : Hp) (h : LogAt w lb most nest fs [] R) :
    Calls Try.prog 11 #[.pointer (some ⟨lb, 0, none⟩), .func (.func fn) #[] cs] w fun e w' => e = .returned (.int .i64 0) ∧ w = w' := by
  obtain ⟨np, nc, mp, mc, HS⟩ := h
  obtain ⟨c0, c1, c2, c3, cz⟩ := log_cells HS.get
  clear HS
  have efn := eql_func_nil fn cs
  go_enter Try.func11, Try.ntmps11
  go_wp2_with fail
  go_ret
  exact ⟨rfl, rfl⟩
set_option maxRecDepth 100000 in
set_option maxHeartbeats 1000000 in
theorem note_nilfn (lb : Nat) (w : World) :
    Calls Try.prog 11 #[.pointer (some ⟨lb, 0, none⟩), Value.nilFunc] w fun e w' => e = .returned (.int .i64 1) ∧ w = w' := by
  have efn := eql_nil_nil
  go_enter Try.func11, Try.ntmps11
  go_wp2_with fail
  go_ret
  exact ⟨rfl, rfl⟩
set_option maxRecDepth 100000 in
set_option maxHeartbeats 1000000 in
theorem mark_calls (lb : Nat) (most nest : Int) (fs : List Value) (ms : List Nat) (w : World) (R : Hp) (h : LogAt w lb most nest fs ms R) (hl : (ms.length : Int) < nest) (hb : fs.length ≤ 1000000000) (hmb : ms.length ≤ 1000000) :
    Calls Try.prog 10 #[.pointer (some ⟨lb, 0, none⟩)] w fun e w' => e = .returned (.tuple #[.int .i64 ((ms.length : Int) + 1), .int .i64 0]) ∧ LogAt w' lb most nest fs (ms ++ [fs.length]) R ∧ Ran w w' := by
  obtain ⟨np, nc, mp, mc, HS⟩ := h
  obtain ⟨c0, c1, c2, c3, cz⟩ := log_cells HS.get
  have hne : ((ms.length : Int) == nest) = false := by rw [beq_eq_false_iff_ne]; omega
  obtain ⟨nl, hnl⟩ : ∃ n, n = fs.length := ⟨_, rfl⟩
  obtain ⟨ml, hml2⟩ : ∃ n, n = ms.length := ⟨_, rfl⟩
  rw [← hnl] at c2 HS hb ⊢
  rw [← hml2] at c3 HS hne hmb ⊢
  have hmb2 : ml ≤ 1000000000 := by omega
  have Hnl := Lib.hid hnl
  have Hml := Lib.hid hml2
  have HS0 := Lib.hid HS
  clear HS hnl hml2 hl
  go_enter Try.func10, Try.ntmps10
  go_wp2_with fail
  go_quiet (fail)
  obtain ⟨w1, hw1⟩ : ∃ w1, w1 = w.drewN nq := ⟨_, rfl⟩
  rw [← hw1]
  have HS := HS0.out.drewN nq
  have R1 : Ran w w1 := by rw [hw1]; exact Ran.drewN (Below.refl _ _) _
  rw [← hw1] at HS
  clear hw1 c0 c1 c2 c3 cz
  obtain ⟨c0, c1, c2, c3, cz⟩ := log_cells HS.get
  have HSB := (HS.perm (show _ = marksA mp mc ms * (pts lb (logO most nest np nl nc mp ml mc) * (notes np nl nc fs * R)) by unfold marksA; rw [← Hml.out]; ac_rfl)).old (.cells #[.int .i64 (nl : Int)] 3 (0, 0))
  unfold marksA at HSB
  rw [← Hml.out] at HSB
  have RB := Ran.new R1 (.cells #[.int .i64 (nl : Int)] 3 (0, 0))
  obtain ⟨y0, y1, y2, y3, yz⟩ := log_cells HSB.right.get
  clear HS R1
  go_wp2_with fail
  refine Go.Proofs.Ytibgpkcklneloaa.region_tree (S := (fun w' => w'.cell? ⟨lb, 2, none⟩ = some (.slice np nl nc))) (.take 0 (.take 1 (.take 2 (.take 3 (.take 5 (.take 6 (.take 7 (.take 8 (.take 9 (.fork 4 (.step 10 (.step 11 (.take 12 (.take 13 (.step 14 (.nil)))))) 10 (.step 4 (.step 11 (.take 12 (.take 13 (.step 14 (.nil)))))))))))))))) (by kernel_rfl) (by kernel_rfl) (by kernel_rfl) ?_ ?_
  · ((try dsimp only); (first | done | (first | exact c2 | exact y2 | exact c26 | exact (log_cells (HS8.set (i := 3) _).get).2.2.1)))
  simp only [Go.Proofs.Ytibgpkcklneloaa.Plan.ops, List.getElem?_toArray, List.getElem?_cons_zero, List.getElem?_cons_succ]
  ((first | ((refine Go.Proofs.Ytibgpkcklneloaa.tree_yes (v := ?_) (by rfl) ?_ ?_); rotate_left; (focus (intro w hSw; (try dsimp only at hSw); go_simp; try (with_reducible rfl)))) | (refine Go.Proofs.Ytibgpkcklneloaa.tree_no (by rfl) ?_)); (try simp only [Act.put, List.setIfInBounds_toArray, List.set_cons_zero, List.set_cons_succ]))
  ((first | ((refine Go.Proofs.Ytibgpkcklneloaa.tree_yes (v := ?_) (by rfl) ?_ ?_); rotate_left; (focus (intro w hSw; (try dsimp only at hSw); go_simp; try (with_reducible rfl)))) | (refine Go.Proofs.Ytibgpkcklneloaa.tree_no (by rfl) ?_)); (try simp only [Act.put, List.setIfInBounds_toArray, List.set_cons_zero, List.set_cons_succ]))
  ((first | ((refine Go.Proofs.Ytibgpkcklneloaa.tree_yes (v := ?_) (by rfl) ?_ ?_); rotate_left; (focus (intro w hSw; (try dsimp only at hSw); go_simp; try (with_reducible rfl)))) | (refine Go.Proofs.Ytibgpkcklneloaa.tree_no (by rfl) ?_)); (try simp only [Act.put, List.setIfInBounds_toArray, List.set_cons_zero, List.set_cons_succ]))
  ((first | ((refine Go.Proofs.Ytibgpkcklneloaa.tree_yes (v := ?_) (by rfl) ?_ ?_); rotate_left; (focus (intro w hSw; (try dsimp only at hSw); go_simp; try (with_reducible rfl)))) | (refine Go.Proofs.Ytibgpkcklneloaa.tree_no (by rfl) ?_)); (try simp only [Act.put, List.setIfInBounds_toArray, List.set_cons_zero, List.set_cons_succ]))
  ((first | ((refine Go.Proofs.Ytibgpkcklneloaa.tree_yes (v := ?_) (by rfl) ?_ ?_); rotate_left; (focus (intro w hSw; (try dsimp only at hSw); go_simp; try (with_reducible rfl)))) | (refine Go.Proofs.Ytibgpkcklneloaa.tree_no (by rfl) ?_)); (try simp only [Act.put, List.setIfInBounds_toArray, List.set_cons_zero, List.set_cons_succ]))
  ((first | ((refine Go.Proofs.Ytibgpkcklneloaa.tree_yes (v := ?_) (by rfl) ?_ ?_); rotate_left; (focus (intro w hSw; (try dsimp only at hSw); go_simp; try (with_reducible rfl)))) | (refine Go.Proofs.Ytibgpkcklneloaa.tree_no (by rfl) ?_)); (try simp only [Act.put, List.setIfInBounds_toArray, List.set_cons_zero, List.set_cons_succ]))
  ((first | ((refine Go.Proofs.Ytibgpkcklneloaa.tree_yes (v := ?_) (by rfl) ?_ ?_); rotate_left; (focus (intro w hSw; (try dsimp only at hSw); go_simp; try (with_reducible rfl)))) | (refine Go.Proofs.Ytibgpkcklneloaa.tree_no (by rfl) ?_)); (try simp only [Act.put, List.setIfInBounds_toArray, List.set_cons_zero, List.set_cons_succ]))
  ((first | ((refine Go.Proofs.Ytibgpkcklneloaa.tree_yes (v := ?_) (by rfl) ?_ ?_); rotate_left; (focus (intro w hSw; (try dsimp only at hSw); go_simp; try (with_reducible rfl)))) | (refine Go.Proofs.Ytibgpkcklneloaa.tree_no (by rfl) ?_)); (try simp only [Act.put, List.setIfInBounds_toArray, List.set_cons_zero, List.set_cons_succ]))
  ((first | ((refine Go.Proofs.Ytibgpkcklneloaa.tree_yes (v := ?_) (by rfl) ?_ ?_); rotate_left; (focus (intro w hSw; (try dsimp only at hSw); go_simp; try (with_reducible rfl)))) | (refine Go.Proofs.Ytibgpkcklneloaa.tree_no (by rfl) ?_)); (try simp only [Act.put, List.setIfInBounds_toArray, List.set_cons_zero, List.set_cons_succ]))
  refine Go.Proofs.Ytibgpkcklneloaa.tree_fork (fun K hK => ?_) (fun K hK => ?_)
  focus
    ((first | (refine stepInt rfl _ _ rfl mp ml mc _ rfl _ rfl HSB _ (blk_new rfl) rfl hmb2 ?_; intro p' cap' w6 T6 R6; have HS8 := T6.perm (show _ = pts lb (logO most nest np nl nc mp ml mc) * (arr 3 1 p' (ml + 1) cap' ((ms.map fun m : Nat => Value.int .i64 (m : Int)) ++ [.int .i64 (nl : Int)]) * (notes np nl nc fs * R)) by ac_rfl); obtain ⟨c06, c16, c26, c36, cz6⟩ := log_cells HS8.get) | (go_simp; (refine stepInt rfl _ _ rfl mp ml mc _ rfl _ rfl HSB _ (blk_new rfl) rfl hmb2 ?_; intro p' cap' w6 T6 R6; have HS8 := T6.perm (show _ = pts lb (logO most nest np nl nc mp ml mc) * (arr 3 1 p' (ml + 1) cap' ((ms.map fun m : Nat => Value.int .i64 (m : Int)) ++ [.int .i64 (nl : Int)]) * (notes np nl nc fs * R)) by ac_rfl); obtain ⟨c06, c16, c26, c36, cz6⟩ := log_cells HS8.get); (try go_wp2_with fail)) | go_simp); (refine hK.out _ _ ?_ (fun hHeld => ?_)); (focus ((try dsimp only); (first | done | (first | exact c2 | exact y2 | exact c26 | exact (log_cells (HS8.set (i := 3) _).get).2.2.1)))); clear hK K; (try simp only [Act.put, List.setIfInBounds_toArray, List.set_cons_zero, List.set_cons_succ]))
    ((refine Go.Proofs.Ytibgpkcklneloaa.tree_step (fun K hK => ?_)); (first | (refine stepInt rfl _ _ rfl mp ml mc _ rfl _ rfl HSB _ (blk_new rfl) rfl hmb2 ?_; intro p' cap' w6 T6 R6; have HS8 := T6.perm (show _ = pts lb (logO most nest np nl nc mp ml mc) * (arr 3 1 p' (ml + 1) cap' ((ms.map fun m : Nat => Value.int .i64 (m : Int)) ++ [.int .i64 (nl : Int)]) * (notes np nl nc fs * R)) by ac_rfl); obtain ⟨c06, c16, c26, c36, cz6⟩ := log_cells HS8.get) | (go_simp; (refine stepInt rfl _ _ rfl mp ml mc _ rfl _ rfl HSB _ (blk_new rfl) rfl hmb2 ?_; intro p' cap' w6 T6 R6; have HS8 := T6.perm (show _ = pts lb (logO most nest np nl nc mp ml mc) * (arr 3 1 p' (ml + 1) cap' ((ms.map fun m : Nat => Value.int .i64 (m : Int)) ++ [.int .i64 (nl : Int)]) * (notes np nl nc fs * R)) by ac_rfl); obtain ⟨c06, c16, c26, c36, cz6⟩ := log_cells HS8.get); (try go_wp2_with fail)) | go_simp); (refine hK.out _ _ ?_ (fun hHeld => ?_)); (focus ((try dsimp only); (first | done | (first | exact c2 | exact y2 | exact c26 | exact (log_cells (HS8.set (i := 3) _).get).2.2.1)))); clear hK K; (try simp only [Act.put, List.setIfInBounds_toArray, List.set_cons_zero, List.set_cons_succ]))
    ((refine Go.Proofs.Ytibgpkcklneloaa.tree_step (fun K hK => ?_)); (first | (refine stepInt rfl _ _ rfl mp ml mc _ rfl _ rfl HSB _ (blk_new rfl) rfl hmb2 ?_; intro p' cap' w6 T6 R6; have HS8 := T6.perm (show _ = pts lb (logO most nest np nl nc mp ml mc) * (arr 3 1 p' (ml + 1) cap' ((ms.map fun m : Nat => Value.int .i64 (m : Int)) ++ [.int .i64 (nl : Int)]) * (notes np nl nc fs * R)) by ac_rfl); obtain ⟨c06, c16, c26, c36, cz6⟩ := log_cells HS8.get) | (go_simp; (refine stepInt rfl _ _ rfl mp ml mc _ rfl _ rfl HSB _ (blk_new rfl) rfl hmb2 ?_; intro p' cap' w6 T6 R6; have HS8 := T6.perm (show _ = pts lb (logO most nest np nl nc mp ml mc) * (arr 3 1 p' (ml + 1) cap' ((ms.map fun m : Nat => Value.int .i64 (m : Int)) ++ [.int .i64 (nl : Int)]) * (notes np nl nc fs * R)) by ac_rfl); obtain ⟨c06, c16, c26, c36, cz6⟩ := log_cells HS8.get); (try go_wp2_with fail)) | go_simp); (refine hK.out _ _ ?_ (fun hHeld => ?_)); (focus ((try dsimp only); (first | done | (first | exact c2 | exact y2 | exact c26 | exact (log_cells (HS8.set (i := 3) _).get).2.2.1)))); clear hK K; (try simp only [Act.put, List.setIfInBounds_toArray, List.set_cons_zero, List.set_cons_succ]))
    ((first | ((refine Go.Proofs.Ytibgpkcklneloaa.tree_yes (v := ?_) (by rfl) ?_ ?_); rotate_left; (focus (intro w hSw; (try dsimp only at hSw); go_simp; try (with_reducible rfl)))) | (refine Go.Proofs.Ytibgpkcklneloaa.tree_no (by rfl) ?_)); (try simp only [Act.put, List.setIfInBounds_toArray, List.set_cons_zero, List.set_cons_succ]))
    ((first | ((refine Go.Proofs.Ytibgpkcklneloaa.tree_yes (v := ?_) (by rfl) ?_ ?_); rotate_left; (focus (intro w hSw; (try dsimp only at hSw); go_simp; try (with_reducible rfl)))) | (refine Go.Proofs.Ytibgpkcklneloaa.tree_no (by rfl) ?_)); (try simp only [Act.put, List.setIfInBounds_toArray, List.set_cons_zero, List.set_cons_succ]))
    ((refine Go.Proofs.Ytibgpkcklneloaa.tree_step (fun K hK => ?_)); (first | (refine stepInt rfl _ _ rfl mp ml mc _ rfl _ rfl HSB _ (blk_new rfl) rfl hmb2 ?_; intro p' cap' w6 T6 R6; have HS8 := T6.perm (show _ = pts lb (logO most nest np nl nc mp ml mc) * (arr 3 1 p' (ml + 1) cap' ((ms.map fun m : Nat => Value.int .i64 (m : Int)) ++ [.int .i64 (nl : Int)]) * (notes np nl nc fs * R)) by ac_rfl); obtain ⟨c06, c16, c26, c36, cz6⟩ := log_cells HS8.get) | (go_simp; (refine stepInt rfl _ _ rfl mp ml mc _ rfl _ rfl HSB _ (blk_new rfl) rfl hmb2 ?_; intro p' cap' w6 T6 R6; have HS8 := T6.perm (show _ = pts lb (logO most nest np nl nc mp ml mc) * (arr 3 1 p' (ml + 1) cap' ((ms.map fun m : Nat => Value.int .i64 (m : Int)) ++ [.int .i64 (nl : Int)]) * (notes np nl nc fs * R)) by ac_rfl); obtain ⟨c06, c16, c26, c36, cz6⟩ := log_cells HS8.get); (try go_wp2_with fail)) | go_simp); (refine hK.out _ _ ?_ (fun hHeld => ?_)); (focus ((try dsimp only); (first | done | (first | exact c2 | exact y2 | exact c26 | exact (log_cells (HS8.set (i := 3) _).get).2.2.1)))); clear hK K; (try simp only [Act.put, List.setIfInBounds_toArray, List.set_cons_zero, List.set_cons_succ]))
    refine Go.Proofs.Ytibgpkcklneloaa.tree_done ?_
  rotate_left 1
  focus
    ((first | (refine stepInt rfl _ _ rfl mp ml mc _ rfl _ rfl HSB _ (blk_new rfl) rfl hmb2 ?_; intro p' cap' w6 T6 R6; have HS8 := T6.perm (show _ = pts lb (logO most nest np nl nc mp ml mc) * (arr 3 1 p' (ml + 1) cap' ((ms.map fun m : Nat => Value.int .i64 (m : Int)) ++ [.int .i64 (nl : Int)]) * (notes np nl nc fs * R)) by ac_rfl); obtain ⟨c06, c16, c26, c36, cz6⟩ := log_cells HS8.get) | (go_simp; (refine stepInt rfl _ _ rfl mp ml mc _ rfl _ rfl HSB _ (blk_new rfl) rfl hmb2 ?_; intro p' cap' w6 T6 R6; have HS8 := T6.perm (show _ = pts lb (logO most nest np nl nc mp ml mc) * (arr 3 1 p' (ml + 1) cap' ((ms.map fun m : Nat => Value.int .i64 (m : Int)) ++ [.int .i64 (nl : Int)]) * (notes np nl nc fs * R)) by ac_rfl); obtain ⟨c06, c16, c26, c36, cz6⟩ := log_cells HS8.get); (try go_wp2_with fail)) | go_simp); (refine hK.out _ _ ?_ (fun hHeld => ?_)); (focus ((try dsimp only); (first | done | (first | exact c2 | exact y2 | exact c26 | exact (log_cells (HS8.set (i := 3) _).get).2.2.1)))); clear hK K; (try simp only [Act.put, List.setIfInBounds_toArray, List.set_cons_zero, List.set_cons_succ]))
    ((refine Go.Proofs.Ytibgpkcklneloaa.tree_step (fun K hK => ?_)); (first | (refine stepInt rfl _ _ rfl mp ml mc _ rfl _ rfl HSB _ (blk_new rfl) rfl hmb2 ?_; intro p' cap' w6 T6 R6; have HS8 := T6.perm (show _ = pts lb (logO most nest np nl nc mp ml mc) * (arr 3 1 p' (ml + 1) cap' ((ms.map fun m : Nat => Value.int .i64 (m : Int)) ++ [.int .i64 (nl : Int)]) * (notes np nl nc fs * R)) by ac_rfl); obtain ⟨c06, c16, c26, c36, cz6⟩ := log_cells HS8.get) | (go_simp; (refine stepInt rfl _ _ rfl mp ml mc _ rfl _ rfl HSB _ (blk_new rfl) rfl hmb2 ?_; intro p' cap' w6 T6 R6; have HS8 := T6.perm (show _ = pts lb (logO most nest np nl nc mp ml mc) * (arr 3 1 p' (ml + 1) cap' ((ms.map fun m : Nat => Value.int .i64 (m : Int)) ++ [.int .i64 (nl : Int)]) * (notes np nl nc fs * R)) by ac_rfl); obtain ⟨c06, c16, c26, c36, cz6⟩ := log_cells HS8.get); (try go_wp2_with fail)) | go_simp); (refine hK.out _ _ ?_ (fun hHeld => ?_)); (focus ((try dsimp only); (first | done | (first | exact c2 | exact y2 | exact c26 | exact (log_cells (HS8.set (i := 3) _).get).2.2.1)))); clear hK K; (try simp only [Act.put, List.setIfInBounds_toArray, List.set_cons_zero, List.set_cons_succ]))
    ((refine Go.Proofs.Ytibgpkcklneloaa.tree_step (fun K hK => ?_)); (first | (refine stepInt rfl _ _ rfl mp ml mc _ rfl _ rfl HSB _ (blk_new rfl) rfl hmb2 ?_; intro p' cap' w6 T6 R6; have HS8 := T6.perm (show _ = pts lb (logO most nest np nl nc mp ml mc) * (arr 3 1 p' (ml + 1) cap' ((ms.map fun m : Nat => Value.int .i64 (m : Int)) ++ [.int .i64 (nl : Int)]) * (notes np nl nc fs * R)) by ac_rfl); obtain ⟨c06, c16, c26, c36, cz6⟩ := log_cells HS8.get) | (go_simp; (refine stepInt rfl _ _ rfl mp ml mc _ rfl _ rfl HSB _ (blk_new rfl) rfl hmb2 ?_; intro p' cap' w6 T6 R6; have HS8 := T6.perm (show _ = pts lb (logO most nest np nl nc mp ml mc) * (arr 3 1 p' (ml + 1) cap' ((ms.map fun m : Nat => Value.int .i64 (m : Int)) ++ [.int .i64 (nl : Int)]) * (notes np nl nc fs * R)) by ac_rfl); obtain ⟨c06, c16, c26, c36, cz6⟩ := log_cells HS8.get); (try go_wp2_with fail)) | go_simp); (refine hK.out _ _ ?_ (fun hHeld => ?_)); (focus ((try dsimp only); (first | done | (first | exact c2 | exact y2 | exact c26 | exact (log_cells (HS8.set (i := 3) _).get).2.2.1)))); clear hK K; (try simp only [Act.put, List.setIfInBounds_toArray, List.set_cons_zero, List.set_cons_succ]))
    ((first | ((refine Go.Proofs.Ytibgpkcklneloaa.tree_yes (v := ?_) (by rfl) ?_ ?_); rotate_left; (focus (intro w hSw; (try dsimp only at hSw); go_simp; try (with_reducible rfl)))) | (refine Go.Proofs.Ytibgpkcklneloaa.tree_no (by rfl) ?_)); (try simp only [Act.put, List.setIfInBounds_toArray, List.set_cons_zero, List.set_cons_succ]))
    ((first | ((refine Go.Proofs.Ytibgpkcklneloaa.tree_yes (v := ?_) (by rfl) ?_ ?_); rotate_left; (focus (intro w hSw; (try dsimp only at hSw); go_simp; try (with_reducible rfl)))) | (refine Go.Proofs.Ytibgpkcklneloaa.tree_no (by rfl) ?_)); (try simp only [Act.put, List.setIfInBounds_toArray, List.set_cons_zero, List.set_cons_succ]))
    ((refine Go.Proofs.Ytibgpkcklneloaa.tree_step (fun K hK => ?_)); (first | (refine stepInt rfl _ _ rfl mp ml mc _ rfl _ rfl HSB _ (blk_new rfl) rfl hmb2 ?_; intro p' cap' w6 T6 R6; have HS8 := T6.perm (show _ = pts lb (logO most nest np nl nc mp ml mc) * (arr 3 1 p' (ml + 1) cap' ((ms.map fun m : Nat => Value.int .i64 (m : Int)) ++ [.int .i64 (nl : Int)]) * (notes np nl nc fs * R)) by ac_rfl); obtain ⟨c06, c16, c26, c36, cz6⟩ := log_cells HS8.get) | (go_simp; (refine stepInt rfl _ _ rfl mp ml mc _ rfl _ rfl HSB _ (blk_new rfl) rfl hmb2 ?_; intro p' cap' w6 T6 R6; have HS8 := T6.perm (show _ = pts lb (logO most nest np nl nc mp ml mc) * (arr 3 1 p' (ml + 1) cap' ((ms.map fun m : Nat => Value.int .i64 (m : Int)) ++ [.int .i64 (nl : Int)]) * (notes np nl nc fs * R)) by ac_rfl); obtain ⟨c06, c16, c26, c36, cz6⟩ := log_cells HS8.get); (try go_wp2_with fail)) | go_simp); (refine hK.out _ _ ?_ (fun hHeld => ?_)); (focus ((try dsimp only); (first | done | (first | exact c2 | exact y2 | exact c26 | exact (log_cells (HS8.set (i := 3) _).get).2.2.1)))); clear hK K; (try simp only [Act.put, List.setIfInBounds_toArray, List.set_cons_zero, List.set_cons_succ]))
    refine Go.Proofs.Ytibgpkcklneloaa.tree_done ?_
  all_goals
    have HS9 : Sat (w6.setCell ⟨lb, 3, none⟩ (.slice p' (ml + 1) cap')) (pts lb (logO most nest np nl nc p' (ml + 1) cap') * (arr 3 1 p' (ml + 1) cap' ((ms.map fun m : Nat => Value.int .i64 (m : Int)) ++ [.int .i64 (nl : Int)]) * (notes np nl nc fs * R))) := HS8.set (i := 3) (.slice p' (ml + 1) cap')
    have R9 : Ran w (w6.setCell ⟨lb, 3, none⟩ (.slice p' (ml + 1) cap')) := Ran.set (Below.trans (Below.drew RB) R6) _ _
    obtain ⟨w9, hw9⟩ : ∃ w9, w9 = w6.setCell ⟨lb, 3, none⟩ (.slice p' (ml + 1) cap') := ⟨_, rfl⟩
    rw [← hw9] at HS9 R9 ⊢
    clear hw9 T6 R6 HS8 c06 c16 c26 c36 cz6 c0 c1 c2 c3 cz y0 y1 y2 y3 yz HSB RB
    obtain ⟨d0, d1, d2, d3, dz⟩ := log_cells HS9.get
    go_wp2_with fail
    go_ret2
    refine ⟨rfl, ⟨np, nc, p', cap', ?_⟩, R9⟩
    have e1 : (ms ++ [nl]).length = ml + 1 := by rw [List.length_append, Hml.out]; rfl
    have e2 : ((ms ++ [nl]).map fun m : Nat => Value.int .i64 (m : Int)) = (ms.map fun m : Nat => Value.int .i64 (m : Int)) ++ [.int .i64 (nl : Int)] := by simp
    unfold marksA
    rw [e1, e2, ← Hnl.out]
    exact HS9.perm (by ac_rfl)
end Go.Proofs.Ytibgpkcklneloaa.Undo
