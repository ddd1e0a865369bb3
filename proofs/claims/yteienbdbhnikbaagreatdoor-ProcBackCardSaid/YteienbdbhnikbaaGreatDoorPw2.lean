/- HandlesPlays, part 2 of 31: the texts UnZ, joined by a program. -/
import Derived.Test.YteienbdbhnikbaaGreatDoorPw1
import Derived.Test.YteienbdbhnikbaaGreatDoorRows
import Derived.Lib.Hide
import Derived.BigQuiet
import Derived.Deep.QuietTactic
import Derived.Deep.DeepCutAuto
import Derived.Deep.LoopGhost
import Derived.Deep.RegionHeld3
import Derived.Deep.DeepFit
import Derived.Deep.CutBlock
import Derived.Outline
import Derived.ProofKit
import Derived.OpenShut
import Derived.ShutString
import Derived.ChangeOld
import Derived.Deep.Slices
import Derived.Lib.SmallJoins
import Derived.OwnWalk
import Derived.Laws.NewBlocks
import Derived.Deep.RegionLaw
import Derived.OwnWalkIn
import Derived.TacticsInMore
import Derived.LoopNIn
import Derived.LoopIn
import Derived.Shelf.Abstract
import Derived.Lib.SliceRun
namespace Go.Proofs.YteienbdbhnikbaaGreatDoor.Undo
open Go.ChangeShapes Go.WideShapes Go.ChangeAt Go.RowKit Go.Proofs.YteienbdbhnikbaaGreatDoor Go.Proofs.YteienbdbhnikbaaGreatDoor.Hp
set_option linter.unusedVariables false

def I64 (x : Int) : Prop := -9223372036854775808 ≤ x ∧ x ≤ 9223372036854775807
/-- What was there is as it was. -/
def Kept (W w : World) : Prop := W.heap.size ≤ w.heap.size ∧ ∀ k, k < W.heap.size → w.heap[k]? = W.heap[k]?
theorem Kept.refl (w : World) : Kept w w := ⟨Nat.le_refl _, fun _ _ => rfl⟩
theorem Kept.trans {a b c : World} (h : Kept a b) (k : Kept b c) : Kept a c := ⟨Nat.le_trans h.1 k.1, fun i hi => (k.2 i (Nat.lt_of_lt_of_le hi h.1)).trans (h.2 i hi)⟩
theorem Kept.below {w w' : World} (h : Below w.heap.size w w') : Kept w w' := ⟨h.size, h.block⟩
theorem own : ownKnob Tryz.prog.godebug = none := by kernel_rfl
theorem laidOut : laidOutB Tryz.prog = true := by kernel_rfl
theorem i64_of {x : Int} (h : (Lit.int .i64 x).wf = true) : I64 x := by
  simp [Lit.wf, IntKind.min, IntKind.max, IntKind.signed, IntKind.bits] at h
  exact ⟨by omega, by omega⟩
theorem blk_new {w : World} {o : Obj} {b : Nat} (h : w.heap.size = b) : (w.alloc o).heap[b]? = some o := by subst h; exact heap_alloc_new w o
end Go.Proofs.YteienbdbhnikbaaGreatDoor.Undo
namespace Go.Proofs.YteienbdbhnikbaaGreatDoor.Undo
open Go.RowKit Go.Proofs.YteienbdbhnikbaaGreatDoor Go.Proofs.YteienbdbhnikbaaGreatDoor.Hp
set_option linter.unusedVariables false
attribute [local go_sem] Oper.semAt_some

abbrev notes (p : Option Addr) (n cap : Nat) (fs : List Value) : Hp := arr 1 1 p n cap fs
/-- The pairs that are handed on: from the last place on. -/
def backs (fs : List Value) : Nat → List (Nat × Value)
  | 0 => []
  | n + 1 => (n, fs.getD n undef) :: backs fs n
theorem backs_length (fs : List Value) (n : Nat) : (backs fs n).length = n := by
  induction n with
  | zero => rfl
  | succ n ih => show (backs fs n).length + 1 = _; rw [ih]
def BkRel (fs : List Value) (n : Nat) (J : List (Nat × Value) → Hp) (R : Hp) (w0 : World) (g : Nat) (iv : Value) (wr : World) : Prop :=
  ∃ pre : List (Nat × Value), iv = .int .i64 ((g : Int) - 1) ∧ g ≤ n ∧ backs fs n = pre ++ backs fs g ∧ Sat wr (J pre * R) ∧ Ran w0 wr
set_option maxRecDepth 100000 in
set_option maxHeartbeats 2000000 in
/-- slices.Backward's iterator over the first n notes of a row. -/
theorem back_iter (p : Option Addr) (cap n sb m : Nat) (fs : List Value) (hn : n ≤ 1000000000) (X R : Hp)
    (hX : ∀ (W : World) (S : Hp), Sat W (X * S) → ∀ k, k < n → ∃ nb no, p = some ⟨nb, no, none⟩ ∧ W.cell? ⟨nb, no + k, none⟩ = some (fs.getD k undef)) :
    IterSat Tryz.prog m 87 #[.pointer (some ⟨sb, 0, none⟩)] (fun x : Nat × Value => #[.int .i64 x.1, x.2]) (backs fs n)
      (pts sb (.cells #[.slice p n cap] 93 (0, 0)) * (X * R)) := by
  intro l J W hW hY
  refine callsIn_wide.2 ?_
  have hn' : (n : Int) ≤ 1000000000 := by omega
  have HY := Lib.hid hY
  have hsb := (hW.perm (show _ = pts sb (.cells #[.slice p n cap] 93 (0, 0)) * (J [] * (X * R)) by ac_rfl)).get
  have c0 : W.cell? ⟨sb, 0, none⟩ = some (.slice p n cap) := by rw [cell_at hsb]; rfl
  have hW0 := Lib.hid hW
  have HX := Lib.hid hX
  clear hY hsb hW hX
  go_enter Tryz.func87, Tryz.ntmps87
  go_wp2_with fail
  go_loopg [3] n (BkRel fs n J (pts sb (.cells #[.slice p n cap] 93 (0, 0)) * (X * R)) W)
  case atStart => exact ⟨[], rfl, Nat.le_refl _, rfl, hW0.out, Below.refl _ _⟩
  case round =>
    clear c0 hW0
    obtain ⟨pre, rfl, hg, hsp, HS, HR⟩ := hrel
    have HS' := HS.perm (show _ = pts sb (.cells #[.slice p n cap] 93 (0, 0)) * (J pre * (X * R)) by ac_rfl)
    have c0 : wr.cell? ⟨sb, 0, none⟩ = some (.slice p n cap) := by rw [cell_at HS'.get]; rfl
    by_cases hg0 : gk = 0
    · subst hg0
      have hneg : ¬ ((0 : Int) ≤ ((0 : Nat) : Int) - 1) := by omega
      have hfin : pre = backs fs n := by rw [hsp]; show pre = pre ++ []; rw [List.append_nil]
      rw [hfin] at HS
      have HS0 := Lib.hid HS
      clear HS HS' hfin hsp
      go_wp2_with fail
      go_end0
      exact ⟨⟨_, rfl⟩, HS0.out, HR⟩
    · obtain ⟨k, rfl⟩ : ∃ k, gk = k + 1 := ⟨gk - 1, by omega⟩
      have h1 : (((k + 1 : Nat) : Int) - 1) = (k : Int) := by omega
      rw [h1]
      have hk0 : (0 : Int) ≤ k := by omega
      have hkn : (k : Int) < n := by omega
      obtain ⟨nb, no, rfl, cf⟩ := HX.out wr _ (HS.perm (show _ = X * (J pre * (pts sb (.cells #[.slice p n cap] 93 (0, 0)) * R)) by ac_rfl)) k hg
      obtain ⟨f, hf⟩ : ∃ f, f = fs.getD k undef := ⟨_, rfl⟩
      rw [← hf] at cf
      have hsp2 : backs fs n = pre ++ (k, f) :: backs fs k := by rw [hsp, hf]; rfl
      obtain ⟨fn, tmps, assign, body, hy, hRd⟩ := HY.out pre (k, f) _ _ wr hsp2 HS
      have HRd := Lib.hid hRd
      have Hsp2 := Lib.hid hsp2
      have hkn2 : k + 1 ≤ n := hg
      clear hsp hsp2 hRd HS HS' hf h1 hg hg0
      go_upto_region 3 with fail
      refine (wpIn_wide (n := m)).1 ?_
      gi_wp2
      refine ⟨fun h => (by cases h), HRd.out.mono ?_⟩
      rintro e w2 ⟨rfl, hs2, hr2⟩
      have HR2 : Ran W w2 := Below.trans HR hr2
      have Hs2 := Lib.hid hs2
      clear hs2 hr2 HR hy HRd cf c0
      gi_wp2
      go_wp2_with fail
      go_roundg k
      case measure => omega
      case rel => exact ⟨pre ++ [(k, f)], rfl, by omega, by rw [Hsp2.out]; simp, Hs2.out, HR2⟩
end Go.Proofs.YteienbdbhnikbaaGreatDoor.Undo
namespace Go.Proofs.YteienbdbhnikbaaGreatDoor.Undo
open Go.RowKit Go.Proofs.YteienbdbhnikbaaGreatDoor Go.Proofs.YteienbdbhnikbaaGreatDoor.Hp
set_option linter.unusedVariables false

abbrev logO (most nest : Int) (np : Option Addr) (nn nc : Nat) (mp : Option Addr) (mn mc : Nat) : Obj := .cells #[.int .i64 most, .int .i64 nest, .slice np nn nc, .slice mp mn mc] 95 (0, 0)
abbrev marksA (mp : Option Addr) (mc : Nat) (ms : List Nat) : Hp := arr 3 1 mp ms.length mc (ms.map fun m : Nat => Value.int .i64 (m : Int))
/-- A log with its notes and marks; R: what else there is. -/
def LogAt (w : World) (lb : Nat) (most nest : Int) (fs : List Value) (ms : List Nat) (R : Hp) : Prop :=
  ∃ np nc mp mc, Sat w (pts lb (logO most nest np fs.length nc mp ms.length mc) * (notes np fs.length nc fs * (marksA mp mc ms * R)))
theorem log_cells {w : World} {lb : Nat} {most nest : Int} {np mp : Option Addr} {nn nc mn mc : Nat} (h : w.heap[lb]? = some (logO most nest np nn nc mp mn mc)) :
    w.cell? ⟨lb, 0, none⟩ = some (.int .i64 most) ∧ w.cell? ⟨lb, 1, none⟩ = some (.int .i64 nest) ∧ w.cell? ⟨lb, 2, none⟩ = some (.slice np nn nc) ∧ w.cell? ⟨lb, 3, none⟩ = some (.slice mp mn mc) ∧ ∀ i, w.frozen? ⟨lb, i, none⟩ = false :=
  ⟨by rw [cell_at h]; rfl, by rw [cell_at h]; rfl, by rw [cell_at h]; rfl, by rw [cell_at h]; rfl, fun i => free_at h i⟩
theorem infoInt : (Tryz.prog.info? 3).map (fun i => (i.zero, i.size, i.bytes)) = some (some (.int .i64 0), 1, 8) := by kernel_rfl
theorem infoFn : (Tryz.prog.info? 1).map (fun i => (i.zero, i.size, i.bytes)) = some (some Value.nilFunc, 1, 8) := by kernel_rfl
theorem stepInt {w : World} {H : Hp} {ops : Array Oper} {o : Oper} {a : Act} {K : Act → World → Prop} {Q : Exit → Act → World → Prop} {E : Prop} (hgd : o.guard = none) (s x : Operand)
    (ho : o.op = .call { callee := .builtin .append, args := #[s, x], argTypes := #[44, 44] })
    (p : Option Addr) (n cap : Nat) (xs : List Value) (hp : a.eval s = .slice p n cap) (b : Nat) (hvx : a.eval x = .slice (some ⟨b, 0, none⟩) 1 1) (h : Sat w (arr 3 1 p n cap xs * H)) (v : Value) (hb : w.heap[b]? = some (.cells #[v] 3 (0, 0))) (h0 : v.oneCell' = true) (hn : n ≤ 1000000000)
    (hk : ∀ p' cap' w', Sat w' (arr 3 1 p' (n + 1) cap' (xs ++ [v]) * H) → Ran w w' → K (a.put o.dst (.slice p' (n + 1) cap')) w') :
    if Region.wanted o (yielded ops a.tmps) = true then Oper.wp Tryz.prog o a w K Q else E := by
  obtain ⟨i0, hi, hz0, hz1, hz2⟩ := info_parts infoInt
  rw [if_pos (by simp [Region.wanted, hgd])]
  refine wp_append_arr s x _ _ ho 3 i0 _ 1 8 Tryz.underlying44 hi hz0 hz1 hz2 rfl p n cap xs hp h _ hvx 1 [v] (Src.ofSlice w Tryz.underlying44 ⟨b, 0, none⟩ 1 1 [v] (by rw [hz1]; rfl) ?_ (by simp [h0])) (by omega) (by unfold maxLen; omega) (fun p' cap' w' h1 h2 _ => hk p' cap' w' h1 h2)
  intro j u hj
  rw [Addr.add_lit, Nat.zero_add, cell_at hb, ← hj]
  simp
theorem appFn {w : World} {H : Hp} {ops : Array Oper} {rest : List Oper} {o : Oper} {a : Act} {Q : Exit → Act → World → Prop} (hgd : o.guard = none) (s x : Operand)
    (ho : o.op = .call { callee := .builtin .append, args := #[s, x], argTypes := #[93, 93] })
    (p : Option Addr) (n cap : Nat) (xs : List Value) (hp : a.eval s = .slice p n cap) (b : Nat) (hvx : a.eval x = .slice (some ⟨b, 0, none⟩) 1 1) (h : Sat w (arr 1 1 p n cap xs * H)) (v : Value) (hb : w.heap[b]? = some (.cells #[v] 1 (0, 0))) (h0 : v.oneCell' = true) (hn : n ≤ 1000000000)
    (hk : ∀ p' cap' w', Sat w' (arr 1 1 p' (n + 1) cap' (xs ++ [v]) * H) → Ran w w' → wpList Tryz.prog ops Q rest (a.put o.dst (.slice p' (n + 1) cap')) w') : wpList Tryz.prog ops Q (o :: rest) a w := by
  obtain ⟨i0, hi, hz0, hz1, hz2⟩ := info_parts infoFn
  refine wpList_append_arr hgd s x _ _ ho 1 i0 _ 1 8 Tryz.underlying93 hi hz0 hz1 hz2 rfl p n cap xs hp h _ hvx 1 [v] (Src.ofSlice w Tryz.underlying93 ⟨b, 0, none⟩ 1 1 [v] (by rw [hz1]; rfl) ?_ (by simp [h0])) (by omega) (by unfold maxLen; omega) (fun p' cap' w' h1 h2 _ => hk p' cap' w' h1 h2)
  intro j u hj
  rw [Addr.add_lit, Nat.zero_add, cell_at hb, ← hj]
  simp
theorem eql_func_nil (fn : Nat) (cs : Array Value) (w : World) : (binOp .eql 1 (.func (.func fn) #[] cs) Value.nilFunc).run Tryz.prog w = .ok (.bool false) w := by
  have h : ∀ d : Nat, (Op.equalIn (d + 1) 1 (.func (.func fn) #[] cs) Value.nilFunc).run Tryz.prog w = .ok false w := fun d => by
    simp [Op.equalIn, run_underlying Tryz.underlying1]
  simp only [binOp]
  simp [Op.equal, Op.maxDepth, h 9999]
set_option maxRecDepth 100000 in
set_option maxHeartbeats 1000000 in
theorem new_calls (most nest : Int) (h1 : 0 ≤ most) (h2 : most ≤ 1048576) (h3 : 1 ≤ nest) (h4 : nest ≤ 1024) (w : World) (R : Hp) (h : Sat w R) :
    Calls Tryz.prog 32 #[.int .i64 most, .int .i64 nest] w fun e w' => e = .returned (.tuple #[.pointer (some ⟨w.heap.size, 0, none⟩), .int .i64 0]) ∧ LogAt w' w.heap.size most nest [] [] R ∧ Ran w w' := by
  have H := h.alloc (logO most nest none 0 0 none 0 0)
  go_enter Tryz.func32, Tryz.ntmps32
  go_wp2_with fail
  go_ret2
  refine ⟨rfl, ⟨none, 0, none, 0, ?_⟩, Ran.new (Below.refl _ _) _⟩
  have := ((H.nil_arr 3 1).nil_arr 1 1).perm (show _ = pts w.heap.size (logO most nest none 0 0 none 0 0) * (notes none 0 0 [] * (arr 3 1 none 0 0 [] * R)) by ac_rfl)
  exact this
set_option maxRecDepth 100000 in
set_option maxHeartbeats 1000000 in
theorem note_calls (lb : Nat) (most nest : Int) (fs : List Value) (ms : List Nat) (fn : Nat) (cs : Array Value) (w : World) (R : Hp) (h : LogAt w lb most nest fs ms R) (hm : ms ≠ []) (hl : (fs.length : Int) < most) (hb : fs.length ≤ 1000000000) (hms : ms.length ≤ 1000000) :
    Calls Tryz.prog 75 #[.pointer (some ⟨lb, 0, none⟩), .func (.func fn) #[] cs] w fun e w' => e = .returned (.int .i64 0) ∧ LogAt w' lb most nest (fs ++ [.func (.func fn) #[] cs]) ms R ∧ Ran w w' := by
  obtain ⟨np, nc, mp, mc, HS⟩ := h
  obtain ⟨c0, c1, c2, c3, cz⟩ := log_cells HS.get
  have hml : ((ms.length : Int) == 0) = false := by
    rw [beq_eq_false_iff_ne]
    have := List.length_pos_iff.2 hm
    omega
  have hge : ¬ (most ≤ (fs.length : Int)) := by omega
  have HSB := (HS.perm (show _ = notes np fs.length nc fs * (pts lb (logO most nest np fs.length nc mp ms.length mc) * (marksA mp mc ms * R)) by ac_rfl)).old (.cells #[.func (.func fn) #[] cs] 1 (0, 0))
  have RB := Ran.new (Below.refl 0 w) (.cells #[.func (.func fn) #[] cs] 1 (0, 0))
  obtain ⟨nl, hnl⟩ : ∃ n, n = fs.length := ⟨_, rfl⟩
  obtain ⟨ml, hml2⟩ : ∃ n, n = ms.length := ⟨_, rfl⟩
  rw [← hnl] at c2 HSB hge hb hl
  rw [← hml2] at c3 HSB hml
  have Hnl := Lib.hid hnl
  have Hml := Lib.hid hml2
  clear HS hm hnl hml2 hms
  have efn := eql_func_nil fn cs
  go_enter Tryz.func75, Tryz.ntmps75
  go_wp2_with fail
  go_quiet (fail)
  go_wp2_with (at_builtin; go_loud (refine appFn rfl _ _ rfl np nl nc _ rfl _ rfl HSB _ (blk_new rfl) rfl hb ?_; intro p' cap' w6 HS7 HR7; clear HSB c0 c1 c2 c3 cz; have HS8 := HS7.perm (show _ = pts lb (logO most nest np nl nc mp ml mc) * (notes p' (nl + 1) cap' (fs ++ [.func (.func fn) #[] cs]) * (marksA mp mc ms * R)) by ac_rfl); obtain ⟨c0, c1, c2, c3, cz⟩ := log_cells HS8.get))
  go_ret
  refine ⟨rfl, ⟨p', cap', mp, mc, ?_⟩, Ran.set (Below.trans (Ran.new (Ran.drewN (Below.refl 0 w) nq) _) HR7) _ _⟩
  have h8 := HS8.set (i := 2) (.slice p' (nl + 1) cap')
  have e1 : (fs ++ [Value.func (.func fn) #[] cs]).length = nl + 1 := by rw [List.length_append, Hnl.out]; rfl
  rw [e1, ← Hml.out]
  exact h8
set_option maxRecDepth 100000 in
set_option maxHeartbeats 1000000 in
theorem mark_calls (lb : Nat) (most nest : Int) (fs : List Value) (ms : List Nat) (w : World) (R : Hp) (h : LogAt w lb most nest fs ms R) (hl : (ms.length : Int) < nest) (hb : fs.length ≤ 1000000000) (hmb : ms.length ≤ 1000000) :
    Calls Tryz.prog 60 #[.pointer (some ⟨lb, 0, none⟩)] w fun e w' => e = .returned (.tuple #[.int .i64 ((ms.length : Int) + 1), .int .i64 0]) ∧ LogAt w' lb most nest fs (ms ++ [fs.length]) R ∧ Ran w w' := by
  obtain ⟨np, nc, mp, mc, HS⟩ := h
  obtain ⟨c0, c1, c2, c3, cz⟩ := log_cells HS.get
  have hne : ((ms.length : Int) == nest) = false := by rw [beq_eq_false_iff_ne]; omega
  obtain ⟨nl, hnl⟩ : ∃ n, n = fs.length := ⟨_, rfl⟩
  obtain ⟨ml, hml2⟩ : ∃ n, n = ms.length := ⟨_, rfl⟩
  rw [← hnl] at c2 HS hb ⊢
  rw [← hml2] at c3 HS hne hmb ⊢
  have hmb2 : ml ≤ 1000000000 := by omega
  have Hnl := Lib.hid hnl
  have Hml := Lib.hid hml2
  have HS0 := Lib.hid HS
  clear HS hnl hml2 hl
  go_enter Tryz.func60, Tryz.ntmps60
  go_wp2_with fail
  go_quiet (fail)
  obtain ⟨w1, hw1⟩ : ∃ w1, w1 = w.drewN nq := ⟨_, rfl⟩
  rw [← hw1]
  have HS := HS0.out.drewN nq
  have R1 : Ran w w1 := by rw [hw1]; exact Ran.drewN (Below.refl _ _) _
  rw [← hw1] at HS
  clear hw1 c0 c1 c2 c3 cz
  obtain ⟨c0, c1, c2, c3, cz⟩ := log_cells HS.get
  have HSB := (HS.perm (show _ = marksA mp mc ms * (pts lb (logO most nest np nl nc mp ml mc) * (notes np nl nc fs * R)) by unfold marksA; rw [← Hml.out]; ac_rfl)).old (.cells #[.int .i64 (nl : Int)] 3 (0, 0))
  unfold marksA at HSB
  rw [← Hml.out] at HSB
  have RB := Ran.new R1 (.cells #[.int .i64 (nl : Int)] 3 (0, 0))
  obtain ⟨y0, y1, y2, y3, yz⟩ := log_cells HSB.right.get
  clear HS R1
  go_wp2_with fail
  refine region_tree (S := (fun w' => w'.cell? ⟨lb, 2, none⟩ = some (.slice np nl nc))) (.take 0 (.take 1 (.take 2 (.take 3 (.take 5 (.take 6 (.take 7 (.take 8 (.take 9 (.fork 4 (.step 10 (.step 11 (.take 12 (.take 13 (.step 14 (.nil)))))) 10 (.step 4 (.step 11 (.take 12 (.take 13 (.step 14 (.nil)))))))))))))))) (by kernel_rfl) (by kernel_rfl) (by kernel_rfl) ?_ ?_
  · ((try dsimp only); (first | done | (first | exact c2 | exact y2 | exact c26 | exact (log_cells (HS8.set (i := 3) _).get).2.2.1)))
  simp only [Plan.ops, List.getElem?_toArray, List.getElem?_cons_zero, List.getElem?_cons_succ]
  ((first | ((refine tree_yes (v := ?_) (by rfl) ?_ ?_); rotate_left; (focus (intro w hSw; (try dsimp only at hSw); go_simp; try (with_reducible rfl)))) | (refine tree_no (by rfl) ?_)); (try simp only [Act.put, List.setIfInBounds_toArray, List.set_cons_zero, List.set_cons_succ]))
  ((first | ((refine tree_yes (v := ?_) (by rfl) ?_ ?_); rotate_left; (focus (intro w hSw; (try dsimp only at hSw); go_simp; try (with_reducible rfl)))) | (refine tree_no (by rfl) ?_)); (try simp only [Act.put, List.setIfInBounds_toArray, List.set_cons_zero, List.set_cons_succ]))
  ((first | ((refine tree_yes (v := ?_) (by rfl) ?_ ?_); rotate_left; (focus (intro w hSw; (try dsimp only at hSw); go_simp; try (with_reducible rfl)))) | (refine tree_no (by rfl) ?_)); (try simp only [Act.put, List.setIfInBounds_toArray, List.set_cons_zero, List.set_cons_succ]))
  ((first | ((refine tree_yes (v := ?_) (by rfl) ?_ ?_); rotate_left; (focus (intro w hSw; (try dsimp only at hSw); go_simp; try (with_reducible rfl)))) | (refine tree_no (by rfl) ?_)); (try simp only [Act.put, List.setIfInBounds_toArray, List.set_cons_zero, List.set_cons_succ]))
  ((first | ((refine tree_yes (v := ?_) (by rfl) ?_ ?_); rotate_left; (focus (intro w hSw; (try dsimp only at hSw); go_simp; try (with_reducible rfl)))) | (refine tree_no (by rfl) ?_)); (try simp only [Act.put, List.setIfInBounds_toArray, List.set_cons_zero, List.set_cons_succ]))
  ((first | ((refine tree_yes (v := ?_) (by rfl) ?_ ?_); rotate_left; (focus (intro w hSw; (try dsimp only at hSw); go_simp; try (with_reducible rfl)))) | (refine tree_no (by rfl) ?_)); (try simp only [Act.put, List.setIfInBounds_toArray, List.set_cons_zero, List.set_cons_succ]))
  ((first | ((refine tree_yes (v := ?_) (by rfl) ?_ ?_); rotate_left; (focus (intro w hSw; (try dsimp only at hSw); go_simp; try (with_reducible rfl)))) | (refine tree_no (by rfl) ?_)); (try simp only [Act.put, List.setIfInBounds_toArray, List.set_cons_zero, List.set_cons_succ]))
  ((first | ((refine tree_yes (v := ?_) (by rfl) ?_ ?_); rotate_left; (focus (intro w hSw; (try dsimp only at hSw); go_simp; try (with_reducible rfl)))) | (refine tree_no (by rfl) ?_)); (try simp only [Act.put, List.setIfInBounds_toArray, List.set_cons_zero, List.set_cons_succ]))
  ((first | ((refine tree_yes (v := ?_) (by rfl) ?_ ?_); rotate_left; (focus (intro w hSw; (try dsimp only at hSw); go_simp; try (with_reducible rfl)))) | (refine tree_no (by rfl) ?_)); (try simp only [Act.put, List.setIfInBounds_toArray, List.set_cons_zero, List.set_cons_succ]))
  refine tree_fork (fun K hK => ?_) (fun K hK => ?_)
  focus
    ((first | (refine stepInt rfl _ _ rfl mp ml mc _ rfl _ rfl HSB _ (blk_new rfl) rfl hmb2 ?_; intro p' cap' w6 T6 R6; have HS8 := T6.perm (show _ = pts lb (logO most nest np nl nc mp ml mc) * (arr 3 1 p' (ml + 1) cap' ((ms.map fun m : Nat => Value.int .i64 (m : Int)) ++ [.int .i64 (nl : Int)]) * (notes np nl nc fs * R)) by ac_rfl); obtain ⟨c06, c16, c26, c36, cz6⟩ := log_cells HS8.get) | (go_simp; (refine stepInt rfl _ _ rfl mp ml mc _ rfl _ rfl HSB _ (blk_new rfl) rfl hmb2 ?_; intro p' cap' w6 T6 R6; have HS8 := T6.perm (show _ = pts lb (logO most nest np nl nc mp ml mc) * (arr 3 1 p' (ml + 1) cap' ((ms.map fun m : Nat => Value.int .i64 (m : Int)) ++ [.int .i64 (nl : Int)]) * (notes np nl nc fs * R)) by ac_rfl); obtain ⟨c06, c16, c26, c36, cz6⟩ := log_cells HS8.get); (try go_wp2_with fail)) | go_simp); (refine hK.out _ _ ?_ (fun hHeld => ?_)); (focus ((try dsimp only); (first | done | (first | exact c2 | exact y2 | exact c26 | exact (log_cells (HS8.set (i := 3) _).get).2.2.1)))); clear hK K; (try simp only [Act.put, List.setIfInBounds_toArray, List.set_cons_zero, List.set_cons_succ]))
    ((refine tree_step (fun K hK => ?_)); (first | (refine stepInt rfl _ _ rfl mp ml mc _ rfl _ rfl HSB _ (blk_new rfl) rfl hmb2 ?_; intro p' cap' w6 T6 R6; have HS8 := T6.perm (show _ = pts lb (logO most nest np nl nc mp ml mc) * (arr 3 1 p' (ml + 1) cap' ((ms.map fun m : Nat => Value.int .i64 (m : Int)) ++ [.int .i64 (nl : Int)]) * (notes np nl nc fs * R)) by ac_rfl); obtain ⟨c06, c16, c26, c36, cz6⟩ := log_cells HS8.get) | (go_simp; (refine stepInt rfl _ _ rfl mp ml mc _ rfl _ rfl HSB _ (blk_new rfl) rfl hmb2 ?_; intro p' cap' w6 T6 R6; have HS8 := T6.perm (show _ = pts lb (logO most nest np nl nc mp ml mc) * (arr 3 1 p' (ml + 1) cap' ((ms.map fun m : Nat => Value.int .i64 (m : Int)) ++ [.int .i64 (nl : Int)]) * (notes np nl nc fs * R)) by ac_rfl); obtain ⟨c06, c16, c26, c36, cz6⟩ := log_cells HS8.get); (try go_wp2_with fail)) | go_simp); (refine hK.out _ _ ?_ (fun hHeld => ?_)); (focus ((try dsimp only); (first | done | (first | exact c2 | exact y2 | exact c26 | exact (log_cells (HS8.set (i := 3) _).get).2.2.1)))); clear hK K; (try simp only [Act.put, List.setIfInBounds_toArray, List.set_cons_zero, List.set_cons_succ]))
    ((refine tree_step (fun K hK => ?_)); (first | (refine stepInt rfl _ _ rfl mp ml mc _ rfl _ rfl HSB _ (blk_new rfl) rfl hmb2 ?_; intro p' cap' w6 T6 R6; have HS8 := T6.perm (show _ = pts lb (logO most nest np nl nc mp ml mc) * (arr 3 1 p' (ml + 1) cap' ((ms.map fun m : Nat => Value.int .i64 (m : Int)) ++ [.int .i64 (nl : Int)]) * (notes np nl nc fs * R)) by ac_rfl); obtain ⟨c06, c16, c26, c36, cz6⟩ := log_cells HS8.get) | (go_simp; (refine stepInt rfl _ _ rfl mp ml mc _ rfl _ rfl HSB _ (blk_new rfl) rfl hmb2 ?_; intro p' cap' w6 T6 R6; have HS8 := T6.perm (show _ = pts lb (logO most nest np nl nc mp ml mc) * (arr 3 1 p' (ml + 1) cap' ((ms.map fun m : Nat => Value.int .i64 (m : Int)) ++ [.int .i64 (nl : Int)]) * (notes np nl nc fs * R)) by ac_rfl); obtain ⟨c06, c16, c26, c36, cz6⟩ := log_cells HS8.get); (try go_wp2_with fail)) | go_simp); (refine hK.out _ _ ?_ (fun hHeld => ?_)); (focus ((try dsimp only); (first | done | (first | exact c2 | exact y2 | exact c26 | exact (log_cells (HS8.set (i := 3) _).get).2.2.1)))); clear hK K; (try simp only [Act.put, List.setIfInBounds_toArray, List.set_cons_zero, List.set_cons_succ]))
    ((first | ((refine tree_yes (v := ?_) (by rfl) ?_ ?_); rotate_left; (focus (intro w hSw; (try dsimp only at hSw); go_simp; try (with_reducible rfl)))) | (refine tree_no (by rfl) ?_)); (try simp only [Act.put, List.setIfInBounds_toArray, List.set_cons_zero, List.set_cons_succ]))
    ((first | ((refine tree_yes (v := ?_) (by rfl) ?_ ?_); rotate_left; (focus (intro w hSw; (try dsimp only at hSw); go_simp; try (with_reducible rfl)))) | (refine tree_no (by rfl) ?_)); (try simp only [Act.put, List.setIfInBounds_toArray, List.set_cons_zero, List.set_cons_succ]))
    ((refine tree_step (fun K hK => ?_)); (first | (refine stepInt rfl _ _ rfl mp ml mc _ rfl _ rfl HSB _ (blk_new rfl) rfl hmb2 ?_; intro p' cap' w6 T6 R6; have HS8 := T6.perm (show _ = pts lb (logO most nest np nl nc mp ml mc) * (arr 3 1 p' (ml + 1) cap' ((ms.map fun m : Nat => Value.int .i64 (m : Int)) ++ [.int .i64 (nl : Int)]) * (notes np nl nc fs * R)) by ac_rfl); obtain ⟨c06, c16, c26, c36, cz6⟩ := log_cells HS8.get) | (go_simp; (refine stepInt rfl _ _ rfl mp ml mc _ rfl _ rfl HSB _ (blk_new rfl) rfl hmb2 ?_; intro p' cap' w6 T6 R6; have HS8 := T6.perm (show _ = pts lb (logO most nest np nl nc mp ml mc) * (arr 3 1 p' (ml + 1) cap' ((ms.map fun m : Nat => Value.int .i64 (m : Int)) ++ [.int .i64 (nl : Int)]) * (notes np nl nc fs * R)) by ac_rfl); obtain ⟨c06, c16, c26, c36, cz6⟩ := log_cells HS8.get); (try go_wp2_with fail)) | go_simp); (refine hK.out _ _ ?_ (fun hHeld => ?_)); (focus ((try dsimp only); (first | done | (first | exact c2 | exact y2 | exact c26 | exact (log_cells (HS8.set (i := 3) _).get).2.2.1)))); clear hK K; (try simp only [Act.put, List.setIfInBounds_toArray, List.set_cons_zero, List.set_cons_succ]))
    refine tree_done ?_
  rotate_left 1
  focus
    ((first | (refine stepInt rfl _ _ rfl mp ml mc _ rfl _ rfl HSB _ (blk_new rfl) rfl hmb2 ?_; intro p' cap' w6 T6 R6; have HS8 := T6.perm (show _ = pts lb (logO most nest np nl nc mp ml mc) * (arr 3 1 p' (ml + 1) cap' ((ms.map fun m : Nat => Value.int .i64 (m : Int)) ++ [.int .i64 (nl : Int)]) * (notes np nl nc fs * R)) by ac_rfl); obtain ⟨c06, c16, c26, c36, cz6⟩ := log_cells HS8.get) | (go_simp; (refine stepInt rfl _ _ rfl mp ml mc _ rfl _ rfl HSB _ (blk_new rfl) rfl hmb2 ?_; intro p' cap' w6 T6 R6; have HS8 := T6.perm (show _ = pts lb (logO most nest np nl nc mp ml mc) * (arr 3 1 p' (ml + 1) cap' ((ms.map fun m : Nat => Value.int .i64 (m : Int)) ++ [.int .i64 (nl : Int)]) * (notes np nl nc fs * R)) by ac_rfl); obtain ⟨c06, c16, c26, c36, cz6⟩ := log_cells HS8.get); (try go_wp2_with fail)) | go_simp); (refine hK.out _ _ ?_ (fun hHeld => ?_)); (focus ((try dsimp only); (first | done | (first | exact c2 | exact y2 | exact c26 | exact (log_cells (HS8.set (i := 3) _).get).2.2.1)))); clear hK K; (try simp only [Act.put, List.setIfInBounds_toArray, List.set_cons_zero, List.set_cons_succ]))
    ((refine tree_step (fun K hK => ?_)); (first | (refine stepInt rfl _ _ rfl mp ml mc _ rfl _ rfl HSB _ (blk_new rfl) rfl hmb2 ?_; intro p' cap' w6 T6 R6; have HS8 := T6.perm (show _ = pts lb (logO most nest np nl nc mp ml mc) * (arr 3 1 p' (ml + 1) cap' ((ms.map fun m : Nat => Value.int .i64 (m : Int)) ++ [.int .i64 (nl : Int)]) * (notes np nl nc fs * R)) by ac_rfl); obtain ⟨c06, c16, c26, c36, cz6⟩ := log_cells HS8.get) | (go_simp; (refine stepInt rfl _ _ rfl mp ml mc _ rfl _ rfl HSB _ (blk_new rfl) rfl hmb2 ?_; intro p' cap' w6 T6 R6; have HS8 := T6.perm (show _ = pts lb (logO most nest np nl nc mp ml mc) * (arr 3 1 p' (ml + 1) cap' ((ms.map fun m : Nat => Value.int .i64 (m : Int)) ++ [.int .i64 (nl : Int)]) * (notes np nl nc fs * R)) by ac_rfl); obtain ⟨c06, c16, c26, c36, cz6⟩ := log_cells HS8.get); (try go_wp2_with fail)) | go_simp); (refine hK.out _ _ ?_ (fun hHeld => ?_)); (focus ((try dsimp only); (first | done | (first | exact c2 | exact y2 | exact c26 | exact (log_cells (HS8.set (i := 3) _).get).2.2.1)))); clear hK K; (try simp only [Act.put, List.setIfInBounds_toArray, List.set_cons_zero, List.set_cons_succ]))
    ((refine tree_step (fun K hK => ?_)); (first | (refine stepInt rfl _ _ rfl mp ml mc _ rfl _ rfl HSB _ (blk_new rfl) rfl hmb2 ?_; intro p' cap' w6 T6 R6; have HS8 := T6.perm (show _ = pts lb (logO most nest np nl nc mp ml mc) * (arr 3 1 p' (ml + 1) cap' ((ms.map fun m : Nat => Value.int .i64 (m : Int)) ++ [.int .i64 (nl : Int)]) * (notes np nl nc fs * R)) by ac_rfl); obtain ⟨c06, c16, c26, c36, cz6⟩ := log_cells HS8.get) | (go_simp; (refine stepInt rfl _ _ rfl mp ml mc _ rfl _ rfl HSB _ (blk_new rfl) rfl hmb2 ?_; intro p' cap' w6 T6 R6; have HS8 := T6.perm (show _ = pts lb (logO most nest np nl nc mp ml mc) * (arr 3 1 p' (ml + 1) cap' ((ms.map fun m : Nat => Value.int .i64 (m : Int)) ++ [.int .i64 (nl : Int)]) * (notes np nl nc fs * R)) by ac_rfl); obtain ⟨c06, c16, c26, c36, cz6⟩ := log_cells HS8.get); (try go_wp2_with fail)) | go_simp); (refine hK.out _ _ ?_ (fun hHeld => ?_)); (focus ((try dsimp only); (first | done | (first | exact c2 | exact y2 | exact c26 | exact (log_cells (HS8.set (i := 3) _).get).2.2.1)))); clear hK K; (try simp only [Act.put, List.setIfInBounds_toArray, List.set_cons_zero, List.set_cons_succ]))
    ((first | ((refine tree_yes (v := ?_) (by rfl) ?_ ?_); rotate_left; (focus (intro w hSw; (try dsimp only at hSw); go_simp; try (with_reducible rfl)))) | (refine tree_no (by rfl) ?_)); (try simp only [Act.put, List.setIfInBounds_toArray, List.set_cons_zero, List.set_cons_succ]))
    ((first | ((refine tree_yes (v := ?_) (by rfl) ?_ ?_); rotate_left; (focus (intro w hSw; (try dsimp only at hSw); go_simp; try (with_reducible rfl)))) | (refine tree_no (by rfl) ?_)); (try simp only [Act.put, List.setIfInBounds_toArray, List.set_cons_zero, List.set_cons_succ]))
    ((refine tree_step (fun K hK => ?_)); (first | (refine stepInt rfl _ _ rfl mp ml mc _ rfl _ rfl HSB _ (blk_new rfl) rfl hmb2 ?_; intro p' cap' w6 T6 R6; have HS8 := T6.perm (show _ = pts lb (logO most nest np nl nc mp ml mc) * (arr 3 1 p' (ml + 1) cap' ((ms.map fun m : Nat => Value.int .i64 (m : Int)) ++ [.int .i64 (nl : Int)]) * (notes np nl nc fs * R)) by ac_rfl); obtain ⟨c06, c16, c26, c36, cz6⟩ := log_cells HS8.get) | (go_simp; (refine stepInt rfl _ _ rfl mp ml mc _ rfl _ rfl HSB _ (blk_new rfl) rfl hmb2 ?_; intro p' cap' w6 T6 R6; have HS8 := T6.perm (show _ = pts lb (logO most nest np nl nc mp ml mc) * (arr 3 1 p' (ml + 1) cap' ((ms.map fun m : Nat => Value.int .i64 (m : Int)) ++ [.int .i64 (nl : Int)]) * (notes np nl nc fs * R)) by ac_rfl); obtain ⟨c06, c16, c26, c36, cz6⟩ := log_cells HS8.get); (try go_wp2_with fail)) | go_simp); (refine hK.out _ _ ?_ (fun hHeld => ?_)); (focus ((try dsimp only); (first | done | (first | exact c2 | exact y2 | exact c26 | exact (log_cells (HS8.set (i := 3) _).get).2.2.1)))); clear hK K; (try simp only [Act.put, List.setIfInBounds_toArray, List.set_cons_zero, List.set_cons_succ]))
    refine tree_done ?_
  all_goals
    have HS9 : Sat (w6.setCell ⟨lb, 3, none⟩ (.slice p' (ml + 1) cap')) (pts lb (logO most nest np nl nc p' (ml + 1) cap') * (arr 3 1 p' (ml + 1) cap' ((ms.map fun m : Nat => Value.int .i64 (m : Int)) ++ [.int .i64 (nl : Int)]) * (notes np nl nc fs * R))) := HS8.set (i := 3) (.slice p' (ml + 1) cap')
    have R9 : Ran w (w6.setCell ⟨lb, 3, none⟩ (.slice p' (ml + 1) cap')) := Ran.set (Below.trans (Below.drew RB) R6) _ _
    obtain ⟨w9, hw9⟩ : ∃ w9, w9 = w6.setCell ⟨lb, 3, none⟩ (.slice p' (ml + 1) cap') := ⟨_, rfl⟩
    rw [← hw9] at HS9 R9 ⊢
    clear hw9 T6 R6 HS8 c06 c16 c26 c36 cz6 c0 c1 c2 c3 cz y0 y1 y2 y3 yz HSB RB
    obtain ⟨d0, d1, d2, d3, dz⟩ := log_cells HS9.get
    go_wp2_with fail
    go_ret2
    refine ⟨rfl, ⟨np, nc, p', cap', ?_⟩, R9⟩
    have e1 : (ms ++ [nl]).length = ml + 1 := by rw [List.length_append, Hml.out]; rfl
    have e2 : ((ms ++ [nl]).map fun m : Nat => Value.int .i64 (m : Int)) = (ms.map fun m : Nat => Value.int .i64 (m : Int)) ++ [.int .i64 (nl : Int)] := by simp
    unfold marksA
    rw [e1, e2, ← Hnl.out]
    exact HS9.perm (by ac_rfl)
end Go.Proofs.YteienbdbhnikbaaGreatDoor.Undo
namespace Go.Proofs.YteienbdbhnikbaaGreatDoor.Undo
open Go.RowKit Go.Proofs.YteienbdbhnikbaaGreatDoor Go.Proofs.YteienbdbhnikbaaGreatDoor.Hp
set_option linter.unusedVariables false
attribute [local go_sem] Oper.semAt_some

def tailA (ao : Option Addr) (n cap sz : Nat) : Option Addr := if cap = n then ao else ao.map (·.add (n * sz))
theorem run_slice_from {P : Program} (t e : TypeId) (i : TypeInfo) (sz : Nat) (ht : P.underlying t = some (.slice e)) (hi : P.info? e = some i) (hs : i.size = sz) (ao : Option Addr) (len cap n : Nat) (hn : n ≤ len) (w : World) :
    (Instr.slice t (.slice ao len cap) (some (.int .i64 n)) none none).run P w = .ok (.slice (tailA ao n cap sz) (len - n) (cap - n)) w := by
  subst hs
  have h1 : (0 : Int) ≤ n := by omega
  simp [Instr.slice, Instr.sliceBounds, Instr.sliceBound, run_underlying ht, asIntOf, sizeOf, typeInfo, hi, h1, hn, tailA]
theorem fn_from (ao : Option Addr) (len cap n : Nat) (hn : n ≤ len) (w : World) :
    (Instr.slice 93 (.slice ao len cap) (some (.int .i64 n)) none none).run Tryz.prog w = .ok (.slice (tailA ao n cap 1) (len - n) (cap - n)) w := by
  obtain ⟨i0, hi, hz0, hz1, hz2⟩ := info_parts infoFn
  exact run_slice_from _ _ i0 1 Tryz.underlying93 hi hz1 ao len cap n hn w
theorem backs_get (fs : List Value) (n j : Nat) (h : j < n) : (backs fs n)[j]? = some (n - 1 - j, fs.getD (n - 1 - j) undef) := by
  induction n generalizing j with
  | zero => omega
  | succ n ih =>
    show ((n, fs.getD n undef) :: backs fs n)[j]? = _
    cases j with
    | zero => simp
    | succ j => rw [List.getElem?_cons_succ, ih j (by omega), show n + 1 - 1 - (j + 1) = n - 1 - j by omega]
theorem backs_at {fs : List Value} {n : Nat} {pre post : List (Nat × Value)} {x : Nat × Value} (h : backs fs n = pre ++ x :: post) : pre.length < n ∧ x = (n - 1 - pre.length, fs.getD (n - 1 - pre.length) undef) := by
  have h1 := congrArg List.length h
  rw [backs_length, List.length_append, List.length_cons] at h1
  have hlt : pre.length < n := by omega
  have h2 := backs_get fs n pre.length hlt
  rw [h, List.getElem?_append_right (Nat.le_refl _), Nat.sub_self] at h2
  exact ⟨hlt, by simpa using h2⟩
theorem fn_zero (w : World) : (zeroValue 1).run Tryz.prog w = .ok Value.nilFunc w := by kernel_rfl
/-- clear of the notes behind a place: those ahead of it stay. -/
theorem clear_notes {w : World} {S : Hp} {np : Option Addr} {nc m : Nat} {fs : List Value} (h : Sat w (notes np fs.length nc fs * S)) (hm : m ≤ fs.length) (ty : TypeId) :
    ∃ (v : Value) (w' : World) (fs' : List Value), (Builtin.clear_ #[93] ty #[.slice (tailA np m nc 1) (fs.length - m) (nc - m)]).run Tryz.prog w = .ok v w' ∧ fs'.length = fs.length ∧ fs'.take m = fs.take m ∧ Sat w' (notes np fs'.length nc fs' * S) ∧ Ran w w' := by
  obtain ⟨hl, hc1, hc2⟩ := h.arr_len
  by_cases e : fs.length - m = 0
  · refine ⟨.tuple #[], w, fs, ?_, rfl, rfl, h, Below.refl _ _⟩
    rw [e]
    cases hq : tailA np m nc 1 <;> simp [Builtin.clear_, run_underlying Tryz.underlying93]
  · obtain ⟨b, o, rfl⟩ := h.arr_addr (by omega)
    obtain ⟨cur, h1, h2, h3, h4, h5, h6, hh⟩ := h.arr_some
    simp only [Nat.mul_one] at h4 h5
    have hta : tailA (some ⟨b, o, none⟩) m nc 1 = some ⟨b, o + m, none⟩ := by unfold tailA; rw [if_neg (by omega)]; simp [Addr.add]
    rw [hta]
    have hg := hh.get
    have hrun := Lib.run_clear_slice (P := Tryz.prog) w 93 1 ty Value.nilFunc Tryz.underlying93 fn_zero rfl rfl b (o + m) (fs.length - m) (nc - m) (by omega)
      (fun j hj => by rw [cell_at hg]; have : o + m + j < cur.size := by omega
                      simp [this]) (fun j hj => free_at hg _)
    obtain ⟨⟨cur', g1, g2, g3⟩, g4, g5⟩ := heap_setCells b (List.replicate (fs.length - m) Value.nilFunc) (o + m) w cur 1 (0, 0) hg (by rw [List.length_replicate]; omega)
    have hlen : (fs.take m ++ List.replicate (fs.length - m) Value.nilFunc).length = fs.length := by rw [List.length_append, List.length_take, List.length_replicate]; omega
    refine ⟨_, _, fs.take m ++ List.replicate (fs.length - m) Value.nilFunc, hrun, hlen, by rw [List.take_append_of_le_length (by rw [List.length_take]; omega), List.take_take, Nat.min_self], ?_, g5⟩
    refine Sat.arr_mk (by rw [hlen]; exact h2) h3 (by omega) (by omega) (fun j hj => ?_) (hh.put g1 fun k _ hk => g4 k hk)
    rw [hlen] at hj
    rw [g3, List.length_replicate]
    by_cases hj2 : j < m
    · rw [if_neg (by omega), h6 j (by omega), List.getElem?_append_left (by rw [List.length_take]; omega), List.getElem?_take_of_lt hj2]
    · rw [if_pos (by omega), List.getElem?_append_right (by rw [List.length_take]; omega), List.length_take]
      exact congrArg (fun i => (List.replicate (fs.length - m) Value.nilFunc)[i]?) (by show o + j - (o + m) = j - min m fs.length; omega)
theorem notes_at {np : Option Addr} {nc m : Nat} {fs : List Value} (hm : m ≤ fs.length) (W : World) (S : Hp) (h : Sat W (notes np fs.length nc fs * S)) (k : Nat) (hk : k < fs.length - m) :
    ∃ nb no, tailA np m nc 1 = some ⟨nb, no, none⟩ ∧ W.cell? ⟨nb, no + k, none⟩ = some ((fs.drop m).getD k undef) := by
  obtain ⟨hl, hc1, hc2⟩ := h.arr_len
  obtain ⟨b, o, rfl⟩ := h.arr_addr (by omega)
  refine ⟨b, o + m, by unfold tailA; rw [if_neg (by omega)]; simp [Addr.add], ?_⟩
  rw [Nat.add_assoc, h.arr_cell (m + k) (by omega), List.getD_eq_getElem?_getD, List.getElem?_drop, List.getElem?_eq_getElem (by omega)]; rfl
end Go.Proofs.YteienbdbhnikbaaGreatDoor.Undo
namespace Go.Proofs.YteienbdbhnikbaaGreatDoor.Undo
open Go.RowKit Go.Proofs.YteienbdbhnikbaaGreatDoor Go.Proofs.YteienbdbhnikbaaGreatDoor.Hp
set_option linter.unusedVariables false
attribute [local go_sem] Oper.semAt_some

theorem run_slice_to {P : Program} (t e : TypeId) (i : TypeInfo) (ht : P.underlying t = some (.slice e)) (hi : P.info? e = some i) (ao : Option Addr) (len cap n : Nat) (hn : n ≤ cap) (w : World) :
    (Instr.slice t (.slice ao len cap) none (some (.int .i64 n)) none).run P w = .ok (.slice ao n cap) w := by
  have h1 : (0 : Int) ≤ n := by omega
  cases ao <;> simp [Instr.slice, Instr.sliceBounds, Instr.sliceBound, run_underlying ht, asIntOf, sizeOf, typeInfo, hi, h1, hn, Addr.add]
theorem fn_to (ao : Option Addr) (len cap n : Nat) (hn : n ≤ cap) (w : World) : (Instr.slice 93 (.slice ao len cap) none (some (.int .i64 n)) none).run Tryz.prog w = .ok (.slice ao n cap) w := by
  obtain ⟨i0, hi, hz0, hz1, hz2⟩ := info_parts infoFn
  exact run_slice_to _ _ i0 Tryz.underlying93 hi ao len cap n hn w
theorem int_to (ao : Option Addr) (len cap n : Nat) (hn : n ≤ cap) (w : World) : (Instr.slice 44 (.slice ao len cap) none (some (.int .i64 n)) none).run Tryz.prog w = .ok (.slice ao n cap) w := by
  obtain ⟨i0, hi, hz0, hz1, hz2⟩ := info_parts infoInt
  exact run_slice_to _ _ i0 Tryz.underlying44 hi ao len cap n hn w
theorem backward_calls (p : Option Addr) (n cap : Nat) (w : World) :
    Calls Tryz.prog 74 #[.slice p n cap] w fun e w' => e = .returned (.func (.func 87) #[] #[.pointer (some ⟨w.heap.size, 0, none⟩)]) ∧ w' = w.alloc (.cells #[.slice p n cap] 93 (0, 0)) := by
  go_enter Tryz.func74, Tryz.ntmps74
  go_wp2_with fail
  go_ret
  exact ⟨rfl, rfl⟩
/-- What each note does: I i: what there is when the notes from the i-th on have been done. -/
def Effects (I : Nat → Hp) (fs : List Value) (m : Nat) : Prop := ∀ i, m ≤ i → i < fs.length → ∃ k cs, fs.getD i undef = .func (.func k) #[] cs ∧ Enters Tryz.prog k ∧ ∀ (S : Hp) (W : World), Sat W (I (i + 1) * S) → Calls Tryz.prog k cs W fun e W' => (∃ v, e = .returned v) ∧ Sat W' (I i * S) ∧ Ran W W'
/-- Between two notes: how many have been done tells what there is. -/
def UInv (lb : Nat) (most nest : Int) (np : Option Addr) (nc : Nat) (mp : Option Addr) (mc : Nat) (fs : List Value) (ms : List Nat) (m : Nat) (I : Nat → Hp) (R : Hp) (pre : List (Nat × Value)) : Hp :=
  I (fs.length - pre.length) * (pts lb (logO most nest np fs.length nc mp (ms.length + 1) mc) * (marksA mp mc (ms ++ [m]) * R))
set_option maxRecDepth 100000 in
set_option maxHeartbeats 4000000 in
theorem undo_calls (lb : Nat) (most nest : Int) (fs : List Value) (ms : List Nat) (m : Nat) (w : World) (I : Nat → Hp) (R : Hp) (h : LogAt w lb most nest fs (ms ++ [m]) (I fs.length * R)) (hm : m ≤ fs.length) (hb : fs.length ≤ 1000000) (hms : ms.length ≤ 1000000) (he : Effects I fs m) :
    Calls Tryz.prog 54 #[.pointer (some ⟨lb, 0, none⟩)] w fun e w' => e = .returned (.int .i64 0) ∧ LogAt w' lb most nest (fs.take m) ms (I m * R) ∧ Ran w w' := by
  obtain ⟨np, nc, mp, mc, HS⟩ := h
  rw [show (ms ++ [m]).length = ms.length + 1 by simp] at HS
  obtain ⟨c0, c1, c2, c3, cz⟩ := log_cells HS.get
  have hMA := HS.perm (show _ = marksA mp mc (ms ++ [m]) * (pts lb (logO most nest np fs.length nc mp (ms.length + 1) mc) * (notes np fs.length nc fs * (I fs.length * R))) by ac_rfl)
  have hma := hMA.arr_len
  rw [show (ms ++ [m]).length = ms.length + 1 by simp] at hma
  obtain ⟨hma1, hma2, hma3⟩ := hma
  obtain ⟨mb, mo, rfl⟩ := hMA.arr_addr (by omega)
  have cm : w.cell? ⟨mb, mo + ms.length, none⟩ = some (.int .i64 (m : Int)) := by
    rw [hMA.arr_cell ms.length (by rw [List.length_map, List.length_append]; simp)]; simp
  have hna := (HS.perm (show _ = notes np fs.length nc fs * (pts lb (logO most nest np fs.length nc (some ⟨mb, mo, none⟩) (ms.length + 1) mc) * (marksA (some ⟨mb, mo, none⟩) mc (ms ++ [m]) * (I fs.length * R))) by ac_rfl)).arr_len
  obtain ⟨hna1, hna2, hna3⟩ := hna
  have hml : (((ms.length + 1 : Nat) : Int) == 0) = false := by rw [beq_eq_false_iff_ne]; omega
  have hml2 : (((ms.length : Int) + 1) == 0) = false := by rw [beq_eq_false_iff_ne]; omega
  have hsl : ∀ W, (Instr.slice 93 (.slice np fs.length nc) (some (.int .i64 (m : Int))) none none).run Tryz.prog W = .ok (.slice (tailA np m nc 1) (fs.length - m) (nc - m)) W := fun W => fn_from np fs.length nc m hm W
  have hmc : (ms.length : Int) ≤ mc := by omega
  have i0 : (0 : Int) ≤ ms.length := by omega
  have i1 : (ms.length : Int) < ((ms.length + 1 : Nat) : Int) := by omega
  have i2 : (ms.length : Int) < (ms.length : Int) + 1 := by omega
  have HS0 := Lib.hid HS
  have HE := Lib.hid he
  have Hna := Lib.hid (And.intro hna1 (And.intro hna2 hna3))
  have Hma2 := Lib.hid hma2
  clear HS hMA he hna1 hna2 hna3 hma1 hma2 hma3
  refine calls_of_wp_marks Tryz.func54 rfl ?_
  simp only [Tryz.ntmps54, List.size_toArray, List.length_cons, List.length_nil, Nat.reduceAdd, Nat.reduceSub, Array.replicate_succ, Array.replicate_zero, List.push_toArray, List.append_toArray, List.nil_append, List.cons_append]
  go_wp2_with fail
  refine (backward_calls _ _ _ _).mono ?_
  rintro e w1 ⟨rfl, hw1⟩
  obtain ⟨sb, hsb⟩ : ∃ sb, sb = w.heap.size := ⟨_, rfl⟩
  rw [← hsb]
  have S1 : Sat w1 (pts sb (.cells #[.slice (tailA np m nc 1) (fs.length - m) (nc - m)] 93 (0, 0)) * (pts lb (logO most nest np fs.length nc (some ⟨mb, mo, none⟩) (ms.length + 1) mc) * (notes np fs.length nc fs * (marksA (some ⟨mb, mo, none⟩) mc (ms ++ [m]) * (I fs.length * R))))) := by
    rw [hw1, hsb]; exact HS0.out.alloc _
  have R1 : Ran w w1 := by rw [hw1]; exact Ran.new (Below.refl _ _) _
  clear hw1 hsb c0 c1 c2 c3 cz cm HS0
  go_wp2_with fail
  have hI0 : Sat w1 (UInv lb most nest np nc (some ⟨mb, mo, none⟩) mc fs ms m I R [] * (pts sb (.cells #[.slice (tailA np m nc 1) (fs.length - m) (nc - m)] 93 (0, 0)) * (notes np fs.length nc fs * emp))) := by
    refine S1.perm ?_
    unfold UInv
    rw [sep_emp, List.length_nil, Nat.sub_zero]
    ac_rfl
  refine wp_rangeFunc_sat (n := 3) rfl (enters_of Tryz.func87 (by kernel_rfl) rfl) (back_iter (tailA np m nc 1) (nc - m) (fs.length - m) sb 3 (fs.drop m) (by omega) (notes np fs.length nc fs) emp (fun W S h k hk => notes_at hm W S h k hk)) (fun _ => rfl) (UInv lb most nest np nc (some ⟨mb, mo, none⟩) mc fs ms m I R) hI0 ?_ ?assign ?body ?done
  case assign =>
    intro l x W K hK
    gi_wp2
    exact hK
  case body =>
    rintro l pre x post S W hx hs
    obtain ⟨hlt, rfl⟩ := backs_at hx
    obtain ⟨k, cs, hf, hen, hef⟩ := HE.out (fs.length - 1 - pre.length) (by omega) (by omega)
    have hgd : (fs.drop m).getD (fs.length - m - 1 - pre.length) undef = .func (.func k) #[] cs := by
      rw [← hf, List.getD_eq_getElem?_getD, List.getD_eq_getElem?_getD, List.getElem?_drop, show m + (fs.length - m - 1 - pre.length) = fs.length - 1 - pre.length by omega]
    have hs2 := hs.perm (show _ = I (fs.length - 1 - pre.length + 1) * (pts lb (logO most nest np fs.length nc (some ⟨mb, mo, none⟩) (ms.length + 1) mc) * (marksA (some ⟨mb, mo, none⟩) mc (ms ++ [m]) * R) * S) by
      unfold UInv
      rw [show fs.length - pre.length = fs.length - 1 - pre.length + 1 by omega]
      ac_rfl)
    have hcall := hef _ W hs2
    have Hcall := Lib.hid hcall
    have hen2 : ∀ args w, (callFunc k args).run Tryz.prog w = .ok (.enter k args) w := hen
    rw [hgd]
    have Hpre : Hid (fs.length - (pre ++ [(fs.length - m - 1 - pre.length, Value.func (.func k) #[] cs)]).length = fs.length - 1 - pre.length) := Lib.hid (by rw [List.length_append]; simp; omega)
    clear hs hs2 hef hen hf hgd hx hcall
    gi_wp2
    refine ⟨trivial, (CallsIn.inRound l (callsIn_wide.2 Hcall.out)).mono ?_⟩
    rintro e w4 ⟨⟨v, rfl⟩, hs4, hr4⟩
    gi_wp2
    unfold UInv
    rw [Hpre.out]
    exact hs4.perm (by ac_rfl)
  case done =>
    rintro D W hs hr
    have hs1 := hs.perm (show _ = notes np fs.length nc fs * (pts D (.deferred (some [])) * (pts lb (logO most nest np fs.length nc (some ⟨mb, mo, none⟩) (ms.length + 1) mc) * (marksA (some ⟨mb, mo, none⟩) mc (ms ++ [m]) * (I m * (R * pts sb (.cells #[.slice (tailA np m nc 1) (fs.length - m) (nc - m)] 93 (0, 0))))))) by
      unfold UInv
      rw [backs_length, show fs.length - (fs.length - m) = m by omega, sep_emp]
      ac_rfl)
    obtain ⟨c0, c1, c2, c3, cz⟩ := log_cells (hs1.perm (show _ = pts lb (logO most nest np fs.length nc (some ⟨mb, mo, none⟩) (ms.length + 1) mc) * (notes np fs.length nc fs * (pts D (.deferred (some [])) * (marksA (some ⟨mb, mo, none⟩) mc (ms ++ [m]) * (I m * (R * pts sb (.cells #[.slice (tailA np m nc 1) (fs.length - m) (nc - m)] 93 (0, 0))))))) by ac_rfl)).get
    obtain ⟨vc, w5, fs', hclr, hl', ht', hs5, hr5⟩ := clear_notes hs1 hm 0
    have R5 : Ran w w5 := Below.trans (Below.trans R1 hr) hr5
    have hs6 := hs5.perm (show _ = pts lb (logO most nest np fs.length nc (some ⟨mb, mo, none⟩) (ms.length + 1) mc) * (pts D (.deferred (some [])) * (notes np fs'.length nc fs' * (marksA (some ⟨mb, mo, none⟩) mc (ms ++ [m]) * (I m * (R * pts sb (.cells #[.slice (tailA np m nc 1) (fs.length - m) (nc - m)] 93 (0, 0))))))) by ac_rfl)
    have Hs6 := Lib.hid hs6
    obtain ⟨d0, d1, d2, d3, dz⟩ := log_cells hs6.get
    have ht1 := fun W => fn_to np fs.length nc m (by have := Hna.out; omega) W
    have ht2 := fun W => int_to (some ⟨mb, mo, none⟩) (ms.length + 1) mc ms.length (by have := Hma2.out; omega) W
    have Hl := Lib.hid hl'
    have Ht := Lib.hid ht'
    clear hs hs1 hr hr5 hs5 hs6 hl' ht' hI0 S1
    go_wp2_with fail
    refine region_tree (S := (fun w' => True)) (.take 0 (.take 1 (.take 2 (.take 3 (.take 4 (.take 6 (.take 8 (.take 9 (.take 10 (.take 12 (.fork 5 (.take 7 (.step 11 (.take 13 (.take 14 (.take 15 (.step 16 (.take 17 (.take 18 (.step 19 (.nil)))))))))) 11 (.take 13 (.step 5 (.take 7 (.take 14 (.take 15 (.step 16 (.take 17 (.take 18 (.step 19 (.nil))))))))))))))))))))) (by kernel_rfl) (by kernel_rfl) (by kernel_rfl) ?_ ?_
    · ((try dsimp only); (first | done | (trivial)))
    simp only [Plan.ops, List.getElem?_toArray, List.getElem?_cons_zero, List.getElem?_cons_succ]
    ((first | ((refine tree_yes (v := ?_) (by rfl) ?_ ?_); rotate_left; (focus (intro w hSw; (try dsimp only at hSw); go_simp; try (with_reducible rfl)))) | (refine tree_no (by rfl) ?_)); (try simp only [Act.put, List.setIfInBounds_toArray, List.set_cons_zero, List.set_cons_succ]))
    ((first | ((refine tree_yes (v := ?_) (by rfl) ?_ ?_); rotate_left; (focus (intro w hSw; (try dsimp only at hSw); go_simp; try (with_reducible rfl)))) | (refine tree_no (by rfl) ?_)); (try simp only [Act.put, List.setIfInBounds_toArray, List.set_cons_zero, List.set_cons_succ]))
    ((first | ((refine tree_yes (v := ?_) (by rfl) ?_ ?_); rotate_left; (focus (intro w hSw; (try dsimp only at hSw); go_simp; try (with_reducible rfl)))) | (refine tree_no (by rfl) ?_)); (try simp only [Act.put, List.setIfInBounds_toArray, List.set_cons_zero, List.set_cons_succ]))
    ((first | ((refine tree_yes (v := ?_) (by rfl) ?_ ?_); rotate_left; (focus (intro w hSw; (try dsimp only at hSw); go_simp; try (with_reducible rfl)))) | (refine tree_no (by rfl) ?_)); (try simp only [Act.put, List.setIfInBounds_toArray, List.set_cons_zero, List.set_cons_succ]))
    ((first | ((refine tree_yes (v := ?_) (by rfl) ?_ ?_); rotate_left; (focus (intro w hSw; (try dsimp only at hSw); go_simp; try (with_reducible rfl)))) | (refine tree_no (by rfl) ?_)); (try simp only [Act.put, List.setIfInBounds_toArray, List.set_cons_zero, List.set_cons_succ]))
    ((first | ((refine tree_yes (v := ?_) (by rfl) ?_ ?_); rotate_left; (focus (intro w hSw; (try dsimp only at hSw); go_simp; try (with_reducible rfl)))) | (refine tree_no (by rfl) ?_)); (try simp only [Act.put, List.setIfInBounds_toArray, List.set_cons_zero, List.set_cons_succ]))
    ((first | ((refine tree_yes (v := ?_) (by rfl) ?_ ?_); rotate_left; (focus (intro w hSw; (try dsimp only at hSw); go_simp; try (with_reducible rfl)))) | (refine tree_no (by rfl) ?_)); (try simp only [Act.put, List.setIfInBounds_toArray, List.set_cons_zero, List.set_cons_succ]))
    ((first | ((refine tree_yes (v := ?_) (by rfl) ?_ ?_); rotate_left; (focus (intro w hSw; (try dsimp only at hSw); go_simp; try (with_reducible rfl)))) | (refine tree_no (by rfl) ?_)); (try simp only [Act.put, List.setIfInBounds_toArray, List.set_cons_zero, List.set_cons_succ]))
    ((first | ((refine tree_yes (v := ?_) (by rfl) ?_ ?_); rotate_left; (focus (intro w hSw; (try dsimp only at hSw); go_simp; try (with_reducible rfl)))) | (refine tree_no (by rfl) ?_)); (try simp only [Act.put, List.setIfInBounds_toArray, List.set_cons_zero, List.set_cons_succ]))
    ((first | ((refine tree_yes (v := ?_) (by rfl) ?_ ?_); rotate_left; (focus (intro w hSw; (try dsimp only at hSw); go_simp; try (with_reducible rfl)))) | (refine tree_no (by rfl) ?_)); (try simp only [Act.put, List.setIfInBounds_toArray, List.set_cons_zero, List.set_cons_succ]))
    refine tree_fork (fun K hK => ?_) (fun K hK => ?_)
    focus
      ((first | (fail) | (go_simp; (fail); (try go_wp2_with fail)) | go_simp); (refine hK.out _ _ ?_ (fun hHeld => ?_)); (focus ((try dsimp only); (first | done | (trivial)))); clear hK K; (try simp only [Act.put, List.setIfInBounds_toArray, List.set_cons_zero, List.set_cons_succ]))
      ((first | ((refine tree_yes (v := ?_) (by rfl) ?_ ?_); rotate_left; (focus (intro w hSw; (try dsimp only at hSw); go_simp; try (with_reducible rfl)))) | (refine tree_no (by rfl) ?_)); (try simp only [Act.put, List.setIfInBounds_toArray, List.set_cons_zero, List.set_cons_succ]))
      ((refine tree_step (fun K hK => ?_)); (first | (fail) | (go_simp; (fail); (try go_wp2_with fail)) | go_simp); (refine hK.out _ _ ?_ (fun hHeld => ?_)); (focus ((try dsimp only); (first | done | (trivial)))); clear hK K; (try simp only [Act.put, List.setIfInBounds_toArray, List.set_cons_zero, List.set_cons_succ]))
      ((first | ((refine tree_yes (v := ?_) (by rfl) ?_ ?_); rotate_left; (focus (intro w hSw; (try dsimp only at hSw); go_simp; try (with_reducible rfl)))) | (refine tree_no (by rfl) ?_)); (try simp only [Act.put, List.setIfInBounds_toArray, List.set_cons_zero, List.set_cons_succ]))
      ((first | ((refine tree_yes (v := ?_) (by rfl) ?_ ?_); rotate_left; (focus (intro w hSw; (try dsimp only at hSw); go_simp; try (with_reducible rfl)))) | (refine tree_no (by rfl) ?_)); (try simp only [Act.put, List.setIfInBounds_toArray, List.set_cons_zero, List.set_cons_succ]))
      ((first | ((refine tree_yes (v := ?_) (by rfl) ?_ ?_); rotate_left; (focus (intro w hSw; (try dsimp only at hSw); go_simp; try (with_reducible rfl)))) | (refine tree_no (by rfl) ?_)); (try simp only [Act.put, List.setIfInBounds_toArray, List.set_cons_zero, List.set_cons_succ]))
      ((refine tree_step (fun K hK => ?_)); (first | (fail) | (go_simp; (fail); (try go_wp2_with fail)) | go_simp); (refine hK.out _ _ ?_ (fun hHeld => ?_)); (focus ((try dsimp only); (first | done | (trivial)))); clear hK K; (try simp only [Act.put, List.setIfInBounds_toArray, List.set_cons_zero, List.set_cons_succ]))
      ((first | ((refine tree_yes (v := ?_) (by rfl) ?_ ?_); rotate_left; (focus (intro w hSw; (try dsimp only at hSw); go_simp; try (with_reducible rfl)))) | (refine tree_no (by rfl) ?_)); (try simp only [Act.put, List.setIfInBounds_toArray, List.set_cons_zero, List.set_cons_succ]))
      ((first | ((refine tree_yes (v := ?_) (by rfl) ?_ ?_); rotate_left; (focus (intro w hSw; (try dsimp only at hSw); go_simp; try (with_reducible rfl)))) | (refine tree_no (by rfl) ?_)); (try simp only [Act.put, List.setIfInBounds_toArray, List.set_cons_zero, List.set_cons_succ]))
      ((refine tree_step (fun K hK => ?_)); (first | (fail) | (go_simp; (fail); (try go_wp2_with fail)) | go_simp); (refine hK.out _ _ ?_ (fun hHeld => ?_)); (focus ((try dsimp only); (first | done | (trivial)))); clear hK K; (try simp only [Act.put, List.setIfInBounds_toArray, List.set_cons_zero, List.set_cons_succ]))
      refine tree_done ?_
    rotate_left 1
    focus
      ((first | (fail) | (go_simp; (fail); (try go_wp2_with fail)) | go_simp); (refine hK.out _ _ ?_ (fun hHeld => ?_)); (focus ((try dsimp only); (first | done | (trivial)))); clear hK K; (try simp only [Act.put, List.setIfInBounds_toArray, List.set_cons_zero, List.set_cons_succ]))
      ((first | ((refine tree_yes (v := ?_) (by rfl) ?_ ?_); rotate_left; (focus (intro w hSw; (try dsimp only at hSw); go_simp; try (with_reducible rfl)))) | (refine tree_no (by rfl) ?_)); (try simp only [Act.put, List.setIfInBounds_toArray, List.set_cons_zero, List.set_cons_succ]))
      ((refine tree_step (fun K hK => ?_)); (first | (fail) | (go_simp; (fail); (try go_wp2_with fail)) | go_simp); (refine hK.out _ _ ?_ (fun hHeld => ?_)); (focus ((try dsimp only); (first | done | (trivial)))); clear hK K; (try simp only [Act.put, List.setIfInBounds_toArray, List.set_cons_zero, List.set_cons_succ]))
      ((first | ((refine tree_yes (v := ?_) (by rfl) ?_ ?_); rotate_left; (focus (intro w hSw; (try dsimp only at hSw); go_simp; try (with_reducible rfl)))) | (refine tree_no (by rfl) ?_)); (try simp only [Act.put, List.setIfInBounds_toArray, List.set_cons_zero, List.set_cons_succ]))
      ((first | ((refine tree_yes (v := ?_) (by rfl) ?_ ?_); rotate_left; (focus (intro w hSw; (try dsimp only at hSw); go_simp; try (with_reducible rfl)))) | (refine tree_no (by rfl) ?_)); (try simp only [Act.put, List.setIfInBounds_toArray, List.set_cons_zero, List.set_cons_succ]))
      ((first | ((refine tree_yes (v := ?_) (by rfl) ?_ ?_); rotate_left; (focus (intro w hSw; (try dsimp only at hSw); go_simp; try (with_reducible rfl)))) | (refine tree_no (by rfl) ?_)); (try simp only [Act.put, List.setIfInBounds_toArray, List.set_cons_zero, List.set_cons_succ]))
      ((refine tree_step (fun K hK => ?_)); (first | (fail) | (go_simp; (fail); (try go_wp2_with fail)) | go_simp); (refine hK.out _ _ ?_ (fun hHeld => ?_)); (focus ((try dsimp only); (first | done | (trivial)))); clear hK K; (try simp only [Act.put, List.setIfInBounds_toArray, List.set_cons_zero, List.set_cons_succ]))
      ((first | ((refine tree_yes (v := ?_) (by rfl) ?_ ?_); rotate_left; (focus (intro w hSw; (try dsimp only at hSw); go_simp; try (with_reducible rfl)))) | (refine tree_no (by rfl) ?_)); (try simp only [Act.put, List.setIfInBounds_toArray, List.set_cons_zero, List.set_cons_succ]))
      ((first | ((refine tree_yes (v := ?_) (by rfl) ?_ ?_); rotate_left; (focus (intro w hSw; (try dsimp only at hSw); go_simp; try (with_reducible rfl)))) | (refine tree_no (by rfl) ?_)); (try simp only [Act.put, List.setIfInBounds_toArray, List.set_cons_zero, List.set_cons_succ]))
      ((refine tree_step (fun K hK => ?_)); (first | (fail) | (go_simp; (fail); (try go_wp2_with fail)) | go_simp); (refine hK.out _ _ ?_ (fun hHeld => ?_)); (focus ((try dsimp only); (first | done | (trivial)))); clear hK K; (try simp only [Act.put, List.setIfInBounds_toArray, List.set_cons_zero, List.set_cons_succ]))
      refine tree_done ?_
    all_goals
      have hs7 := ((Hs6.out.set (i := 2) (.slice np m nc)).set (i := 3) (.slice (some ⟨mb, mo, none⟩) ms.length mc)).drew
      have R7 : Ran w ((w5.setCell ⟨lb, 2, none⟩ (.slice np m nc)).setCell ⟨lb, 3, none⟩ (.slice (some ⟨mb, mo, none⟩) ms.length mc)).drew := Below.drew (Ran.set (Ran.set R5 _ _) _ _)
      obtain ⟨w7, hw7⟩ : ∃ w7, w7 = ((w5.setCell ⟨lb, 2, none⟩ (.slice np m nc)).setCell ⟨lb, 3, none⟩ (.slice (some ⟨mb, mo, none⟩) ms.length mc)).drew := ⟨_, rfl⟩
      rw [← hw7] at hs7 R7 ⊢
      clear hw7 d0 d1 d2 d3 dz c0 c1 c2 c3 cz hclr ht1 ht2 hsl
      go_wp2_with fail
      (try simp only [Exit.inBlock, Exit.then])
      have hsD := hs7.perm (show _ = pts D (.deferred (some [])) * (pts lb (logO most nest np m nc (some ⟨mb, mo, none⟩) ms.length mc) * (notes np fs'.length nc fs' * (marksA (some ⟨mb, mo, none⟩) mc (ms ++ [m]) * (I m * (R * pts sb (.cells #[.slice (tailA np m nc 1) (fs.length - m) (nc - m)] 93 (0, 0))))))) by show pts lb (logO most nest np m nc (some ⟨mb, mo, none⟩) ms.length mc) * _ = _; ac_rfl)
      refine marks_out rfl hsD.get (results_tmp rfl _ _ _) ⟨rfl, ?_, Ran.putObj R7 _ _⟩
      have hsE := (hsD.putObj (.deferred none)).right
      have hA := (hsE.perm (show _ = notes np fs'.length nc fs' * (pts lb (logO most nest np m nc (some ⟨mb, mo, none⟩) ms.length mc) * (marksA (some ⟨mb, mo, none⟩) mc (ms ++ [m]) * (I m * (R * pts sb (.cells #[.slice (tailA np m nc 1) (fs.length - m) (nc - m)] 93 (0, 0)))))) by ac_rfl)).arr_take m (by have := Hl.out; omega)
      rw [Nat.mul_one, Ht.out] at hA
      have hB := (hA.perm (show _ = marksA (some ⟨mb, mo, none⟩) mc (ms ++ [m]) * (pts lb (logO most nest np m nc (some ⟨mb, mo, none⟩) ms.length mc) * (notes np m nc (fs.take m) * (I m * (R * pts sb (.cells #[.slice (tailA np m nc 1) (fs.length - m) (nc - m)] 93 (0, 0)))))) by ac_rfl)).arr_take ms.length (by simp)
      refine ⟨np, nc, some ⟨mb, mo, none⟩, mc, ?_⟩
      have e1 : (fs.take m).length = m := by rw [List.length_take]; omega
      have e2 : (((ms ++ [m]).map fun m : Nat => Value.int .i64 (m : Int)).take (ms.length * 1)) = ms.map fun m : Nat => Value.int .i64 (m : Int) := by
        rw [Nat.mul_one, List.map_append, List.take_append_of_le_length (by simp), List.take_of_length_le (by simp)]
      rw [e2] at hB
      rw [e1]
      have hC := hB.perm (show _ = pts sb (.cells #[.slice (tailA np m nc 1) (fs.length - m) (nc - m)] 93 (0, 0)) * (pts lb (logO most nest np m nc (some ⟨mb, mo, none⟩) ms.length mc) * (notes np m nc (fs.take m) * (marksA (some ⟨mb, mo, none⟩) mc ms * (I m * R)))) by unfold marksA; ac_rfl)
      exact hC.right
end Go.Proofs.YteienbdbhnikbaaGreatDoor.Undo

