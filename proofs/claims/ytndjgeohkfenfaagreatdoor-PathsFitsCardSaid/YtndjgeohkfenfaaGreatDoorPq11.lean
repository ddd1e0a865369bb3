/- HandlesPlays, part 11 of 26: the texts GlN PaG, joined by a program. -/
import Derived.Test.YtndjgeohkfenfaaGreatDoorPq10
namespace Go.Proofs.YtndjgeohkfenfaaGreatDoor.Globs
open Go.RowKit Go.Proofs.YtndjgeohkfenfaaGreatDoor Go.Proofs.YtndjgeohkfenfaaGreatDoor.Hp
set_option linter.unusedVariables false

theorem infoRCh : (Tryz.prog.info? 66).map (fun i => (i.zero, i.size, i.bytes)) = some (some (.agg #[.int .u8 0, .bool false]), 2, 2) := by kernel_rfl
theorem stepRCh {w : World} {H : Hp} {ops : Array Oper} {o : Oper} {a : Act} {K : Act → World → Prop} {Q : Exit → Act → World → Prop} {E : Prop} (hgd : o.guard = none) (s x : Operand)
    (ho : o.op = .call { callee := .builtin .append, args := #[s, x], argTypes := #[28, 28] })
    (p : Option Addr) (n cap : Nat) (xs : List Value) (hp : a.eval s = .slice p n cap) (b : Nat) (hvx : a.eval x = .slice (some ⟨b, 0, none⟩) 1 1) (h : Sat w (arr 66 2 p n cap xs * H)) (v0 v1 : Value) (hb : w.heap[b]? = some (.cells #[v0, v1] 66 (0, 0))) (h0 : v0.oneCell' = true) (h1 : v1.oneCell' = true) (hn : n ≤ 1000000000)
    (hk : ∀ p' cap' w', Sat w' (arr 66 2 p' (n + 1) cap' (xs ++ [v0, v1]) * H) → Ran w w' → Moved w w' p p' → K (a.put o.dst (.slice p' (n + 1) cap')) w') :
    if Region.wanted o (yielded ops a.tmps) = true then Oper.wp Tryz.prog o a w K Q else E := by
  obtain ⟨i0, hi, hz0, hz1, hz2⟩ := info_parts infoRCh
  rw [if_pos (by simp [Region.wanted, hgd])]
  refine wp_append_arr2 s x _ _ ho 66 i0 _ 2 2 Tryz.underlying28 hi hz0 hz1 hz2 rfl p n cap xs hp h _ hvx 1 [v0, v1] (Src.ofSlice w Tryz.underlying28 ⟨b, 0, none⟩ 1 1 [v0, v1] (by rw [hz1]; rfl) ?_ (by simp [h0, h1])) (by omega) (by unfold maxLen; omega) hk
  intro j u hj
  rw [Addr.add_lit, Nat.zero_add, cell_at hb, ← hj]
  simp
theorem charsAt_arrR {w : World} {H : Hp} {p : Option Addr} {cap : Nat} {l : List Ch} (h : Sat w (arr 66 2 p l.length cap (chCells l) * H)) : CharsAt w p cap l := by
  obtain ⟨h1, h2, h3⟩ := h.arr_len
  refine ⟨h2, by unfold maxLen at h3; omega, fun j hj => ?_⟩
  obtain ⟨b, o, rfl⟩ := h.arr_addr (by omega)
  obtain ⟨g0, g1⟩ := chCells_get l j hj
  have hl := chCells_length l
  refine ⟨b, o, rfl, ?_, ?_, ?_⟩
  · obtain ⟨cur, _, _, _, _, _, _, h'⟩ := h.arr_some; exact h'.lt
  · rw [h.arr_cell (j * 2) (by omega)]; rw [List.getElem?_eq_getElem (by omega)] at g0; exact g0
  · rw [Nat.add_assoc, h.arr_cell (j * 2 + 1) (by omega)]; rw [List.getElem?_eq_getElem (by omega)] at g1; exact g1
def TxRel (t : List Ch) (w : World) (g : Nat) (ov iv : Value) (wr : World) : Prop :=
  ∃ (i : Nat) (po : Option Addr) (co : Nat), i + g = t.length ∧ ov = .slice po i co ∧ iv = .int .i64 (i : Int) ∧ Sat wr (arr 66 2 po i co (chCells (t.take i)) * keep w) ∧ Ran w wr
set_option maxRecDepth 100000 in
set_option maxHeartbeats 2000000 in
theorem text_calls (t : List Ch) (ao : Option Addr) (cap : Nat) (w : World) (h : CharsAt w ao cap t) (hm : t.length ≤ 100000) :
    Calls Tryz.prog 10 #[.slice ao t.length cap] w (CharsPost t w) := by
  obtain ⟨hl1, hl2, hx⟩ := h
  go_enter Tryz.func10, Tryz.ntmps10
  go_wp2_with fail
  go_loopg [3, 4] (t.length) (TxRel t w)
  case atStart => exact ⟨0, none, 0, by omega, rfl, rfl, (Sat.start w).nil_arr _ _, Below.refl _ _⟩
  case round =>
    obtain ⟨i, po, co, hig, rfl, rfl, HS, HR⟩ := hrel
    have hi0 : (0 : Int) ≤ i := by omega
    have hKp : Kept w wr := ⟨HR.size, HS.right.kept⟩
    by_cases hi : i < t.length
    · have hil : (i : Int) < t.length := by omega
      obtain ⟨tb, o, rfl, htb, c0, c1⟩ := hx i hi
      obtain ⟨c, hc⟩ : ∃ c, c = t[i] := ⟨_, rfl⟩
      rw [← hc] at c0 c1
      have htk : t.take (i + 1) = t.take i ++ [c] := by rw [List.take_succ_eq_append_getElem hi, hc]
      obtain ⟨cb, cq⟩ := c
      simp only at c0 c1
      have CF : ∀ w' : World, Kept w w' → w'.cell? ⟨tb, o + i * 2, none⟩ = some (.int .u8 cb.toNat) ∧ w'.cell? ⟨tb, o + i * 2 + 1, none⟩ = some (.bool cq) := fun w' k => ⟨(k.cell htb _).trans c0, (k.cell htb _).trans c1⟩
      have Hcf := Lib.hid CF
      have Htk := Lib.hid htk
      have hi9 : i ≤ 1000000000 := by omega
      have Hig := Lib.hid hig
      have T2 := HS.old (.cells #[.int .u8 cb.toNat, .bool cq] 66 (0, 0))
      have R2 := Ran.new HR (.cells #[.int .u8 cb.toNat, .bool cq] 66 (0, 0))
      have K2 := hKp.trans (kept_alloc wr (.cells #[.int .u8 cb.toNat, .bool cq] 66 (0, 0)))
      clear CF htk hc c0 c1 hig hx HS HR
      go_wp2_with fail
      refine region_plan (S := (fun w' => w'.cell? ⟨tb, o + i * 2, none⟩ = some (.int .u8 cb.toNat) ∧ w'.cell? ⟨tb, o + i * 2 + 1, none⟩ = some (.bool cq))) [(0, true), (1, true), (2, true), (3, true), (4, true), (5, true), (6, true), (7, true), (8, true), (9, true), (10, true), (11, true), (12, false), (13, false), (14, true)] (by kernel_rfl) (by kernel_rfl) (by kernel_rfl) ?_ ?_
      · ((try dsimp only); (first | done | (first | exact Hcf.out _ (kept_drew hKp) | exact Hcf.out _ (kept_drew K2) | exact Hcf.out _ K2 | exact Hcf.out _ K6)))
      simp only [planOps, List.map_cons, List.map_nil, List.getElem?_toArray, List.getElem?_cons_zero, List.getElem?_cons_succ]
      repeat (first
        | ((refine plan_yes (v := ?_) (by rfl) ?_ ?_); rotate_left; (focus (intro w hSw; (try dsimp only at hSw); go_simp; try (with_reducible rfl))); (try simp only [Act.put, List.setIfInBounds_toArray, List.set_cons_zero, List.set_cons_succ]))
        | ((refine plan_no (by rfl) ?_); (try simp only [Act.put, List.setIfInBounds_toArray, List.set_cons_zero, List.set_cons_succ]))
        | ((refine plan_step (fun K hK => ?_)); (first | (refine stepRCh rfl _ _ rfl po i co _ rfl _ rfl T2 (.int .u8 cb.toNat) (.bool cq) (block_new rfl) rfl rfl hi9 ?_; intro p' cap' w6 T6 R6 M6; have K6 : Kept w w6 := ⟨Nat.le_trans K2.1 R6.size, T6.right.kept⟩) | (go_simp; (refine stepRCh rfl _ _ rfl po i co _ rfl _ rfl T2 (.int .u8 cb.toNat) (.bool cq) (block_new rfl) rfl rfl hi9 ?_; intro p' cap' w6 T6 R6 M6; have K6 : Kept w w6 := ⟨Nat.le_trans K2.1 R6.size, T6.right.kept⟩); (try go_wp2_with fail)) | go_simp); (refine hK.out _ _ ?_ (fun hHeld => ?_)); (focus ((try dsimp only); (first | done | (first | exact Hcf.out _ (kept_drew hKp) | exact Hcf.out _ (kept_drew K2) | exact Hcf.out _ K2 | exact Hcf.out _ K6)))); clear hK K; (try simp only [Act.put, List.setIfInBounds_toArray, List.set_cons_zero, List.set_cons_succ])))
      refine plan_done ?_
      go_wp2_with fail
      go_roundg (gk - 1)
      case measure => have := Hig.out; omega
      case rel => exact ⟨i + 1, p', cap', by have := Hig.out; omega, rfl, by go_num, by rw [Htk.out, chCells_snoc]; exact T6, Below.trans (Below.drew R2) R6⟩
    · have hge : ¬ ((i : Int) < t.length) := by omega
      obtain rfl : i = t.length := by omega
      rw [List.take_length] at HS
      have hC := charsAt_arrR HS
      clear hx hig hKp
      go_wp2_with fail
      go_ret
      exact ⟨po, co, rfl, hC, HR.whole HS⟩

theorem appU8 {w : World} {H : Hp} {ops : Array Oper} {rest : List Oper} {o : Oper} {a : Act} {Q : Exit → Act → World → Prop} (hgd : o.guard = none) (s x : Operand)
    (ho : o.op = .call { callee := .builtin .append, args := #[s, x], argTypes := #[102, 102] })
    (p : Option Addr) (n cap : Nat) (xs : List Value) (hp : a.eval s = .slice p n cap) (b : Nat) (hvx : a.eval x = .slice (some ⟨b, 0, none⟩) 1 1) (h : Sat w (arr 5 1 p n cap xs * H)) (v : Value) (hb : w.heap[b]? = some (.cells #[v] 5 (0, 0))) (h0 : v.oneCell' = true) (hn : n ≤ 1000000000)
    (hk : ∀ p' cap' w', Sat w' (arr 5 1 p' (n + 1) cap' (xs ++ [v]) * H) → Ran w w' → Moved w w' p p' → wpList Tryz.prog ops Q rest (a.put o.dst (.slice p' (n + 1) cap')) w') : wpList Tryz.prog ops Q (o :: rest) a w := by
  obtain ⟨i0, hi, hz0, hz1, hz2⟩ := info_parts infoU8
  refine wpList_append_arr2 hgd s x _ _ ho 5 i0 _ 1 1 Tryz.underlying102 hi hz0 hz1 hz2 rfl p n cap xs hp h _ hvx 1 [v] (Src.ofSlice w Tryz.underlying102 ⟨b, 0, none⟩ 1 1 [v] (by rw [hz1]; rfl) ?_ (by simp [h0])) (by omega) (by unfold maxLen; omega) hk
  intro j u hj
  rw [Addr.add_lit, Nat.zero_add, cell_at hb, ← hj]
  simp
def byCells (l : List Ch) : List Value := l.map fun c => .int .u8 c.b.toNat
def PnRel (t : List Ch) (w : World) (g : Nat) (ov iv : Value) (wr : World) : Prop :=
  ∃ (i : Nat) (po : Option Addr) (co : Nat), i + g = t.length ∧ ov = .slice po i co ∧ iv = .int .i64 (i : Int) ∧ Sat wr (arr 5 1 po i co (byCells (t.take i)) * keep w) ∧ Ran w wr
set_option maxRecDepth 100000 in
set_option maxHeartbeats 2000000 in
theorem rplain_calls (t : List Ch) (ao : Option Addr) (cap : Nat) (w : World) (h : CharsAt w ao cap t) (hm : t.length ≤ 100000) :
    Calls Tryz.prog 51 #[.slice ao t.length cap] w (PlainPost t w) := by
  obtain ⟨hl1, hl2, hx⟩ := h
  go_enter Tryz.func51, Tryz.ntmps51
  go_wp2_with fail
  go_loopg [3, 4] (t.length) (PnRel t w)
  case atStart => exact ⟨0, none, 0, by omega, rfl, rfl, (Sat.start w).nil_arr _ _, Below.refl _ _⟩
  case round =>
    obtain ⟨i, po, co, hig, rfl, rfl, HS, HR⟩ := hrel
    have hi0 : (0 : Int) ≤ i := by omega
    have hKp : Kept w wr := ⟨HR.size, HS.right.kept⟩
    by_cases hi : i < t.length
    · have hil : (i : Int) < t.length := by omega
      obtain ⟨tb, o, rfl, htb, c0, c1⟩ := hx i hi
      obtain ⟨c, hc⟩ : ∃ c, c = t[i] := ⟨_, rfl⟩
      rw [← hc] at c0 c1
      have htk : t.take (i + 1) = t.take i ++ [c] := by rw [List.take_succ_eq_append_getElem hi, hc]
      obtain ⟨cb, cq⟩ := c
      simp only at c0 c1
      have k0 := (hKp.cell htb _).trans c0
      have hi9 : i ≤ 1000000000 := by omega
      have Htk := Lib.hid htk
      have Hig := Lib.hid hig
      have T2 := HS.old (.cells #[.int .u8 cb.toNat] 5 (0, 0))
      have R2 := Ran.new HR (.cells #[.int .u8 cb.toNat] 5 (0, 0))
      clear htk hc c0 c1 hig hx HS HR
      go_wp2_with (at_builtin; go_loud (refine appU8 rfl _ _ rfl po i co _ rfl _ rfl T2 _ (block_new rfl) rfl hi9 ?_; intro p' cap' w6 T6 R6 M6; clear T2))
      go_roundg (gk - 1)
      case measure => have := Hig.out; omega
      case rel => exact ⟨i + 1, p', cap', by have := Hig.out; omega, rfl, by go_num, by rw [Htk.out]; unfold byCells at T6 ⊢; rw [List.map_append]; exact T6, Below.trans R2 R6⟩
    · have hge : ¬ ((i : Int) < t.length) := by omega
      obtain rfl : i = t.length := by omega
      rw [List.take_length] at HS
      have hcv : (convert 102 9 (.slice po t.length co)).run Tryz.prog wr = .ok (.string ⟨(t.map (·.b)).toArray⟩) wr := by
        cases po with
        | none =>
          obtain ⟨h1, h2, h3⟩ := HS.arr_none
          have ht0 : t = [] := List.length_eq_zero_iff.1 h1
          subst ht0
          exact run_convert_bytes_nil wr 102 5 Tryz.underlying102 Tryz.underlying5 _ _ _ Tryz.underlying9
        | some pa =>
          obtain ⟨b, o, sp⟩ := pa
          obtain ⟨cur, hsp, _⟩ := HS.arr_some
          simp only at hsp
          subst hsp
          have := run_convert_bytes_back (P := Tryz.prog) wr 102 9 5 ⟨b, o, none⟩ co (t.map (·.b)) Tryz.underlying102 Tryz.underlying5 Tryz.underlying9 (fun j hj => by
            rw [List.length_map] at hj
            rw [Addr.add_lit, HS.arr_cell j (by unfold byCells; rw [List.length_map]; exact hj)]
            simp [byCells])
          rw [List.length_map] at this
          exact this
      clear hx hig hKp
      go_wp2_with fail
      go_ret
      exact ⟨rfl, HR.whole HS⟩
end Go.Proofs.YtndjgeohkfenfaaGreatDoor.Globs

namespace Go.Proofs.YtndjgeohkfenfaaGreatDoor.Globs
open Go.RowKit Go.Proofs.YtndjgeohkfenfaaGreatDoor Go.Proofs.YtndjgeohkfenfaaGreatDoor.Hp
set_option linter.unusedVariables false
attribute [local go_sem] Oper.semAt_some

/-- A marked text of a call's own. -/
abbrev chAR (p : Option Addr) (cap : Nat) (t : List Ch) : Hp := arr 66 2 p t.length cap (chCells t)
theorem chA_atR {w : World} {p : Option Addr} {cap : Nat} {l : List Ch} {S : Hp} (h : Sat w (chAR p cap l * S)) : CharsAt w p cap l := by
  obtain ⟨h1, h2, h3⟩ := h.arr_len
  refine ⟨h2, by unfold maxLen at h3; omega, fun j hj => ?_⟩
  obtain ⟨b, o, rfl⟩ := h.arr_addr (by omega)
  obtain ⟨g0, g1⟩ := chCells_get l j hj
  have hl := chCells_length l
  refine ⟨b, o, rfl, ?_, ?_, ?_⟩
  · obtain ⟨cur, _, _, _, _, _, _, h'⟩ := h.arr_some; exact h'.lt
  · rw [h.arr_cell (j * 2) (by omega)]; rw [List.getElem?_eq_getElem (by omega)] at g0; exact g0
  · rw [Nat.add_assoc, h.arr_cell (j * 2 + 1) (by omega)]; rw [List.getElem?_eq_getElem (by omega)] at g1; exact g1
theorem appChR {w : World} {H : Hp} {ops : Array Oper} {rest : List Oper} {o : Oper} {a : Act} {Q : Exit → Act → World → Prop} (hgd : o.guard = none) (s x : Operand)
    (ho : o.op = .call { callee := .builtin .append, args := #[s, x], argTypes := #[28, 28] })
    (p : Option Addr) (n cap : Nat) (xs : List Value) (hp : a.eval s = .slice p n cap) (vx : Value) (hvx : a.eval x = vx) (m : Nat) (news : List Value) (hs : Src Tryz.prog 2 28 vx m news w) (h : Sat w (arr 66 2 p n cap xs * H)) (hn : n + m ≤ 1000000000)
    (hk : ∀ p' cap' w', Sat w' (arr 66 2 p' (n + m) cap' (xs ++ news) * H) → Ran w w' → wpList Tryz.prog ops Q rest (a.put o.dst (.slice p' (n + m) cap')) w') : wpList Tryz.prog ops Q (o :: rest) a w := by
  obtain ⟨i0, hi, hz0, hz1, hz2⟩ := info_parts infoRCh
  exact wpList_append_arr hgd s x _ _ ho 66 i0 _ 2 2 Tryz.underlying28 hi hz0 hz1 hz2 rfl p n cap xs hp h _ hvx m news (by rw [hz1]; exact hs) (by omega) (by unfold maxLen; omega) (fun p' cap' w' h1 h2 _ => hk p' cap' w' h1 h2)
theorem src1R {w : World} {b : Nat} {c : Ch} (hb : w.heap[b]? = some (.cells #[.int .u8 c.b.toNat, .bool c.q] 66 (0, 0))) : Src Tryz.prog 2 28 (.slice (some ⟨b, 0, none⟩) 1 1) 1 [.int .u8 c.b.toNat, .bool c.q] w := by
  refine Src.ofSlice w Tryz.underlying28 ⟨b, 0, none⟩ 1 1 _ rfl (fun j u hj => ?_) (by simp [Value.oneCell'])
  rw [Addr.add_lit, Nat.zero_add, cell_at hb, ← hj]
  simp
def rwAR (x : Rw) : Hp := chAR x.p x.cap x.L
theorem infoRwR : (Tryz.prog.info? 28).map (fun i => (i.zero, i.size, i.bytes)) = some (some (.slice none 0 0), 1, 24) := by kernel_rfl
theorem appRwR {w : World} {H : Hp} {ops : Array Oper} {rest : List Oper} {o : Oper} {a : Act} {Q : Exit → Act → World → Prop} (hgd : o.guard = none) (s x : Operand)
    (ho : o.op = .call { callee := .builtin .append, args := #[s, x], argTypes := #[26, 26] })
    (p : Option Addr) (n cap : Nat) (xs : List Value) (hp : a.eval s = .slice p n cap) (b : Nat) (hvx : a.eval x = .slice (some ⟨b, 0, none⟩) 1 1) (h : Sat w (arr 28 1 p n cap xs * H)) (v : Value) (hb : w.heap[b]? = some (.cells #[v] 28 (0, 0))) (h0 : v.oneCell' = true) (hn : n ≤ 1000000000)
    (hk : ∀ p' cap' w', Sat w' (arr 28 1 p' (n + 1) cap' (xs ++ [v]) * H) → Ran w w' → wpList Tryz.prog ops Q rest (a.put o.dst (.slice p' (n + 1) cap')) w') : wpList Tryz.prog ops Q (o :: rest) a w := by
  obtain ⟨i0, hi, hz0, hz1, hz2⟩ := info_parts infoRwR
  refine wpList_append_arr hgd s x _ _ ho 28 i0 _ 1 24 Tryz.underlying26 hi hz0 hz1 hz2 rfl p n cap xs hp h _ hvx 1 [v] (Src.ofSlice w Tryz.underlying26 ⟨b, 0, none⟩ 1 1 [v] (by rw [hz1]; rfl) ?_ (by simp [h0])) (by omega) (by unfold maxLen; omega) (fun p' cap' w' h1 h2 _ => hk p' cap' w' h1 h2)
  intro j u hj
  rw [Addr.add_lit, Nat.zero_add, cell_at hb, ← hj]
  simp
/-- Rows of a call's own, in a slice of its own. -/
def rowsAR (p : Option Addr) (cap : Nat) (rs : List Rw) : Hp := arr 28 1 p rs.length cap (rs.map rwV) * all rwAR rs
theorem rows_ofR {w : World} {p : Option Addr} {cap : Nat} {rs : List Rw} {S : Hp} (h : Sat w (rowsAR p cap rs * S)) : RowsAt w p rs := fun i hi => by
  unfold rowsAR at h
  rw [sep_assoc] at h
  have hl := h.arr_len
  obtain ⟨b, o, rfl⟩ := h.arr_addr (by omega)
  refine ⟨b, o, rfl, ?_, ?_⟩
  · rw [h.arr_cell i (by rw [List.length_map]; exact hi), List.getElem_map]
  · have h2 := h.right
    rw [all_split rwAR rs i hi, sep_assoc] at h2
    exact chA_atR h2
theorem rows_snocR {w : World} {p : Option Addr} {cap : Nat} {rs : List Rw} {q : Option Addr} {qc m : Nat} {u : List Ch} {S : Hp} (hu : u.length = m) (h : Sat w (arr 28 1 p (rs.length + 1) cap (rs.map rwV ++ [.slice q m qc]) * (all rwAR rs * (chAR q qc u * S)))) : Sat w (rowsAR p cap (rs ++ [⟨q, qc, u⟩]) * S) := by
  subst hu
  unfold rowsAR
  rw [List.length_append, List.map_append, all_append]
  exact h.perm (by show arr 28 1 p (rs.length + 1) cap (rs.map rwV ++ [.slice q u.length qc]) * _ = (arr 28 1 p (rs.length + 1) cap (rs.map rwV ++ [.slice q u.length qc]) * (_ * (chAR q qc u * emp))) * _; rw [sep_emp]; ac_rfl)

def RPsRel (t : List Ch) (w : World) (g : Nat) (ov nv iv : Value) (wr : World) : Prop :=
  ∃ (i : Nat) (q : Option Addr) (qc : Nat) (u : List Ch) (p : Option Addr) (pc : Nat) (rs : List Rw), i + g = t.length + 1 ∧ nv = .slice q u.length qc ∧ ov = .slice p rs.length pc ∧ iv = .int .i64 (i : Int) ∧
    (i ≤ t.length → partsL t = rs.map Rw.L ++ partsA u (t.drop i)) ∧ (t.length < i → partsL t = rs.map Rw.L) ∧ rs.length + u.length ≤ i ∧ Sat wr (chAR q qc u * (rowsAR p pc rs * keep w)) ∧ Ran w wr
def RPartsPost (t : List Ch) (w : World) (e : Ending) (w' : World) : Prop := (∃ p cap rs, e = .returned (.slice p (List.length rs) cap) ∧ rs.map Rw.L = partsL t ∧ Sat w' (rowsAR p cap rs * keep w)) ∧ Ran w w'
theorem chAR_nil {w : World} {S : Hp} (h : Sat w S) : Sat w (chAR none 0 [] * S) := h.nil_arr _ _
theorem snoc_cell {w : World} {cap : Nat} {q : Option Addr} {u : List Ch} {c : Ch} {S : Hp} (h : Sat w (arr 66 2 q (u.length + 1) cap (chCells u ++ [.int .u8 c.b.toNat, .bool c.q]) * S)) : Sat w (chAR q cap (u ++ [c]) * S) := by
  unfold chAR
  rw [List.length_append, chCells_snoc]
  exact h
set_option maxRecDepth 100000 in
set_option maxHeartbeats 4000000 in
theorem rparts_calls (t : List Ch) (ao : Option Addr) (cap : Nat) (w : World) (h : CharsAt w ao cap t) (hm : t.length ≤ 100000) :
    Calls Tryz.prog 9 #[.slice ao t.length cap] w (RPartsPost t w) := by
  have H0 : Sat w (chAR none 0 [] * (rowsAR none 0 [] * keep w)) := by
    have h1 : Sat w (arr 28 1 none 0 0 [] * keep w) := (Sat.start w).nil_arr _ _
    exact chAR_nil (h1.perm (by unfold rowsAR; show _ = (_ * emp) * _; rw [sep_emp]; rfl))
  have Hh := Lib.hid h
  have H0 := Lib.hid H0
  have hmI : (t.length : Int) ≤ 100000 := by omega
  clear h
  go_enter Tryz.func9, Tryz.ntmps9
  go_wp2_with fail
  go_loopg [3, 4, 5] (t.length + 1) (fun (g : Nat) (ov nv iv : Value) (wr : World) => RPsRel t w g ov nv iv wr)
  case atStart => exact ⟨0, none, 0, [], none, 0, [], by omega, rfl, rfl, rfl, fun _ => rfl, fun h => by omega, by simp, H0.out, Below.refl _ _⟩
  case round =>
    clear H0
    obtain ⟨i, q, qc, u, p, pc, rs, hig, rfl, rfl, rfl, hp1, hp2, hlen, HS, HR⟩ := hrel
    have hi0 : (0 : Int) ≤ (i : Int) := by omega
    have hul : u.length ≤ 200000 := by omega
    have hrl : rs.length ≤ 1000000000 := by omega
    have HS0 := Lib.hid HS
    have Hig := Lib.hid hig
    have Hp1 := Lib.hid hp1
    have Hp2 := Lib.hid hp2
    have Hlen := Lib.hid hlen
    by_cases hi : i < t.length
    · have hiI : (i : Int) < (t.length : Int) := by omega
      have hiL : (i : Int) ≤ (t.length : Int) := by omega
      have hKr : Kept w wr := kept_of (HS.perm (show _ = (chAR q qc u * rowsAR p pc rs) * keep w by ac_rfl))
      obtain ⟨b, o, rfl, hb, x0, x1⟩ := (Hh.out.keep hKr).2.2 i hi
      obtain ⟨c, hc⟩ : ∃ c, c = t[i] := ⟨_, rfl⟩
      rw [← hc] at x0 x1
      have hpc : partsL t = rs.map Rw.L ++ if (c.b == 47) = true then (if u = [] then partsA [] (t.drop (i + 1)) else u :: partsA [] (t.drop (i + 1))) else partsA (u ++ [c]) (t.drop (i + 1)) := by
        rw [hp1 (by omega), List.drop_eq_getElem_cons hi, ← hc]
        rfl
      have hcv : (((c.b.toNat : Nat) : Int) == 47) = (c.b == 47) := u8_lit c.b 47 (by omega)
      obtain ⟨v, hv⟩ : ∃ v, v = (c.b == 47) := ⟨_, rfl⟩
      rw [← hv] at hpc hcv
      cases v with
      | false =>
        rw [if_neg (by decide)] at hpc
        have Hpc := Lib.hid hpc
        have HSB := HS.old (.cells #[.int .u8 c.b.toNat, .bool c.q] 66 (0, 0))
        have RB := Ran.new HR (.cells #[.int .u8 c.b.toNat, .bool c.q] 66 (0, 0))
        clear hc hv hpc hp1 hp2 hlen hig HS hKr
        go_wp2_with (at_builtin; go_loud (refine appChR rfl _ _ rfl q u.length qc _ rfl _ rfl 1 _ (src1R (block_new rfl)) HSB (by omega) ?_; intro p' cap2 w6 T6 R6; clear HSB))
        have S7 := Lib.hid (snoc_cell T6)
        clear T6
        go_roundg (gk - 1)
        case measure => have := Hig.out; omega
        case rel => exact ⟨i + 1, p', cap2, u ++ [c], p, pc, rs, by have := Hig.out; omega, by rw [List.length_append]; rfl, rfl, by go_num, fun _ => Hpc.out, fun h => by omega, by rw [List.length_append]; have := Hlen.out; simp; omega, S7.out, Below.trans RB R6⟩
      | true =>
        rw [if_pos rfl] at hpc
        by_cases hu : u = []
        · subst hu
          rw [if_pos rfl] at hpc
          have Hpc := Lib.hid hpc
          have S7 := Lib.hid (chAR_nil HS.right)
          clear hc hv hpc hp1 hp2 hlen hig HS hKr
          go_wp2_with fail
          go_roundg (gk - 1)
          case measure => have := Hig.out; omega
          case rel => exact ⟨i + 1, none, 0, [], p, pc, rs, by have := Hig.out; omega, rfl, rfl, by go_num, fun _ => Hpc.out, fun h => by omega, by have := Hlen.out; simp at this ⊢; omega, S7.out, HR⟩
        · have hu0 : (0 : Int) < (u.length : Int) := by
            cases u with
            | nil => exact absurd rfl hu
            | cons a l => rw [List.length_cons]; omega
          rw [if_neg hu] at hpc
          have Hpc := Lib.hid hpc
          have HSB := (HS.perm (show _ = arr 28 1 p rs.length pc (rs.map rwV) * (all rwAR rs * (chAR q qc u * keep w)) by unfold rowsAR; ac_rfl)).old (.cells #[.slice q u.length qc] 28 (0, 0))
          have RB := Ran.new HR (.cells #[.slice q u.length qc] 28 (0, 0))
          have Hu := Lib.hid hu
          clear hc hv hpc hp1 hp2 hlen hig HS hKr
          go_wp2_with (at_builtin; go_loud (refine appRwR rfl _ _ rfl p rs.length pc _ rfl _ rfl HSB _ (block_new rfl) rfl hrl ?_; intro p' cap2 w6 T6 R6; clear HSB))
          have S7 := Lib.hid (chAR_nil (rows_snocR rfl T6))
          clear T6
          go_roundg (gk - 1)
          case measure => have := Hig.out; omega
          case rel => exact ⟨i + 1, none, 0, [], p', cap2, rs ++ [⟨q, qc, u⟩], by have := Hig.out; omega, rfl, by rw [List.length_append]; rfl, by go_num, fun _ => by rw [Hpc.out, List.map_append, List.append_assoc]; rfl, fun h => by omega, by rw [List.length_append]; have := Hlen.out; simp; omega, S7.out, Below.trans RB R6⟩
    · by_cases hi2 : i = t.length
      · have hiI : ¬ (i : Int) < (t.length : Int) := by omega
        have hiL : (i : Int) ≤ (t.length : Int) := by omega
        have hpc : partsL t = rs.map Rw.L ++ if u = [] then [] else [u] := by
          rw [hp1 (by omega), hi2, List.drop_length]
          rfl
        have Hi2 := Lib.hid hi2
        by_cases hu : u = []
        · subst hu
          rw [if_pos rfl] at hpc
          have Hpc := Lib.hid hpc
          have S7 := Lib.hid (chAR_nil HS.right)
          clear hpc hp1 hp2 hlen hig HS hi2
          go_wp2_with fail
          go_roundg (gk - 1)
          case measure => have := Hig.out; have := Hi2.out; omega
          case rel => exact ⟨i + 1, none, 0, [], p, pc, rs, by have := Hig.out; have := Hi2.out; omega, rfl, rfl, by go_num, fun h => by have := Hi2.out; omega, fun _ => by rw [Hpc.out]; exact List.append_nil _, by have := Hlen.out; simp at this ⊢; omega, S7.out, HR⟩
        · have hu0 : (0 : Int) < (u.length : Int) := by
            cases u with
            | nil => exact absurd rfl hu
            | cons a l => rw [List.length_cons]; omega
          rw [if_neg hu] at hpc
          have Hpc := Lib.hid hpc
          have HSB := (HS.perm (show _ = arr 28 1 p rs.length pc (rs.map rwV) * (all rwAR rs * (chAR q qc u * keep w)) by unfold rowsAR; ac_rfl)).old (.cells #[.slice q u.length qc] 28 (0, 0))
          have RB := Ran.new HR (.cells #[.slice q u.length qc] 28 (0, 0))
          have Hu := Lib.hid hu
          clear hpc hp1 hp2 hlen hig HS hi2
          go_wp2_with (at_builtin; go_loud (refine appRwR rfl _ _ rfl p rs.length pc _ rfl _ rfl HSB _ (block_new rfl) rfl hrl ?_; intro p' cap2 w6 T6 R6; clear HSB))
          have S7 := Lib.hid (chAR_nil (rows_snocR rfl T6))
          clear T6
          go_roundg (gk - 1)
          case measure => have := Hig.out; have := Hi2.out; omega
          case rel => exact ⟨i + 1, none, 0, [], p', cap2, rs ++ [⟨q, qc, u⟩], by have := Hig.out; have := Hi2.out; omega, rfl, by rw [List.length_append]; rfl, by go_num, fun h => by have := Hi2.out; omega, fun _ => by rw [Hpc.out, List.map_append]; rfl, by rw [List.length_append]; have := Hlen.out; simp; omega, S7.out, Below.trans RB R6⟩
      · have hge : ¬ (i : Int) ≤ (t.length : Int) := by omega
        have hpf := hp2 (by omega)
        have Hpf := Lib.hid hpf
        clear hpf hp1 hp2 hlen hig HS
        go_wp2_with fail
        go_ret
        exact ⟨⟨p, pc, rs, rfl, Hpf.out.symm, HS0.out.right⟩, HR⟩
end Go.Proofs.YtndjgeohkfenfaaGreatDoor.Globs

