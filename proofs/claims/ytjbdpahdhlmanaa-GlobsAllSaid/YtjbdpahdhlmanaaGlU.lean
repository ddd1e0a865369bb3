/- The law's 'Items', walked: a pattern as the document's answer has it. -/
import Derived.Test.YtjbdpahdhlmanaaGlL
import Derived.Test.YtjbdpahdhlmanaaPlan
import Derived.Deep.RegionLaw
namespace Go.Proofs.Ytjbdpahdhlmanaa.Globs
open Go.RowKit Go.Proofs.Ytjbdpahdhlmanaa Go.Proofs.Ytjbdpahdhlmanaa.Hp
set_option linter.unusedVariables false

theorem infoRng : (Try.prog.info? 66).map (fun i => (i.zero, i.size, i.bytes)) = some (some (.agg #[.int .u8 0, .int .u8 0]), 2, 2) := by kernel_rfl
theorem infoRit : (Try.prog.info? 61).map (fun i => (i.zero, i.size, i.bytes)) = some (some (.agg #[.int .i64 0, .int .u8 0, .bool false, .slice none 0 0]), 4, 40) := by kernel_rfl
theorem stepRng {w : World} {H : Hp} {ops : Array Oper} {o : Oper} {a : Act} {K : Act → World → Prop} {Q : Exit → Act → World → Prop} {E : Prop} (hgd : o.guard = none) (s x : Operand)
    (ho : o.op = .call { callee := .builtin .append, args := #[s, x], argTypes := #[59, 59] })
    (p : Option Addr) (n cap : Nat) (xs : List Value) (hp : a.eval s = .slice p n cap) (b : Nat) (hvx : a.eval x = .slice (some ⟨b, 0, none⟩) 1 1) (h : Sat w (arr 66 2 p n cap xs * H)) (v0 v1 : Value) (hb : w.heap[b]? = some (.cells #[v0, v1] 66 (0, 0))) (h0 : v0.oneCell' = true) (h1 : v1.oneCell' = true) (hn : n ≤ 1000000000)
    (hk : ∀ p' cap' w', Sat w' (arr 66 2 p' (n + 1) cap' (xs ++ [v0, v1]) * H) → Ran w w' → Moved w w' p p' → K (a.put o.dst (.slice p' (n + 1) cap')) w') :
    if Region.wanted o (yielded ops a.tmps) = true then Oper.wp Try.prog o a w K Q else E := by
  obtain ⟨i0, hi, hz0, hz1, hz2⟩ := info_parts infoRng
  rw [if_pos (by simp [Region.wanted, hgd])]
  refine wp_append_arr2 s x _ _ ho 66 i0 _ 2 2 Try.underlying59 hi hz0 hz1 hz2 rfl p n cap xs hp h _ hvx 1 [v0, v1] (Src.ofSlice w Try.underlying59 ⟨b, 0, none⟩ 1 1 [v0, v1] (by rw [hz1]; rfl) ?_ (by simp [h0, h1])) (by omega) (by unfold maxLen; omega) hk
  intro j u hj
  rw [Addr.add_lit, Nat.zero_add, cell_at hb, ← hj]
  simp
theorem appRit {w : World} {H : Hp} {ops : Array Oper} {rest : List Oper} {o : Oper} {a : Act} {Q : Exit → Act → World → Prop} (hgd : o.guard = none) (s x : Operand)
    (ho : o.op = .call { callee := .builtin .append, args := #[s, x], argTypes := #[26, 26] })
    (p : Option Addr) (n cap : Nat) (xs : List Value) (hp : a.eval s = .slice p n cap) (b : Nat) (hvx : a.eval x = .slice (some ⟨b, 0, none⟩) 1 1) (h : Sat w (arr 61 4 p n cap xs * H)) (v : ItS) (hb : w.heap[b]? = some (.cells (itCell v).toArray 61 (0, 0))) (hn : n ≤ 1000000000)
    (hk : ∀ p' cap' w', Sat w' (arr 61 4 p' (n + 1) cap' (xs ++ itCell v) * H) → Ran w w' → Moved w w' p p' → wpList Try.prog ops Q rest (a.put o.dst (.slice p' (n + 1) cap')) w') : wpList Try.prog ops Q (o :: rest) a w := by
  obtain ⟨i0, hi, hz0, hz1, hz2⟩ := info_parts infoRit
  refine wpList_append_arr2 hgd s x _ _ ho 61 i0 _ 4 40 Try.underlying26 hi hz0 hz1 hz2 rfl p n cap xs hp h _ hvx 1 (itCell v) (Src.ofSlice w Try.underlying26 ⟨b, 0, none⟩ 1 1 (itCell v) (by rw [hz1]; rfl) ?_ (by unfold itCell; simp; exact ⟨rfl, rfl, rfl, rfl⟩)) (by omega) (by unfold maxLen; omega) hk
  intro j u hj
  rw [Addr.add_lit, Nat.zero_add, cell_at hb, ← hj]
  simp
theorem rgAt_arrR {w : World} {H : Hp} {p : Option Addr} {cap : Nat} {rs : List Rg} (h : Sat w (arr 66 2 p rs.length cap (rgCells rs) * H)) : RgAt w p rs := by
  obtain ⟨h1, h2, h3⟩ := h.arr_len
  refine ⟨by unfold maxLen at h3; omega, fun j hj => ?_⟩
  obtain ⟨b, o, rfl⟩ := h.arr_addr (by omega)
  obtain ⟨g0, g1⟩ := rgCells_get rs j hj
  have hl := rgCells_length rs
  refine ⟨b, o, rfl, ?_, ?_, ?_⟩
  · obtain ⟨cur, _, _, _, _, _, _, h'⟩ := h.arr_some; exact h'.lt
  · rw [h.arr_cell (j * 2) (by omega)]; rw [List.getElem?_eq_getElem (by omega)] at g0; exact g0
  · rw [Nat.add_assoc, h.arr_cell (j * 2 + 1) (by omega)]; rw [List.getElem?_eq_getElem (by omega)] at g1; exact g1
theorem itemsAt_arrR {w : World} {H : Hp} {p : Option Addr} {cap : Nat} {l : List ItS} (h : Sat w (arr 61 4 p l.length cap (itCells l) * H)) (hr : ∀ x ∈ l, RgAt w x.2.1 x.1.rs) : ItemsAt w p (l.map (·.1)) := by
  obtain ⟨h1, h2, h3⟩ := h.arr_len
  refine ⟨by rw [List.length_map]; unfold maxLen at h3; omega, fun i hi => ?_⟩
  rw [List.length_map] at hi
  obtain ⟨b, o, rfl⟩ := h.arr_addr (by omega)
  obtain ⟨g0, g1, g2, g3⟩ := itCells_get l i hi
  have hl := itCells_length l
  have hx := hr l[i] (List.getElem_mem hi)
  simp only [List.getElem_map]
  refine ⟨b, o, l[i].2.1, l[i].2.2, rfl, ?_, ?_, ?_, ?_, ?_, hx⟩
  · obtain ⟨cur, _, _, _, _, _, _, h'⟩ := h.arr_some; exact h'.lt
  · rw [h.arr_cell (i * 4) (by omega)]; rw [List.getElem?_eq_getElem (by omega)] at g0; exact g0
  · rw [Nat.add_assoc, h.arr_cell (i * 4 + 1) (by omega)]; rw [List.getElem?_eq_getElem (by omega)] at g1; exact g1
  · rw [Nat.add_assoc, h.arr_cell (i * 4 + 2) (by omega)]; rw [List.getElem?_eq_getElem (by omega)] at g2; exact g2
  · rw [Nat.add_assoc, h.arr_cell (i * 4 + 3) (by omega)]; rw [List.getElem?_eq_getElem (by omega)] at g3; exact g3
theorem kept_drew {W w : World} (h : Kept W w) : Kept W w.drew := h
def ItemsPost (p : List Itm) (w : World) (e : Ending) (w' : World) : Prop := ∃ ao cap, e = .returned (.slice ao p.length cap) ∧ ItemsAt w' ao p ∧ Below w.heap.size w w'
def IRel (p : List Itm) (w : World) (g : Nat) (ov iv : Value) (wr : World) : Prop :=
  ∃ (i : Nat) (L : List ItS) (po : Option Addr) (co : Nat), i + g = p.length ∧ ov = .slice po L.length co ∧ iv = .int .i64 (i : Int) ∧ L.map (·.1) = p.take i ∧ (∀ x ∈ L, RgOk wr po x) ∧ Sat wr (arr 61 4 po L.length co (itCells L) * keep w) ∧ Ran w wr
abbrev ritV (x : Itm) (v : Value) : Obj := .cells #[.int .i64 x.kind, .int .u8 x.b.toNat, .bool x.neg, v] 61 (0, 0)
theorem ritem_cells {w : World} {ib : Nat} {x : Itm} {v : Value} (h : w.heap[ib]? = some (ritV x v)) :
    w.cell? ⟨ib, 0, none⟩ = some (.int .i64 x.kind) ∧ w.cell? ⟨ib, 1, none⟩ = some (.int .u8 x.b.toNat) ∧ w.cell? ⟨ib, 2, none⟩ = some (.bool x.neg) ∧ w.cell? ⟨ib, 3, none⟩ = some v ∧ ∀ i, w.frozen? ⟨ib, i, none⟩ = false :=
  ⟨by rw [cell_at h]; rfl, by rw [cell_at h]; rfl, by rw [cell_at h]; rfl, by rw [cell_at h]; rfl, fun i => by simp [World.frozen?, h]⟩
def IRel2 (x : Itm) (L : List ItS) (po : Option Addr) (co xb : Nat) (w w0 : World) (g : Nat) (jv : Value) (wr : World) : Prop :=
  ∃ (j : Nat) (pr : Option Addr) (cr : Nat), j + g = x.rs.length ∧ jv = .int .i64 (j : Int) ∧ Sat wr (arr 66 2 pr j cr (rgCells (x.rs.take j)) * (pts xb (ritV x (.slice pr j cr)) * (arr 61 4 po L.length co (itCells L) * keep w))) ∧ Ran w wr ∧ Kept w0 wr ∧ ∀ a, pr = some a → w0.heap.size ≤ a.block
set_option maxRecDepth 100000 in
set_option maxHeartbeats 8000000 in
theorem items_calls (p : List Itm) (ao : Option Addr) (cap : Nat) (w : World) (h : ItemsAt w ao p) (hm : p.length ≤ 100000) (hm2 : ∀ x ∈ p, x.rs.length ≤ 100000) :
    Calls Try.prog 17 #[.slice ao p.length cap] w (ItemsPost p w) := by
  have hpl := h.1
  go_enter Try.func17, Try.ntmps17
  go_wp2_with fail
  go_loopg [3, 4] (p.length) (IRel p w)
  case atStart => exact ⟨0, [], none, 0, by omega, rfl, rfl, rfl, fun x hx => by simp at hx, (Sat.start w).nil_arr _ _, Below.refl _ _⟩
  case round =>
    obtain ⟨i, L, po, co, hig, rfl, rfl, hL, hrg, HS, HR⟩ := hrel
    have hi0 : (0 : Int) ≤ i := by omega
    have hKp : Kept w wr := ⟨HR.size, HS.right.kept⟩
    by_cases hi : i < p.length
    · have hil : (i : Int) < p.length := by omega
      obtain ⟨f, rfl⟩ : ∃ f, gk = f + 1 := ⟨gk - 1, by omega⟩
      obtain ⟨pb, pof, ra, rc, rfl, hpb, b0, b1, b2, b3, hra0⟩ := h.2 i hi
      have hxm := hm2 p[i] (List.getElem_mem hi)
      obtain ⟨x, hx⟩ : ∃ x, x = p[i] := ⟨_, rfl⟩
      rw [← hx] at b0 b1 b2 b3 hra0 hxm
      have CF : ∀ w' : World, Kept w w' → w'.cell? ⟨pb, pof + i * 4, none⟩ = some (.int .i64 x.kind) ∧ w'.cell? ⟨pb, pof + i * 4 + 1, none⟩ = some (.int .u8 x.b.toNat) ∧ w'.cell? ⟨pb, pof + i * 4 + 2, none⟩ = some (.bool x.neg) := fun w' k => ⟨(k.cell hpb _).trans b0, (k.cell hpb _).trans b1, (k.cell hpb _).trans b2⟩
      have CF3 : ∀ w' : World, Kept w w' → w'.cell? ⟨pb, pof + i * 4 + 3, none⟩ = some (.slice ra x.rs.length rc) := fun w' k => (k.cell hpb _).trans b3
      have Hcf := Lib.hid CF
      have Hcf3 := Lib.hid CF3
      have htk : p.take (i + 1) = p.take i ++ [x] := by rw [List.take_succ_eq_append_getElem hi, hx]
      have Htk := Lib.hid htk
      have HL := Lib.hid hL
      have Hrg := Lib.hid hrg
      have hLi : L.length = i := by have := congrArg List.length hL; rw [List.length_map, List.length_take] at this; omega
      have HLi := Lib.hid hLi
      clear CF CF3 htk hL hrg b0 b1 b2 b3 hx hLi
      go_wp2_with fail
      refine Go.Proofs.Ytjbdpahdhlmanaa.region_plan (S := (fun w' => w'.cell? ⟨pb, pof + i * 4, none⟩ = some (.int .i64 x.kind) ∧ w'.cell? ⟨pb, pof + i * 4 + 1, none⟩ = some (.int .u8 x.b.toNat) ∧ w'.cell? ⟨pb, pof + i * 4 + 2, none⟩ = some (.bool x.neg))) [(0, true), (1, true), (2, true), (3, true), (4, true), (5, true), (6, true), (7, true), (8, true), (9, true), (10, true), (11, true), (12, true), (13, true), (14, true), (15, true), (16, false), (17, false)] (by kernel_rfl) (by kernel_rfl) (by kernel_rfl) ?_ ?_
      · ((try dsimp only); (first | done | (first | exact Hcf.out _ hKp | exact Hcf.out _ (kept_drew (hKp.trans (kept_alloc _ _))) | exact Hcf.out _ ((kept_drew hKp).trans (kept_alloc _ _)))))
      simp only [Go.Proofs.Ytjbdpahdhlmanaa.planOps, List.map_cons, List.map_nil, List.getElem?_toArray, List.getElem?_cons_zero, List.getElem?_cons_succ]
      repeat (first
        | ((refine Go.Proofs.Ytjbdpahdhlmanaa.plan_yes (v := ?_) (by rfl) ?_ ?_); rotate_left; (focus (intro w hSw; (try dsimp only at hSw); go_simp; try (with_reducible rfl))); (try simp only [Act.put, List.setIfInBounds_toArray, List.set_cons_zero, List.set_cons_succ]))
        | ((refine Go.Proofs.Ytjbdpahdhlmanaa.plan_no (by rfl) ?_); (try simp only [Act.put, List.setIfInBounds_toArray, List.set_cons_zero, List.set_cons_succ]))
        | ((refine Go.Proofs.Ytjbdpahdhlmanaa.plan_step (fun K hK => ?_)); (first | (fail) | (go_simp; (fail); (try go_wp2_with fail)) | go_simp); (refine hK.out _ _ ?_ (fun hHeld => ?_)); (focus ((try dsimp only); (first | done | (first | exact Hcf.out _ hKp | exact Hcf.out _ (kept_drew (hKp.trans (kept_alloc _ _))) | exact Hcf.out _ ((kept_drew hKp).trans (kept_alloc _ _)))))); clear hK K; (try simp only [Act.put, List.setIfInBounds_toArray, List.set_cons_zero, List.set_cons_succ])))
      refine Go.Proofs.Ytjbdpahdhlmanaa.plan_done ?_
      go_wp2_with fail
      obtain ⟨w0, hw0⟩ : ∃ w0, w0 = (wr.alloc (ritV x (.slice none 0 0))).drew := ⟨_, rfl⟩
      have S0 : Sat w0 (arr 66 2 none 0 0 [] * (pts wr.heap.size (ritV x (.slice none 0 0)) * (arr 61 4 po L.length co (itCells L) * keep w))) := by rw [hw0]; exact Sat.nil_arr (HS.alloc (ritV x (.slice none 0 0))) _ _
      have R0 : Ran w w0 := by rw [hw0]; exact Below.trans (Ran.new HR (ritV x (.slice none 0 0))) ⟨rfl, rfl, rfl, Nat.le_refl _, fun _ _ => rfl⟩
      have hxw : w.heap.size ≤ wr.heap.size := HR.size
      have KR0 : Kept wr w0 := by rw [hw0]; exact kept_alloc wr (ritV x (.slice none 0 0))
      have hz0 : w0.heap.size = wr.heap.size + 1 := by rw [hw0]; exact World.size_alloc _ _
      have hpl : ∀ a, po = some a → a.block < wr.heap.size := fun a ha => by subst ha; obtain ⟨cur, _, _, _, _, _, _, hh⟩ := HS.arr_some; exact hh.lt
      obtain ⟨W1, hW1⟩ : ∃ W1, W1 = wr := ⟨_, rfl⟩
      subst hW1
      obtain ⟨xb, hxb⟩ : ∃ xb, xb = W1.heap.size := ⟨_, rfl⟩
      rw [← hw0]
      rw [← hxb] at S0 hz0 hpl hxw ⊢
      have Hxb := Lib.hid hxb
      clear hw0 HS HR hKp hxb hz0
      have Hpl := Lib.hid hpl
      clear hpl
      go_loopg [6] (x.rs.length) (IRel2 x L po co xb w W1)
      case atStart => exact ⟨0, none, 0, by omega, rfl, S0, R0, KR0, fun a ha => by cases ha⟩
      case round =>
        obtain ⟨j, pr, cr, hjg, rfl, T, TR, TK, Tf⟩ := hrel
        have hj0 : (0 : Int) ≤ j := by omega
        have hKw : Kept w wr := ⟨TR.size, T.right.right.right.kept⟩
        have g3 := Hcf3.out _ hKw
        by_cases hj : j < x.rs.length
        · have hjl : (j : Int) < x.rs.length := by omega
          obtain ⟨rb, ro, rfl, hrb, r0, r1⟩ := hra0.2 j hj
          obtain ⟨r, hr⟩ : ∃ r, r = x.rs[j] := ⟨_, rfl⟩
          rw [← hr] at r0 r1
          obtain ⟨lo, hi2⟩ := r
          simp only at r0 r1
          have RF : ∀ w' : World, Kept w w' → w'.cell? ⟨pb, pof + i * 4 + 3, none⟩ = some (.slice (some ⟨rb, ro, none⟩) x.rs.length rc) ∧ w'.cell? ⟨rb, ro + j * 2, none⟩ = some (.int .u8 lo.toNat) ∧ w'.cell? ⟨rb, ro + j * 2 + 1, none⟩ = some (.int .u8 hi2.toNat) := fun w' k => ⟨Hcf3.out _ k, (k.cell hrb _).trans r0, (k.cell hrb _).trans r1⟩
          have Hrf := Lib.hid RF
          have htr : x.rs.take (j + 1) = x.rs.take j ++ [(lo, hi2)] := by rw [List.take_succ_eq_append_getElem hj, hr]
          have Htr := Lib.hid htr
          have hrl := hra0.1
          clear RF htr hr r0 r1
          go_wp2_with fail
          obtain ⟨x0, x1, x2, x3, xz⟩ := ritem_cells T.right.get
          have T2 := T.old (.cells #[.int .u8 lo.toNat, .int .u8 hi2.toNat] 66 (0, 0))
          obtain ⟨y0, y1, y2, y3, yz⟩ := ritem_cells T2.right.get
          have K2 := hKw.trans (kept_alloc wr (.cells #[.int .u8 lo.toNat, .int .u8 hi2.toNat] 66 (0, 0)))
          refine Go.Proofs.Ytjbdpahdhlmanaa.region_tree (S := (fun w' => w'.cell? ⟨pb, pof + i * 4 + 3, none⟩ = some (.slice (some ⟨rb, ro, none⟩) x.rs.length rc) ∧ w'.cell? ⟨rb, ro + j * 2, none⟩ = some (.int .u8 lo.toNat) ∧ w'.cell? ⟨rb, ro + j * 2 + 1, none⟩ = some (.int .u8 hi2.toNat))) (.take 0 (.take 2 (.take 3 (.take 4 (.take 5 (.take 6 (.take 7 (.take 8 (.take 9 (.take 10 (.take 11 (.take 12 (.take 13 (.take 14 (.take 15 (.take 16 (.take 17 (.take 18 (.take 19 (.take 20 (.fork 1 (.step 21 (.step 22 (.take 23 (.step 24 (.nil))))) 21 (.step 1 (.step 22 (.take 23 (.step 24 (.nil)))))))))))))))))))))))))) (by kernel_rfl) (by kernel_rfl) (by kernel_rfl) ?_ ?_
          · ((try dsimp only); (first | done | (first | exact Hrf.out _ (kept_drew hKw) | exact Hrf.out _ (kept_drew K2) | exact Hrf.out _ K2 | exact Hrf.out _ K6 | exact Hrf.out _ (kept_set K6 hxw 3 (.slice p' (j + 1) cap')))))
          simp only [Go.Proofs.Ytjbdpahdhlmanaa.Plan.ops, List.getElem?_toArray, List.getElem?_cons_zero, List.getElem?_cons_succ]
          repeat (first
            | ((refine Go.Proofs.Ytjbdpahdhlmanaa.tree_yes (v := ?_) (by rfl) ?_ ?_); rotate_left; (focus (intro w hSw; (try dsimp only at hSw); go_simp; try (with_reducible rfl))); (try simp only [Act.put, List.setIfInBounds_toArray, List.set_cons_zero, List.set_cons_succ]))
            | ((refine Go.Proofs.Ytjbdpahdhlmanaa.tree_no (by rfl) ?_); (try simp only [Act.put, List.setIfInBounds_toArray, List.set_cons_zero, List.set_cons_succ]))
            | ((refine Go.Proofs.Ytjbdpahdhlmanaa.tree_step (fun K hK => ?_)); (first | (refine stepRng rfl _ _ rfl pr j cr _ rfl _ rfl T2 (.int .u8 lo.toNat) (.int .u8 hi2.toNat) (block_new rfl) rfl rfl (by omega) ?_; intro p' cap' w6 T6 R6 M6; obtain ⟨z0, z1, z2, z3, zz⟩ := ritem_cells T6.right.get; have K6 : Kept w w6 := ⟨Nat.le_trans K2.1 R6.size, T6.right.right.right.kept⟩) | (go_simp; (refine stepRng rfl _ _ rfl pr j cr _ rfl _ rfl T2 (.int .u8 lo.toNat) (.int .u8 hi2.toNat) (block_new rfl) rfl rfl (by omega) ?_; intro p' cap' w6 T6 R6 M6; obtain ⟨z0, z1, z2, z3, zz⟩ := ritem_cells T6.right.get; have K6 : Kept w w6 := ⟨Nat.le_trans K2.1 R6.size, T6.right.right.right.kept⟩); (try go_wp2_with fail)) | go_simp); (refine hK.out _ _ ?_ (fun hHeld => ?_)); (focus ((try dsimp only); (first | done | (first | exact Hrf.out _ (kept_drew hKw) | exact Hrf.out _ (kept_drew K2) | exact Hrf.out _ K2 | exact Hrf.out _ K6 | exact Hrf.out _ (kept_set K6 hxw 3 (.slice p' (j + 1) cap')))))); clear hK K; (try simp only [Act.put, List.setIfInBounds_toArray, List.set_cons_zero, List.set_cons_succ])))
          refine Go.Proofs.Ytjbdpahdhlmanaa.tree_fork (fun K hK => ?_) (fun K hK => ?_)
          all_goals
            ((first | (refine stepRng rfl _ _ rfl pr j cr _ rfl _ rfl T2 (.int .u8 lo.toNat) (.int .u8 hi2.toNat) (block_new rfl) rfl rfl (by omega) ?_; intro p' cap' w6 T6 R6 M6; obtain ⟨z0, z1, z2, z3, zz⟩ := ritem_cells T6.right.get; have K6 : Kept w w6 := ⟨Nat.le_trans K2.1 R6.size, T6.right.right.right.kept⟩) | (go_simp; (refine stepRng rfl _ _ rfl pr j cr _ rfl _ rfl T2 (.int .u8 lo.toNat) (.int .u8 hi2.toNat) (block_new rfl) rfl rfl (by omega) ?_; intro p' cap' w6 T6 R6 M6; obtain ⟨z0, z1, z2, z3, zz⟩ := ritem_cells T6.right.get; have K6 : Kept w w6 := ⟨Nat.le_trans K2.1 R6.size, T6.right.right.right.kept⟩); (try go_wp2_with fail)) | go_simp); (refine hK.out _ _ ?_ (fun hHeld => ?_)); (focus ((try dsimp only); (first | done | (first | exact Hrf.out _ (kept_drew hKw) | exact Hrf.out _ (kept_drew K2) | exact Hrf.out _ K2 | exact Hrf.out _ K6 | exact Hrf.out _ (kept_set K6 hxw 3 (.slice p' (j + 1) cap')))))); clear hK K; (try simp only [Act.put, List.setIfInBounds_toArray, List.set_cons_zero, List.set_cons_succ]))
            repeat (first
              | ((refine Go.Proofs.Ytjbdpahdhlmanaa.tree_yes (v := ?_) (by rfl) ?_ ?_); rotate_left; (focus (intro w hSw; (try dsimp only at hSw); go_simp; try (with_reducible rfl))); (try simp only [Act.put, List.setIfInBounds_toArray, List.set_cons_zero, List.set_cons_succ]))
              | ((refine Go.Proofs.Ytjbdpahdhlmanaa.tree_no (by rfl) ?_); (try simp only [Act.put, List.setIfInBounds_toArray, List.set_cons_zero, List.set_cons_succ]))
              | ((refine Go.Proofs.Ytjbdpahdhlmanaa.tree_step (fun K hK => ?_)); (first | (refine stepRng rfl _ _ rfl pr j cr _ rfl _ rfl T2 (.int .u8 lo.toNat) (.int .u8 hi2.toNat) (block_new rfl) rfl rfl (by omega) ?_; intro p' cap' w6 T6 R6 M6; obtain ⟨z0, z1, z2, z3, zz⟩ := ritem_cells T6.right.get; have K6 : Kept w w6 := ⟨Nat.le_trans K2.1 R6.size, T6.right.right.right.kept⟩) | (go_simp; (refine stepRng rfl _ _ rfl pr j cr _ rfl _ rfl T2 (.int .u8 lo.toNat) (.int .u8 hi2.toNat) (block_new rfl) rfl rfl (by omega) ?_; intro p' cap' w6 T6 R6 M6; obtain ⟨z0, z1, z2, z3, zz⟩ := ritem_cells T6.right.get; have K6 : Kept w w6 := ⟨Nat.le_trans K2.1 R6.size, T6.right.right.right.kept⟩); (try go_wp2_with fail)) | go_simp); (refine hK.out _ _ ?_ (fun hHeld => ?_)); (focus ((try dsimp only); (first | done | (first | exact Hrf.out _ (kept_drew hKw) | exact Hrf.out _ (kept_drew K2) | exact Hrf.out _ K2 | exact Hrf.out _ K6 | exact Hrf.out _ (kept_set K6 hxw 3 (.slice p' (j + 1) cap')))))); clear hK K; (try simp only [Act.put, List.setIfInBounds_toArray, List.set_cons_zero, List.set_cons_succ])))
            refine Go.Proofs.Ytjbdpahdhlmanaa.tree_done ?_
          all_goals
            have T8 := (T6.perm (show _ = pts xb (ritV x (.slice pr j cr)) * (arr 66 2 p' (j + 1) cap' (rgCells (x.rs.take j) ++ [.int .u8 lo.toNat, .int .u8 hi2.toNat]) * (arr 61 4 po L.length co (itCells L) * keep w)) by ac_rfl)).set (i := 3) (.slice p' (j + 1) cap')
            have T9 : Sat (w6.setCell ⟨xb, 3, none⟩ (.slice p' (j + 1) cap')) (arr 66 2 p' (j + 1) cap' (rgCells (x.rs.take (j + 1))) * (pts xb (ritV x (.slice p' (j + 1) cap')) * (arr 61 4 po L.length co (itCells L) * keep w))) := by
              rw [Htr.out, rgCells_append]
              exact T8.perm (by show pts xb (ritV x (.slice p' (j + 1) cap')) * _ = _; ac_rfl)
            have R9 : Ran w (w6.setCell ⟨xb, 3, none⟩ (.slice p' (j + 1) cap')) := Ran.set (Below.trans (show Ran w (wr.alloc (.cells #[.int .u8 lo.toNat, .int .u8 hi2.toNat] 66 (0, 0))).drew from Below.trans (Ran.new TR (.cells #[.int .u8 lo.toNat, .int .u8 hi2.toNat] 66 (0, 0))) ⟨rfl, rfl, rfl, Nat.le_refl _, fun _ _ => rfl⟩) R6) _ _
            have hTz : W1.heap.size ≤ wr.heap.size := TK.1
            have hsa : (wr.alloc (.cells #[.int .u8 lo.toNat, .int .u8 hi2.toNat] 66 (0, 0))).heap.size = wr.heap.size + 1 := World.size_alloc _ _
            have hTs : wr.heap.size + 1 ≤ w6.heap.size := by have h := R6.size; rw [← hsa]; exact h
            have K9 : Kept W1 (w6.setCell ⟨xb, 3, none⟩ (.slice p' (j + 1) cap')) := kept_set ⟨by omega, fun k hk => (M6.1 k (by show k < (wr.alloc _).heap.size; omega) (fun a ha => by have := Tf a ha; omega)).trans (((kept_alloc wr (.cells #[.int .u8 lo.toNat, .int .u8 hi2.toNat] 66 (0, 0))).2 k (by omega)).trans (TK.2 k hk))⟩ (Nat.le_of_eq Hxb.out.symm) 3 _
            have F9 : ∀ a, p' = some a → W1.heap.size ≤ a.block := fun a' ha => by
              rcases M6.2 a' ha with ⟨a, h1, h2⟩ | h2
              · rw [h2]; exact Tf a h1
              · have h3 : (wr.alloc (.cells #[.int .u8 lo.toNat, .int .u8 hi2.toNat] 66 (0, 0))).heap.size ≤ a'.block := h2
                omega
            clear T6 T8 R6 M6 T T2
            go_wp2_with fail
            go_roundg (gk - 1)
            case measure => omega
            case rel => exact ⟨j + 1, p', cap', by omega, by go_num, T9, R9, K9, F9⟩
        · have hje : j = x.rs.length := by omega
          subst hje
          rw [List.take_length] at T
          have hjg2 : ¬ ((x.rs.length : Int) < x.rs.length) := by omega
          obtain ⟨x0, x1, x2, x3, xz⟩ := ritem_cells T.right.get
          have HRA := rgAt_arrR T
          have HSA := T.perm (show _ = arr 61 4 po L.length co (itCells L) * (arr 66 2 pr x.rs.length cr (rgCells x.rs) * (pts xb (ritV x (.slice pr x.rs.length cr)) * keep w)) by ac_rfl)
          have HSB := HSA.old (.cells #[.int .i64 x.kind, .int .u8 x.b.toNat, .bool x.neg, .slice pr x.rs.length cr] 61 (0, 0))
          have K6 := TK.trans (kept_alloc wr (.cells #[.int .i64 x.kind, .int .u8 x.b.toNat, .bool x.neg, .slice pr x.rs.length cr] 61 (0, 0)))
          have R6 := Ran.new TR (.cells #[.int .i64 x.kind, .int .u8 x.b.toNat, .bool x.neg, .slice pr x.rs.length cr] 61 (0, 0))
          have hprl : ∀ a, pr = some a → a.block < wr.heap.size := fun a ha => by subst ha; obtain ⟨cur, _, _, _, _, _, _, hh⟩ := T.arr_some; exact hh.lt
          have hfr : x.rs ≠ [] → ∀ a a', pr = some a → po = some a' → a.block ≠ a'.block := fun _ a a' e1 e2 => by have h1 := Tf a e1; have h2 := Hpl.out a' e2; have h3 := Hxb.out; omega
          have hnew : RgOk wr po (x, pr, cr) := ⟨HRA, hfr⟩
          have Hnew := Lib.hid (hnew.keep (kept_alloc wr (.cells #[.int .i64 x.kind, .int .u8 x.b.toNat, .bool x.neg, .slice pr x.rs.length cr] 61 (0, 0))))
          have hLi := HLi.out
          clear hnew hfr hprl HRA HSA T
          go_wp2_with (at_builtin; go_loud (refine appRit rfl _ _ rfl po L.length co _ rfl _ rfl HSB (x, pr, cr) (by rw [block_new (by first | (simp; done) | simp [World.setCell])]; rfl) (by omega) ?_; intro p' cap' w6 HS7 HR7 HM7; clear HSB))
          go_roundg f
          case measure => omega
          case rel =>
            refine ⟨i + 1, L ++ [(x, pr, cr)], p', cap', by omega, by first | (simp; done) | (simp; omega), by go_num, ?_, ?_, ?_, R6.trans HR7⟩
            · rw [List.map_append, HL.out, Htk.out]; rfl
            · intro y hy
              rcases List.mem_append.1 hy with hy | hy
              · exact ((Hrg.out y hy).keep K6).moved HM7 HR7.size
              · simp only [List.mem_singleton] at hy
                subst hy
                exact Hnew.out.moved HM7 HR7.size
            · rw [itCells_snoc, List.length_append, List.length_singleton]
              exact (HS7.perm (show _ = arr 66 2 pr x.rs.length cr (rgCells x.rs) * (pts xb (ritV x (.slice pr x.rs.length cr)) * (arr 61 4 p' (L.length + 1) cap' (itCells L ++ itCell (x, pr, cr)) * keep w)) by ac_rfl)).right.right
    · have hge : ¬ ((i : Int) < p.length) := by omega
      have hfin : L.map (·.1) = p := by rw [hL, List.take_of_length_le (by omega)]
      have hlen : L.length = p.length := by rw [← hfin, List.length_map]
      have hI := itemsAt_arrR HS fun x hx => (hrg x hx).1
      rw [hfin] at hI
      clear hfin hL hrg h hKp
      go_wp2_with fail
      go_ret
      exact ⟨po, co, by first | rfl | (show Ending.returned (.slice po L.length co) = .returned (.slice po p.length co); rw [hlen]), hI, HR.whole HS⟩
end Go.Proofs.Ytjbdpahdhlmanaa.Globs
