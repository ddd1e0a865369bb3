/- The law's 'Text', the document's 'Plain', walked; marked texts that came in, opened. -/
import Derived.ChangeSame
import Derived.Test.YtlpfcnpdecoblaaDoorMkA
import Derived.Test.YtlpfcnpdecoblaaDoorArrs
namespace Go.Proofs.YtlpfcnpdecoblaaDoor.Marks
open Go.ChangeShapes Go.WideShapes Go.ChangeAt Go.RowKit Go.Proofs.YtlpfcnpdecoblaaDoor Go.Proofs.YtlpfcnpdecoblaaDoor.Hp
set_option linter.unusedVariables false

theorem infoRCh : (Tryd.prog.info? 66).map (fun i => (i.zero, i.size, i.bytes)) = some (some (.agg #[.int .u8 0, .bool false]), 2, 2) := by kernel_rfl
theorem stepRCh {w : World} {H : Hp} {ops : Array Oper} {o : Oper} {a : Act} {K : Act → World → Prop} {Q : Exit → Act → World → Prop} {E : Prop} (hgd : o.guard = none) (s x : Operand)
    (ho : o.op = .call { callee := .builtin .append, args := #[s, x], argTypes := #[27, 27] })
    (p : Option Addr) (n cap : Nat) (xs : List Value) (hp : a.eval s = .slice p n cap) (b : Nat) (hvx : a.eval x = .slice (some ⟨b, 0, none⟩) 1 1) (h : Sat w (arr 66 2 p n cap xs * H)) (v0 v1 : Value) (hb : w.heap[b]? = some (.cells #[v0, v1] 66 (0, 0))) (h0 : v0.oneCell' = true) (h1 : v1.oneCell' = true) (hn : n ≤ 1000000000)
    (hk : ∀ p' cap' w', Sat w' (arr 66 2 p' (n + 1) cap' (xs ++ [v0, v1]) * H) → Ran w w' → Moved w w' p p' → K (a.put o.dst (.slice p' (n + 1) cap')) w') :
    if Region.wanted o (yielded ops a.tmps) = true then Oper.wp Tryd.prog o a w K Q else E := by
  obtain ⟨i0, hi, hz0, hz1, hz2⟩ := info_parts infoRCh
  rw [if_pos (by simp [Region.wanted, hgd])]
  refine wp_append_arr2 s x _ _ ho 66 i0 _ 2 2 Tryd.underlying27 hi hz0 hz1 hz2 rfl p n cap xs hp h _ hvx 1 [v0, v1] (Src.ofSlice w Tryd.underlying27 ⟨b, 0, none⟩ 1 1 [v0, v1] (by rw [hz1]; rfl) ?_ (by simp [h0, h1])) (by omega) (by unfold maxLen; omega) hk
  intro j u hj
  rw [Addr.add_lit, Nat.zero_add, cell_at hb, ← hj]
  simp
theorem charsAt_arrR {w : World} {H : Hp} {p : Option Addr} {cap : Nat} {l : List Ch} (h : Sat w (arr 66 2 p l.length cap (chCells l) * H)) : CharsAt w p cap l := by
  obtain ⟨h1, h2, h3⟩ := h.arr_len
  refine ⟨h2, by unfold maxLen at h3; omega, fun j hj => ?_⟩
  obtain ⟨b, o, rfl⟩ := h.arr_addr (by omega)
  obtain ⟨g0, g1⟩ := chCells_get l j hj
  have hl := chCells_length l
  refine ⟨b, o, rfl, ?_, ?_, ?_⟩
  · obtain ⟨cur, _, _, _, _, _, _, h'⟩ := h.arr_some; exact h'.lt
  · rw [h.arr_cell (j * 2) (by omega)]; rw [List.getElem?_eq_getElem (by omega)] at g0; exact g0
  · rw [Nat.add_assoc, h.arr_cell (j * 2 + 1) (by omega)]; rw [List.getElem?_eq_getElem (by omega)] at g1; exact g1
def TxRel (t : List Ch) (w : World) (g : Nat) (ov iv : Value) (wr : World) : Prop :=
  ∃ (i : Nat) (po : Option Addr) (co : Nat), i + g = t.length ∧ ov = .slice po i co ∧ iv = .int .i64 (i : Int) ∧ Sat wr (arr 66 2 po i co (chCells (t.take i)) * keep w) ∧ Ran w wr
set_option maxRecDepth 100000 in
set_option maxHeartbeats 2000000 in
theorem text_calls (t : List Ch) (ao : Option Addr) (cap : Nat) (w : World) (h : CharsAt w ao cap t) (hm : t.length ≤ 100000) :
    Calls Tryd.prog 14 #[.slice ao t.length cap] w (CharsPost t w) := by
  obtain ⟨hl1, hl2, hx⟩ := h
  go_enter Tryd.func14, Tryd.ntmps14
  go_wp2_with fail
  go_loopg [3, 4] (t.length) (TxRel t w)
  case atStart => exact ⟨0, none, 0, by omega, rfl, rfl, (Sat.start w).nil_arr _ _, Below.refl _ _⟩
  case round =>
    obtain ⟨i, po, co, hig, rfl, rfl, HS, HR⟩ := hrel
    have hi0 : (0 : Int) ≤ i := by omega
    have hKp : Kept w wr := ⟨HR.size, HS.right.kept⟩
    by_cases hi : i < t.length
    · have hil : (i : Int) < t.length := by omega
      obtain ⟨tb, o, rfl, htb, c0, c1⟩ := hx i hi
      obtain ⟨c, hc⟩ : ∃ c, c = t[i] := ⟨_, rfl⟩
      rw [← hc] at c0 c1
      have htk : t.take (i + 1) = t.take i ++ [c] := by rw [List.take_succ_eq_append_getElem hi, hc]
      obtain ⟨cb, cq⟩ := c
      simp only at c0 c1
      have CF : ∀ w' : World, Kept w w' → w'.cell? ⟨tb, o + i * 2, none⟩ = some (.int .u8 cb.toNat) ∧ w'.cell? ⟨tb, o + i * 2 + 1, none⟩ = some (.bool cq) := fun w' k => ⟨(k.cell htb _).trans c0, (k.cell htb _).trans c1⟩
      have Hcf := Lib.hid CF
      have Htk := Lib.hid htk
      have hi9 : i ≤ 1000000000 := by omega
      have Hig := Lib.hid hig
      have T2 := HS.old (.cells #[.int .u8 cb.toNat, .bool cq] 66 (0, 0))
      have R2 := Ran.new HR (.cells #[.int .u8 cb.toNat, .bool cq] 66 (0, 0))
      have K2 := hKp.trans (kept_alloc wr (.cells #[.int .u8 cb.toNat, .bool cq] 66 (0, 0)))
      clear CF htk hc c0 c1 hig hx HS HR
      go_wp2_with fail
      refine Go.Proofs.YtlpfcnpdecoblaaDoor.region_plan (S := (fun w' => w'.cell? ⟨tb, o + i * 2, none⟩ = some (.int .u8 cb.toNat) ∧ w'.cell? ⟨tb, o + i * 2 + 1, none⟩ = some (.bool cq))) [(0, true), (1, true), (2, true), (3, true), (4, true), (5, true), (6, true), (7, true), (8, true), (9, true), (10, true), (11, true), (12, false), (13, false), (14, true)] (by kernel_rfl) (by kernel_rfl) (by kernel_rfl) ?_ ?_
      · ((try dsimp only); (first | done | (first | exact Hcf.out _ (kept_drew hKp) | exact Hcf.out _ (kept_drew K2) | exact Hcf.out _ K2 | exact Hcf.out _ K6)))
      simp only [Go.Proofs.YtlpfcnpdecoblaaDoor.planOps, List.map_cons, List.map_nil, List.getElem?_toArray, List.getElem?_cons_zero, List.getElem?_cons_succ]
      repeat (first
        | ((refine Go.Proofs.YtlpfcnpdecoblaaDoor.plan_yes (v := ?_) (by rfl) ?_ ?_); rotate_left; (focus (intro w hSw; (try dsimp only at hSw); go_simp; try (with_reducible rfl))); (try simp only [Act.put, List.setIfInBounds_toArray, List.set_cons_zero, List.set_cons_succ]))
        | ((refine Go.Proofs.YtlpfcnpdecoblaaDoor.plan_no (by rfl) ?_); (try simp only [Act.put, List.setIfInBounds_toArray, List.set_cons_zero, List.set_cons_succ]))
        | ((refine Go.Proofs.YtlpfcnpdecoblaaDoor.plan_step (fun K hK => ?_)); (first | (refine stepRCh rfl _ _ rfl po i co _ rfl _ rfl T2 (.int .u8 cb.toNat) (.bool cq) (block_new rfl) rfl rfl hi9 ?_; intro p' cap' w6 T6 R6 M6; have K6 : Kept w w6 := ⟨Nat.le_trans K2.1 R6.size, T6.right.kept⟩) | (go_simp; (refine stepRCh rfl _ _ rfl po i co _ rfl _ rfl T2 (.int .u8 cb.toNat) (.bool cq) (block_new rfl) rfl rfl hi9 ?_; intro p' cap' w6 T6 R6 M6; have K6 : Kept w w6 := ⟨Nat.le_trans K2.1 R6.size, T6.right.kept⟩); (try go_wp2_with fail)) | go_simp); (refine hK.out _ _ ?_ (fun hHeld => ?_)); (focus ((try dsimp only); (first | done | (first | exact Hcf.out _ (kept_drew hKp) | exact Hcf.out _ (kept_drew K2) | exact Hcf.out _ K2 | exact Hcf.out _ K6)))); clear hK K; (try simp only [Act.put, List.setIfInBounds_toArray, List.set_cons_zero, List.set_cons_succ])))
      refine Go.Proofs.YtlpfcnpdecoblaaDoor.plan_done ?_
      go_wp2_with fail
      go_roundg (gk - 1)
      case measure => have := Hig.out; omega
      case rel => exact ⟨i + 1, p', cap', by have := Hig.out; omega, rfl, by go_num, by rw [Htk.out, chCells_snoc]; exact T6, Below.trans (Below.drew R2) R6⟩
    · have hge : ¬ ((i : Int) < t.length) := by omega
      obtain rfl : i = t.length := by omega
      rw [List.take_length] at HS
      have hC := charsAt_arrR HS
      clear hx hig hKp
      go_wp2_with fail
      go_ret
      exact ⟨po, co, rfl, hC, HR.whole HS⟩
theorem appU8 {w : World} {H : Hp} {ops : Array Oper} {rest : List Oper} {o : Oper} {a : Act} {Q : Exit → Act → World → Prop} (hgd : o.guard = none) (s x : Operand)
    (ho : o.op = .call { callee := .builtin .append, args := #[s, x], argTypes := #[68, 68] })
    (p : Option Addr) (n cap : Nat) (xs : List Value) (hp : a.eval s = .slice p n cap) (b : Nat) (hvx : a.eval x = .slice (some ⟨b, 0, none⟩) 1 1) (h : Sat w (arr 5 1 p n cap xs * H)) (v : Value) (hb : w.heap[b]? = some (.cells #[v] 5 (0, 0))) (h0 : v.oneCell' = true) (hn : n ≤ 1000000000)
    (hk : ∀ p' cap' w', Sat w' (arr 5 1 p' (n + 1) cap' (xs ++ [v]) * H) → Ran w w' → Moved w w' p p' → wpList Tryd.prog ops Q rest (a.put o.dst (.slice p' (n + 1) cap')) w') : wpList Tryd.prog ops Q (o :: rest) a w := by
  obtain ⟨i0, hi, hz0, hz1, hz2⟩ := info_parts infoU8
  refine wpList_append_arr2 hgd s x _ _ ho 5 i0 _ 1 1 Tryd.underlying68 hi hz0 hz1 hz2 rfl p n cap xs hp h _ hvx 1 [v] (Src.ofSlice w Tryd.underlying68 ⟨b, 0, none⟩ 1 1 [v] (by rw [hz1]; rfl) ?_ (by simp [h0])) (by omega) (by unfold maxLen; omega) hk
  intro j u hj
  rw [Addr.add_lit, Nat.zero_add, cell_at hb, ← hj]
  simp
def byCells (l : List Ch) : List Value := l.map fun c => .int .u8 c.b.toNat
def PnRel (t : List Ch) (w : World) (g : Nat) (ov iv : Value) (wr : World) : Prop :=
  ∃ (i : Nat) (po : Option Addr) (co : Nat), i + g = t.length ∧ ov = .slice po i co ∧ iv = .int .i64 (i : Int) ∧ Sat wr (arr 5 1 po i co (byCells (t.take i)) * keep w) ∧ Ran w wr
set_option maxRecDepth 100000 in
set_option maxHeartbeats 2000000 in
theorem rplain_calls (t : List Ch) (ao : Option Addr) (cap : Nat) (w : World) (h : CharsAt w ao cap t) (hm : t.length ≤ 100000) :
    Calls Tryd.prog 33 #[.slice ao t.length cap] w (PlainPost t w) := by
  obtain ⟨hl1, hl2, hx⟩ := h
  go_enter Tryd.func33, Tryd.ntmps33
  go_wp2_with fail
  go_loopg [3, 4] (t.length) (PnRel t w)
  case atStart => exact ⟨0, none, 0, by omega, rfl, rfl, (Sat.start w).nil_arr _ _, Below.refl _ _⟩
  case round =>
    obtain ⟨i, po, co, hig, rfl, rfl, HS, HR⟩ := hrel
    have hi0 : (0 : Int) ≤ i := by omega
    have hKp : Kept w wr := ⟨HR.size, HS.right.kept⟩
    by_cases hi : i < t.length
    · have hil : (i : Int) < t.length := by omega
      obtain ⟨tb, o, rfl, htb, c0, c1⟩ := hx i hi
      obtain ⟨c, hc⟩ : ∃ c, c = t[i] := ⟨_, rfl⟩
      rw [← hc] at c0 c1
      have htk : t.take (i + 1) = t.take i ++ [c] := by rw [List.take_succ_eq_append_getElem hi, hc]
      obtain ⟨cb, cq⟩ := c
      simp only at c0 c1
      have k0 := (hKp.cell htb _).trans c0
      have hi9 : i ≤ 1000000000 := by omega
      have Htk := Lib.hid htk
      have Hig := Lib.hid hig
      have T2 := HS.old (.cells #[.int .u8 cb.toNat] 5 (0, 0))
      have R2 := Ran.new HR (.cells #[.int .u8 cb.toNat] 5 (0, 0))
      clear htk hc c0 c1 hig hx HS HR
      go_wp2_with (at_builtin; go_loud (refine appU8 rfl _ _ rfl po i co _ rfl _ rfl T2 _ (block_new rfl) rfl hi9 ?_; intro p' cap' w6 T6 R6 M6; clear T2))
      go_roundg (gk - 1)
      case measure => have := Hig.out; omega
      case rel => exact ⟨i + 1, p', cap', by have := Hig.out; omega, rfl, by go_num, by rw [Htk.out]; unfold byCells at T6 ⊢; rw [List.map_append]; exact T6, Below.trans R2 R6⟩
    · have hge : ¬ ((i : Int) < t.length) := by omega
      obtain rfl : i = t.length := by omega
      rw [List.take_length] at HS
      have hcv : (convert 68 9 (.slice po t.length co)).run Tryd.prog wr = .ok (.string ⟨(t.map (·.b)).toArray⟩) wr := by
        cases po with
        | none =>
          obtain ⟨h1, h2, h3⟩ := HS.arr_none
          have ht0 : t = [] := List.length_eq_zero_iff.1 h1
          subst ht0
          exact run_convert_bytes_nil wr 68 5 Tryd.underlying68 Tryd.underlying5 _ _ _ Tryd.underlying9
        | some pa =>
          obtain ⟨b, o, sp⟩ := pa
          obtain ⟨cur, hsp, _⟩ := HS.arr_some
          simp only at hsp
          subst hsp
          have := run_convert_bytes_back (P := Tryd.prog) wr 68 9 5 ⟨b, o, none⟩ co (t.map (·.b)) Tryd.underlying68 Tryd.underlying5 Tryd.underlying9 (fun j hj => by
            rw [List.length_map] at hj
            rw [Addr.add_lit, HS.arr_cell j (by unfold byCells; rw [List.length_map]; exact hj)]
            simp [byCells])
          rw [List.length_map] at this
          exact this
      clear hx hig hKp
      go_wp2_with fail
      go_ret
      exact ⟨rfl, HR.whole HS⟩
theorem cellsCh : Tryd.prog.cellsOf 37 = 2 := by kernel_rfl
section
variable {H : Type} {enc : TypeId × Value → H} {W : World} {base : Nat} {spare : Nat → Bool} {held : Bool}
set_option maxRecDepth 100000 in
theorem chars_open {r : Reach} {b0 : Nat} {v : Value} {d : DataW H} {p : List MemPlace} (hv : Value.okWide Tryd.prog W r b0 22 v)
    (h : DataW.Trod enc Tryd.prog W base spare held 22 v d p) : ∃ ao l cap, v = .slice ao (List.length l) cap ∧ CharsAt W ao cap l := by
  obtain ⟨ao, len, cap, rfl⟩ := okWide_slice Tryd.underlying22 hv
  obtain ⟨fuel, hf⟩ := h
  rcases Deep.open_slice Tryd.underlying22 hf with ⟨hcs, _⟩ | ⟨a, len', cap', m, n, D, Pl, hcs, _, hl, hcap, hm, _, hx⟩
  · simp [Value.cells] at hcs
    obtain ⟨rfl, rfl, rfl⟩ := hcs
    exact ⟨none, [], 0, rfl, by simp, by simp, fun i hi => by simp at hi⟩
  · simp [Value.cells] at hcs
    obtain ⟨rfl, rfl, rfl⟩ := hcs
    have hlm : len ≤ m := by rw [hm]; split <;> omega
    have key : ∀ i, i < len → ∃ z : Ch, W.cell? ((a.add (i * 2)).add 0) = some (.int .u8 z.b.toNat) ∧ W.cell? ((a.add (i * 2)).add 1) = some (.bool z.q) := fun i hi => by
      obtain ⟨cs, hc, ht⟩ := hx i (by omega)
      rw [cellsCh] at hc
      obtain ⟨_, hlen, hat⟩ := World.cells?_some hc
      match cs, hlen, ht with
      | [c0, c1], _, ht =>
        obtain ⟨y0, y1, m2, _, _, h0, h1⟩ := Go.ChangeShapes.trod_struct2 Tryd.underlying37 ht
        simp only [cellsU8, cellsBool, List.drop_zero, List.drop_succ_cons, List.take_succ_cons, List.take_zero] at h0 h1
        obtain ⟨a1, rfl, _, w1⟩ := trod_int1 Tryd.underlying5 h0
        obtain ⟨b1, rfl⟩ := u8_of w1
        obtain ⟨b2, e2, _⟩ := DataW.trod_bool Tryd.underlying4 h1
        simp at e2; subst e2
        exact ⟨⟨b1, b2⟩, hat 0 (by omega), hat 1 (by omega)⟩
    obtain ⟨f, hfx⟩ := Deep.choose_lt key
    have e : ∀ i (h : i < ((List.range len).map f).length), ((List.range len).map f)[i] = f i := fun i h => by simp
    refine ⟨some a, (List.range len).map f, cap, by simp, by simp; omega, by unfold maxLen at hcap; omega, fun i hi => ?_⟩
    have hi' : i < len := by simpa using hi
    obtain ⟨b, o, s⟩ := a
    have hs : s = none := by
      have h00 := (hfx 0 (by omega)).1
      simp [Addr.add] at h00
      simpa using World.cell?_spot h00
    subst hs
    obtain ⟨h0, h1⟩ := hfx i hi'
    rw [e i hi]
    simp only [Addr.add_lit] at h0 h1
    exact ⟨b, o, rfl, World.block_lt_of_cell? W _ h0, h0, h1⟩
end
end Go.Proofs.YtlpfcnpdecoblaaDoor.Marks
