/- HandlesPlays, part 8 of 26: the texts GlK, joined by a program. -/
import Derived.Test.YtndjgeohkfenfaaGreatDoorPq7
namespace Go.Proofs.YtndjgeohkfenfaaGreatDoor.Globs
open Go.RowKit Go.Proofs.YtndjgeohkfenfaaGreatDoor Go.Proofs.YtndjgeohkfenfaaGreatDoor.Hp
set_option linter.unusedVariables false

/-- Items with the slices of their ranges. -/
abbrev ItS := Itm × Option Addr × Nat
def itCell (x : ItS) : List Value := [.int .i64 x.1.kind, .int .u8 x.1.b.toNat, .bool x.1.neg, .slice x.2.1 x.1.rs.length x.2.2]
def itCells (l : List ItS) : List Value := l.flatMap itCell
theorem itCells_length (l : List ItS) : (itCells l).length = l.length * 4 := by
  unfold itCells
  induction l with
  | nil => rfl
  | cons c l ih => simp only [List.flatMap_cons, List.length_append, List.length_cons, ih, itCell, List.length_nil]; omega
theorem itCells_snoc (l : List ItS) (x : ItS) : itCells (l ++ [x]) = itCells l ++ itCell x := by unfold itCells; simp
theorem itCells_get (l : List ItS) (i : Nat) (h : i < l.length) : (itCells l)[i * 4]? = some (.int .i64 l[i].1.kind) ∧ (itCells l)[i * 4 + 1]? = some (.int .u8 l[i].1.b.toNat) ∧ (itCells l)[i * 4 + 2]? = some (.bool l[i].1.neg) ∧ (itCells l)[i * 4 + 3]? = some (.slice l[i].2.1 l[i].1.rs.length l[i].2.2) := by
  induction l generalizing i with
  | nil => simp at h
  | cons c l ih =>
    cases i with
    | zero => exact ⟨rfl, rfl, rfl, rfl⟩
    | succ i =>
      have := ih i (by simpa using h)
      rw [show (i + 1) * 4 = i * 4 + 4 by omega]
      exact this
theorem infoIt : (Tryz.prog.info? 118).map (fun i => (i.zero, i.size, i.bytes)) = some (some (.agg #[.int .i64 0, .int .u8 0, .bool false, .slice none 0 0]), 4, 40) := by kernel_rfl
/-- Ranges that lie apart from a slice. -/
def RgOk (w : World) (p : Option Addr) (x : ItS) : Prop := RgAt w x.2.1 x.1.rs ∧ (x.1.rs ≠ [] → ∀ a a', x.2.1 = some a → p = some a' → a.block ≠ a'.block)
theorem rgAt_lt {w : World} {a : Addr} {rs : List Rg} (h : RgAt w (some a) rs) (hn : rs ≠ []) : a.block < w.heap.size := by
  cases rs with
  | nil => exact absurd rfl hn
  | cons x l => obtain ⟨b, o, e, hb, _⟩ := h.2 0 (by simp); simp only [Option.some.injEq] at e; subst e; exact hb
theorem RgOk.keep {W w : World} {p : Option Addr} {x : ItS} (h : RgOk W p x) (k : Kept W w) : RgOk w p x := ⟨h.1.keep k, h.2⟩
theorem RgOk.moved {W w : World} {p p' : Option Addr} {x : ItS} (h : RgOk W p x) (m : Moved W w p p') (hz : W.heap.size ≤ w.heap.size) : RgOk w p' x := by
  refine ⟨⟨h.1.1, fun j hj => ?_⟩, fun hn a a' e1 e2 => ?_⟩
  · have hn : x.1.rs ≠ [] := by intro e; rw [e] at hj; simp at hj
    obtain ⟨b, o, e, hb, h0, h1⟩ := h.1.2 j hj
    have hk : w.heap[b]? = W.heap[b]? := m.1 b hb fun a ha => h.2 hn ⟨b, o, none⟩ a e ha
    have hc : ∀ i, w.cell? ⟨b, i, none⟩ = W.cell? ⟨b, i, none⟩ := fun i => World.cell?_of_block (w := W) hk
    exact ⟨b, o, e, Nat.lt_of_lt_of_le hb hz, by rw [hc]; exact h0, by rw [hc]; exact h1⟩
  · have hl := rgAt_lt (by rw [← e1]; exact h.1) hn
    rcases m.2 a' e2 with ⟨a0, h0, h1⟩ | h1
    · rw [h1]; exact h.2 hn a a0 e1 h0
    · omega
theorem kept_set {W w : World} (h : Kept W w) {b : Nat} (hb : W.heap.size ≤ b) (i : Nat) (v : Value) : Kept W (w.setCell ⟨b, i, none⟩ v) :=
  ⟨by simpa [World.setCell] using h.1, fun k hk => (Below.heap_setCell w ⟨b, i, none⟩ v k (by show k ≠ b; omega)).trans (h.2 k hk)⟩
theorem itemsAt_arr {w : World} {R : Hp} {p : Option Addr} {cap : Nat} {l : List ItS} (h : Sat w (arr 118 4 p l.length cap (itCells l) * R)) (hr : ∀ x ∈ l, RgAt w x.2.1 x.1.rs) : ItemsAt w p (l.map (·.1)) := by
  obtain ⟨h1, h2, h3⟩ := h.arr_len
  refine ⟨by rw [List.length_map]; unfold maxLen at h3; omega, fun i hi => ?_⟩
  rw [List.length_map] at hi
  obtain ⟨b, o, rfl⟩ := h.arr_addr (by omega)
  obtain ⟨g0, g1, g2, g3⟩ := itCells_get l i hi
  have hl := itCells_length l
  have hx := hr l[i] (List.getElem_mem hi)
  simp only [List.getElem_map]
  refine ⟨b, o, l[i].2.1, l[i].2.2, rfl, ?_, ?_, ?_, ?_, ?_, hx⟩
  · obtain ⟨cur, _, _, _, _, _, _, h'⟩ := h.arr_some; exact h'.lt
  · rw [h.arr_cell (i * 4) (by omega)]; rw [List.getElem?_eq_getElem (by omega)] at g0; exact g0
  · rw [Nat.add_assoc, h.arr_cell (i * 4 + 1) (by omega)]; rw [List.getElem?_eq_getElem (by omega)] at g1; exact g1
  · rw [Nat.add_assoc, h.arr_cell (i * 4 + 2) (by omega)]; rw [List.getElem?_eq_getElem (by omega)] at g2; exact g2
  · rw [Nat.add_assoc, h.arr_cell (i * 4 + 3) (by omega)]; rw [List.getElem?_eq_getElem (by omega)] at g3; exact g3
theorem appIt {w : World} {R : Hp} {ops : Array Oper} {rest : List Oper} {o : Oper} {a : Act} {Q : Exit → Act → World → Prop} (hgd : o.guard = none) (s x : Operand)
    (ho : o.op = .call { callee := .builtin .append, args := #[s, x], argTypes := #[68, 68] })
    (p : Option Addr) (n cap : Nat) (xs : List Value) (hp : a.eval s = .slice p n cap) (b : Nat) (hvx : a.eval x = .slice (some ⟨b, 0, none⟩) 1 1) (h : Sat w (arr 118 4 p n cap xs * R)) (v : ItS) (hb : w.heap[b]? = some (.cells (itCell v).toArray 118 (0, 0))) (hn : n ≤ 1000000000)
    (hk : ∀ p' cap' w', Sat w' (arr 118 4 p' (n + 1) cap' (xs ++ itCell v) * R) → Ran w w' → Moved w w' p p' → wpList Tryz.prog ops Q rest (a.put o.dst (.slice p' (n + 1) cap')) w') : wpList Tryz.prog ops Q (o :: rest) a w := by
  obtain ⟨i0, hi, hz0, hz1, hz2⟩ := info_parts infoIt
  refine wpList_append_arr2 hgd s x _ _ ho 118 i0 _ 4 40 Tryz.underlying68 hi hz0 hz1 hz2 rfl p n cap xs hp h _ hvx 1 (itCell v) (Src.ofSlice w Tryz.underlying68 ⟨b, 0, none⟩ 1 1 (itCell v) (by rw [hz1]; rfl) ?_ (by unfold itCell; simp; exact ⟨rfl, rfl, rfl, rfl⟩)) (by omega) (by unfold maxLen; omega) hk
  intro j u hj
  rw [Addr.add_lit, Nat.zero_add, cell_at hb, ← hj]
  simp
def CompPost (t : List Ch) (path : Bool) (w : World) (e : Ending) (w' : World) : Prop := ∃ ao cap, e = .returned (.slice ao (compileL t path).length cap) ∧ ItemsAt w' ao (compileL t path) ∧ Below w.heap.size w w'
def CRel (t : List Ch) (path : Bool) (w : World) (g : Nat) (tv ov : Value) (wr : World) : Prop :=
  ∃ (u : List Ch) (ua : Option Addr) (ucap : Nat) (L : List ItS) (p : Option Addr) (cap : Nat), tv = .slice ua u.length ucap ∧ ov = .slice p L.length cap ∧ CharsAt w ua ucap u ∧ u.length ≤ g ∧ L.length + u.length ≤ t.length ∧ compileL t path = compF path g u (L.map (·.1)) ∧
    (∀ x ∈ L, RgOk wr p x) ∧ Sat wr (arr 118 4 p L.length cap (itCells L) * keep w) ∧ Ran w wr
theorem addI_no {out : List Itm} {x : Itm} (h : x.kind ≠ 3) : addI out x = out ++ [x] := by unfold addI; rw [if_neg (fun hh => h hh.1)]
theorem group_at (u : List Ch) (path : Bool) (ua : Option Addr) (ucap : Nat) (w : World) (h : CharsAt w ua ucap u) (hl : 1 ≤ u.length) (hm : u.length ≤ 100000) :
    Calls Tryz.prog 58 #[.slice (tailA ua 1 ucap 2) (u.length - 1) (ucap - 1), .bool path] w (GroupPost (u.drop 1) path w) := by
  have := group_calls (u.drop 1) path (tailA ua 1 ucap 2) (ucap - 1) w (h.tail 1 hl) (by rw [List.length_drop]; omega)
  rwa [List.length_drop] at this
theorem rgAt_set {w : World} {ra : Option Addr} {rs : List Rg} (h : RgAt w ra rs) {b : Nat} (hne : ∀ a, ra = some a → a.block ≠ b) (i : Nat) (v : Value) : RgAt (w.setCell ⟨b, i, none⟩ v) ra rs :=
  ⟨h.1, fun j hj => by
    obtain ⟨c, o, e, hb, h0, h1⟩ := h.2 j hj
    have hk : (w.setCell ⟨b, i, none⟩ v).heap[c]? = w.heap[c]? := Below.heap_setCell w ⟨b, i, none⟩ v c (hne _ e)
    have hc : ∀ i', (w.setCell ⟨b, i, none⟩ v).cell? ⟨c, i', none⟩ = w.cell? ⟨c, i', none⟩ := fun i' => World.cell?_of_block (w := w) hk
    exact ⟨c, o, e, by simpa [World.setCell] using hb, by rw [hc]; exact h0, by rw [hc]; exact h1⟩⟩
theorem block_new {w : World} {o : Obj} {b : Nat} (h : w.heap.size = b) : (w.alloc o).heap[b]? = some o := by subst h; exact heap_alloc_new w o
set_option maxRecDepth 100000 in
set_option maxHeartbeats 16000000 in
theorem compile_calls (t : List Ch) (path : Bool) (ao : Option Addr) (cap0 : Nat) (w : World) (h : CharsAt w ao cap0 t) (hm : t.length ≤ 100000) :
    Calls Tryz.prog 32 #[.slice ao t.length cap0, .bool path] w (CompPost t path w) := by
  go_enter Tryz.func32, Tryz.ntmps32
  go_wp2_with fail
  go_loopg [0, 5] (t.length) (CRel t path w)
  case atStart => exact ⟨t, ao, cap0, [], none, 0, rfl, rfl, h, Nat.le_refl _, by simp, rfl, fun x hx => by simp at hx, (Sat.start w).nil_arr _ _, Below.refl _ _⟩
  case round =>
    clear h
    obtain ⟨u, ua, ucap, L, p, cap, rfl, rfl, hu, hug, hLt, hcomp, hrg, HS, HR⟩ := hrel
    have hK : Kept w wr := ⟨HR.size, HS.right.kept⟩
    have hU := hu.keep hK
    by_cases hl : 0 < u.length
    · have hl' : (0 : Int) < u.length := by omega
      obtain ⟨f, rfl⟩ : ∃ f, gk = f + 1 := ⟨gk - 1, by omega⟩
      have hcomp2 : compileL t path = compF path f (u.drop (itemL u path).2) (addI (L.map (·.1)) (itemL u path).1) := by
        rw [hcomp]; show (if u = [] then _ else _) = _; rw [if_neg (by rintro rfl; simp at hl)]
      obtain ⟨tb, tof, rfl, htb, c0, c1⟩ := hU.2.2 0 hl
      have hg0 : u.getD 0 default = u[0] := by rw [List.getD_eq_getElem?_getD, List.getElem?_eq_getElem hl]; rfl
      obtain ⟨c, hc⟩ : ∃ c, c = u[0] := ⟨_, rfl⟩
      rw [← hc] at hg0 c0 c1
      simp only [Nat.zero_mul, Nat.add_zero] at c0 c1
      obtain ⟨a, q⟩ := c
      simp only at c0 c1
      have S1 := HS.alloc (itemO 1 a false (.slice none 0 0))
      have R1 := Ran.new HR (itemO 1 a false (.slice none 0 0))
      have K1 := kept_alloc wr (itemO 1 a false (.slice none 0 0))
      have hba := a.toNat_lt
      have hn := itemL_n path hl
      have Hcomp := Lib.hid hcomp2
      have Hg0 := Lib.hid hg0
      have Hrg := Lib.hid hrg
      have hul : u.length ≤ ucap := hu.1
      have hum : (u.length : Int) ≤ 100000 := by omega
      have c1' : (wr.alloc (itemO 1 a false (.slice none 0 0))).cell? ⟨tb, tof + 1, none⟩ = some (.bool q) := (K1.cell htb _).trans c1
      have hsl : ∀ n, n ≤ u.length → ∀ W, (Instr.slice 22 (.slice (some ⟨tb, tof, none⟩) u.length ucap) (some (.int .i64 (n : Int))) none none).run Tryz.prog W = .ok (.slice (tailA (some ⟨tb, tof, none⟩) n ucap 2) (u.length - n) (ucap - n)) W := fun n hn W => slice_from _ u.length ucap n hn W
      have Hsl := Lib.hid hsl
      clear hcomp hcomp2 hg0 hrg hsl hc
      have g63 := u8_lit a 63 (by omega)
      have g42 := u8_lit a 42 (by omega)
      have g92 := u8_lit a 92 (by omega)
      have g91 := u8_lit a 91 (by omega)
      rw [show ((63 : Nat) : Int) = 63 from rfl] at g63
      rw [show ((42 : Nat) : Int) = 42 from rfl] at g42
      rw [show ((92 : Nat) : Int) = 92 from rfl] at g92
      rw [show ((91 : Nat) : Int) = 91 from rfl] at g91
      cases q
      · by_cases h63 : a = 63
        · have hit : itemL u path = (⟨2, 0, false, []⟩, 1) := by unfold itemL; rw [Hg0.out, h63]; rfl
          have HIt := Lib.hid hit
          have f63 : ((a.toNat : Int) == 63) = true := by rw [g63]; simpa using h63
          clear hit h63 g63 g42 g92 g91
          have S5 := HS.alloc (.cells #[.int .i64 2, .int .u8 0, .bool false, .slice none 0 0] 118)
          have R5 := Ran.new HR (.cells #[.int .i64 2, .int .u8 0, .bool false, .slice none 0 0] 118)
          have K5 := kept_alloc wr (.cells #[.int .i64 2, .int .u8 0, .bool false, .slice none 0 0] 118)
          have hs1 : ∀ W, (Instr.slice 22 (.slice (some ⟨tb, tof, none⟩) u.length ucap) (some (.int .i64 1)) none none).run Tryz.prog W = .ok (.slice (tailA (some ⟨tb, tof, none⟩) 1 ucap 2) (u.length - 1) (ucap - 1)) W := fun W => Hsl.out 1 (by omega) W
          have HSA : Sat _ (arr 118 4 p L.length cap (itCells L) * (pts wr.heap.size (itemO 2 0 false (.slice none ([] : List Rg).length 0)) * keep w)) := S5.perm (by show pts wr.heap.size (itemO 2 0 false (.slice none ([] : List Rg).length 0)) * _ = _; ac_rfl)
          have HSB := HSA.old (.cells #[.int .i64 2, .int .u8 0, .bool false, .slice none 0 0] 118)
          have K6 := K5.trans (kept_alloc _ (.cells #[.int .i64 2, .int .u8 0, .bool false, .slice none 0 0] 118))
          have R6 := Ran.new R5 (.cells #[.int .i64 2, .int .u8 0, .bool false, .slice none 0 0] 118)
          clear S5 R5 K5 HSA
          have Hnew : Hid (∀ W, RgOk W p (⟨2, 0, false, ([] : List Rg)⟩, none, 0)) := Lib.hid fun W => ⟨rgAt_nil _ _, fun h => absurd rfl h⟩
          have hx3 : addI (L.map (·.1)) ⟨2, 0, false, ([] : List Rg)⟩ = L.map (·.1) ++ [⟨2, 0, false, ([] : List Rg)⟩] := addI_no (show (2 : Int) ≠ 3 by decide)
          have Hx3 := Lib.hid hx3
          clear hx3 HS
          go_wp2_with (at_builtin; go_loud (refine appIt rfl _ _ rfl p L.length cap _ rfl _ rfl HSB (⟨2, 0, false, ([] : List Rg)⟩, none, 0) (by rw [block_new (by first | (simp; done) | simp [World.setCell])]; rfl) (by omega) ?_; intro p' cap' w6 HS7 HR7 HM7; clear HSB))
          go_roundg f
          case measure => omega
          case rel =>
            refine ⟨u.drop 1, tailA (some ⟨tb, tof, none⟩) 1 ucap 2, ucap - 1, L ++ [(⟨2, 0, false, ([] : List Rg)⟩, none, 0)], p', cap', by rw [List.length_drop], by simp, hu.tail 1 (by omega), by rw [List.length_drop]; omega, by rw [List.length_drop, List.length_append, List.length_singleton]; omega, ?_, ?_, ?_, R6.trans HR7⟩
            · rw [Hcomp.out, HIt.out, List.map_append, Hx3.out]; rfl
            · intro x hx
              rcases List.mem_append.1 hx with hx | hx
              · exact ((Hrg.out x hx).keep K6).moved HM7 HR7.size
              · simp only [List.mem_singleton] at hx
                subst hx
                exact (Hnew.out _).moved HM7 HR7.size
            · rw [itCells_snoc, List.length_append, List.length_singleton]
              exact (HS7.perm (show _ = pts wr.heap.size (itemO 2 0 false (.slice none ([] : List Rg).length 0)) * (arr 118 4 p' (L.length + 1) cap' (itCells L ++ itCell (⟨2, 0, false, ([] : List Rg)⟩, none, 0)) * keep w) by ac_rfl)).right
        have f63 : ((a.toNat : Int) == 63) = false := by rw [g63]; simpa using h63
        by_cases h42 : a = 42
        · have hit : itemL u path = (⟨3, 0, false, []⟩, 1) := by unfold itemL; rw [Hg0.out, h42]; rfl
          have HIt := Lib.hid hit
          have f42 : ((a.toNat : Int) == 42) = true := by rw [g42]; simpa using h42
          clear hit h63 h42 g63 g42 g92 g91
          have S5 := HS.alloc (.cells #[.int .i64 3, .int .u8 0, .bool false, .slice none 0 0] 118)
          have R5 := Ran.new HR (.cells #[.int .i64 3, .int .u8 0, .bool false, .slice none 0 0] 118)
          have K5 := kept_alloc wr (.cells #[.int .i64 3, .int .u8 0, .bool false, .slice none 0 0] 118)
          by_cases hL0 : L = []
          · subst hL0
            have HAdd : Hid (addI (([] : List ItS).map (·.1)) ⟨3, 0, false, ([] : List Rg)⟩ = ([] : List ItS).map (·.1) ++ [⟨3, 0, false, ([] : List Rg)⟩]) := Lib.hid rfl
            have hs1 : ∀ W, (Instr.slice 22 (.slice (some ⟨tb, tof, none⟩) u.length ucap) (some (.int .i64 1)) none none).run Tryz.prog W = .ok (.slice (tailA (some ⟨tb, tof, none⟩) 1 ucap 2) (u.length - 1) (ucap - 1)) W := fun W => Hsl.out 1 (by omega) W
            have HSA : Sat _ (arr 118 4 p ([] : List ItS).length cap (itCells []) * (pts wr.heap.size (itemO 3 0 false (.slice none ([] : List Rg).length 0)) * keep w)) := S5.perm (by show pts wr.heap.size (itemO 3 0 false (.slice none ([] : List Rg).length 0)) * _ = _; ac_rfl)
            have HSB := HSA.old (.cells #[.int .i64 3, .int .u8 0, .bool false, .slice none 0 0] 118)
            have K6 := K5.trans (kept_alloc _ (.cells #[.int .i64 3, .int .u8 0, .bool false, .slice none 0 0] 118))
            have R6 := Ran.new R5 (.cells #[.int .i64 3, .int .u8 0, .bool false, .slice none 0 0] 118)
            clear S5 R5 K5 HSA
            have Hnew : Hid (∀ W, RgOk W p (⟨3, 0, false, ([] : List Rg)⟩, none, 0)) := Lib.hid fun W => ⟨rgAt_nil _ _, fun h => absurd rfl h⟩
            have hx3 : addI (([] : List ItS).map (·.1)) ⟨3, 0, false, ([] : List Rg)⟩ = ([] : List ItS).map (·.1) ++ [⟨3, 0, false, ([] : List Rg)⟩] := HAdd.out
            have Hx3 := Lib.hid hx3
            clear hx3 HS
            go_wp2_with (at_builtin; go_loud (refine appIt rfl _ _ rfl p ([] : List ItS).length cap _ rfl _ rfl HSB (⟨3, 0, false, ([] : List Rg)⟩, none, 0) (by rw [block_new (by first | (simp; done) | simp [World.setCell])]; rfl) (by omega) ?_; intro p' cap' w6 HS7 HR7 HM7; clear HSB))
            go_roundg f
            case measure => omega
            case rel =>
              refine ⟨u.drop 1, tailA (some ⟨tb, tof, none⟩) 1 ucap 2, ucap - 1, [] ++ [(⟨3, 0, false, ([] : List Rg)⟩, none, 0)], p', cap', by rw [List.length_drop], by simp, hu.tail 1 (by omega), by rw [List.length_drop]; omega, by rw [List.length_drop, List.length_append, List.length_singleton]; omega, ?_, ?_, ?_, R6.trans HR7⟩
              · rw [Hcomp.out, HIt.out, List.map_append, Hx3.out]; rfl
              · intro x hx
                rcases List.mem_append.1 hx with hx | hx
                · exact ((Hrg.out x hx).keep K6).moved HM7 HR7.size
                · simp only [List.mem_singleton] at hx
                  subst hx
                  exact (Hnew.out _).moved HM7 HR7.size
              · rw [itCells_snoc, List.length_append, List.length_singleton]
                exact (HS7.perm (show _ = pts wr.heap.size (itemO 3 0 false (.slice none ([] : List Rg).length 0)) * (arr 118 4 p' (([] : List ItS).length + 1) cap' (itCells [] ++ itCell (⟨3, 0, false, ([] : List Rg)⟩, none, 0)) * keep w) by ac_rfl)).right
          · have hLp : 0 < L.length := List.length_pos_iff.2 hL0
            obtain ⟨pb, po, rfl⟩ := HS.arr_addr (by have := HS.arr_len; omega)
            obtain ⟨y, hy⟩ : ∃ y, y = L[L.length - 1] := ⟨_, rfl⟩
            have hpc : ∀ o : Obj, (wr.alloc o).cell? ⟨pb, po + (L.length - 1) * 4, none⟩ = some (.int .i64 y.1.kind) := fun o => by
              have g0 := (itCells_get L (L.length - 1) (by omega)).1
              have hll := itCells_length L
              rw [(HS.old o).arr_cell ((L.length - 1) * 4) (by omega)]
              rw [List.getElem?_eq_getElem (by omega)] at g0
              rw [g0, hy]
            have hsl : starLast (L.map (·.1)) = (y.1.kind == 3) := by
              unfold starLast
              rw [List.getLast?_eq_getElem?, List.length_map, List.getElem?_map, List.getElem?_eq_getElem (by omega), ← hy]; rfl
            have hp0 : (0 : Int) < L.length := by omega
            have hp1 : (1 : Int) ≤ L.length := by omega
            have hp2 : (0 : Int) ≤ (L.length : Int) - 1 := by omega
            have hp3 : (L.length : Int) - 1 < L.length := by omega
            have hp4 : ((L.length : Int) - 1).toNat = L.length - 1 := by omega
            have hpc1 := hpc (.cells #[.int .i64 3, .int .u8 0, .bool false, .slice none 0 0] 118)
            have Hy := Lib.hid hy
            clear hpc hy hL0
            by_cases hy3 : y.1.kind = 3
            · have hyb : (y.1.kind == 3) = true := by rw [beq_iff_eq]; exact hy3
              have HAdd : Hid (addI (L.map (·.1)) ⟨3, 0, false, []⟩ = L.map (·.1)) := Lib.hid (by unfold addI; rw [if_pos ⟨rfl, hsl.trans hyb⟩])
              have hs1 : ∀ W, (Instr.slice 22 (.slice (some ⟨tb, tof, none⟩) u.length ucap) (some (.int .i64 1)) none none).run Tryz.prog W = .ok (.slice (tailA (some ⟨tb, tof, none⟩) 1 ucap 2) (u.length - 1) (ucap - 1)) W := fun W => Hsl.out 1 (by omega) W
              clear hy3 hsl HS
              go_wp2_with fail
              go_roundg f
              case measure => omega
              case rel =>
                exact ⟨u.drop 1, tailA (some ⟨tb, tof, none⟩) 1 ucap 2, ucap - 1, L, some ⟨pb, po, none⟩, cap, by rw [List.length_drop], rfl, hu.tail 1 (by omega), by rw [List.length_drop]; omega, by rw [List.length_drop]; omega, by rw [Hcomp.out, HIt.out, HAdd.out], fun x hx => (Hrg.out x hx).keep K5, S5.right, R5⟩
            · have hyb : (y.1.kind == 3) = false := by rw [beq_eq_false_iff_ne]; exact hy3
              have HAdd : Hid (addI (L.map (·.1)) ⟨3, 0, false, ([] : List Rg)⟩ = L.map (·.1) ++ [⟨3, 0, false, ([] : List Rg)⟩]) := Lib.hid (by unfold addI; rw [if_neg (fun hh => by rw [hsl, hyb] at hh; exact absurd hh.2 (by simp))])
              clear hy3 hsl
              have hs1 : ∀ W, (Instr.slice 22 (.slice (some ⟨tb, tof, none⟩) u.length ucap) (some (.int .i64 1)) none none).run Tryz.prog W = .ok (.slice (tailA (some ⟨tb, tof, none⟩) 1 ucap 2) (u.length - 1) (ucap - 1)) W := fun W => Hsl.out 1 (by omega) W
              have HSA : Sat _ (arr 118 4 (some ⟨pb, po, none⟩) L.length cap (itCells L) * (pts wr.heap.size (itemO 3 0 false (.slice none ([] : List Rg).length 0)) * keep w)) := S5.perm (by show pts wr.heap.size (itemO 3 0 false (.slice none ([] : List Rg).length 0)) * _ = _; ac_rfl)
              have HSB := HSA.old (.cells #[.int .i64 3, .int .u8 0, .bool false, .slice none 0 0] 118)
              have K6 := K5.trans (kept_alloc _ (.cells #[.int .i64 3, .int .u8 0, .bool false, .slice none 0 0] 118))
              have R6 := Ran.new R5 (.cells #[.int .i64 3, .int .u8 0, .bool false, .slice none 0 0] 118)
              clear S5 R5 K5 HSA
              have Hnew : Hid (∀ W, RgOk W (some ⟨pb, po, none⟩) (⟨3, 0, false, ([] : List Rg)⟩, none, 0)) := Lib.hid fun W => ⟨rgAt_nil _ _, fun h => absurd rfl h⟩
              have hx3 : addI (L.map (·.1)) ⟨3, 0, false, ([] : List Rg)⟩ = L.map (·.1) ++ [⟨3, 0, false, ([] : List Rg)⟩] := HAdd.out
              have Hx3 := Lib.hid hx3
              clear hx3 HS
              go_wp2_with (at_builtin; go_loud (refine appIt rfl _ _ rfl (some ⟨pb, po, none⟩) L.length cap _ rfl _ rfl HSB (⟨3, 0, false, ([] : List Rg)⟩, none, 0) (by rw [block_new (by first | (simp; done) | simp [World.setCell])]; rfl) (by omega) ?_; intro p' cap' w6 HS7 HR7 HM7; clear HSB))
              go_roundg f
              case measure => omega
              case rel =>
                refine ⟨u.drop 1, tailA (some ⟨tb, tof, none⟩) 1 ucap 2, ucap - 1, L ++ [(⟨3, 0, false, ([] : List Rg)⟩, none, 0)], p', cap', by rw [List.length_drop], by simp, hu.tail 1 (by omega), by rw [List.length_drop]; omega, by rw [List.length_drop, List.length_append, List.length_singleton]; omega, ?_, ?_, ?_, R6.trans HR7⟩
                · rw [Hcomp.out, HIt.out, List.map_append, Hx3.out]; rfl
                · intro x hx
                  rcases List.mem_append.1 hx with hx | hx
                  · exact ((Hrg.out x hx).keep K6).moved HM7 HR7.size
                  · simp only [List.mem_singleton] at hx
                    subst hx
                    exact (Hnew.out _).moved HM7 HR7.size
                · rw [itCells_snoc, List.length_append, List.length_singleton]
                  exact (HS7.perm (show _ = pts wr.heap.size (itemO 3 0 false (.slice none ([] : List Rg).length 0)) * (arr 118 4 p' (L.length + 1) cap' (itCells L ++ itCell (⟨3, 0, false, ([] : List Rg)⟩, none, 0)) * keep w) by ac_rfl)).right
        have f42 : ((a.toNat : Int) == 42) = false := by rw [g42]; simpa using h42
        by_cases h92 : a = 92 ∧ 1 < u.length
        · obtain ⟨h92, hl1⟩ := h92
          obtain ⟨tb', tof', e', _, d0, d1⟩ := hU.2.2 1 hl1
          simp only [Option.some.injEq, Addr.mk.injEq, and_true] at e'
          obtain ⟨rfl, rfl⟩ := e'
          obtain ⟨d, hd⟩ : ∃ d, d = u[1] := ⟨_, rfl⟩
          rw [← hd] at d0 d1
          simp only [Nat.one_mul] at d0 d1
          obtain ⟨b, q2⟩ := d
          simp only at d0
          have hit : itemL u path = (⟨1, b, false, []⟩, 2) := by
            unfold itemL
            rw [Hg0.out, if_neg (by simp), if_neg h63, if_neg h42, if_pos ⟨h92, hl1⟩, List.getD_eq_getElem?_getD, List.getElem?_eq_getElem hl1, ← hd]; rfl
          have HIt := Lib.hid hit
          have f92 : ((a.toNat : Int) == 92) = true := by rw [g92]; simpa using h92
          have hl1' : (1 : Int) < u.length := by omega
          have d0' : (wr.alloc (itemO 1 a false (.slice none 0 0))).cell? ⟨tb, tof + 2, none⟩ = some (.int .u8 b.toNat) := (K1.cell htb _).trans d0
          clear hit h63 h42 h92 g63 g42 g92 g91 hd
          have S5 := HS.alloc (.cells #[.int .i64 1, .int .u8 b.toNat, .bool false, .slice none 0 0] 118)
          have R5 := Ran.new HR (.cells #[.int .i64 1, .int .u8 b.toNat, .bool false, .slice none 0 0] 118)
          have K5 := kept_alloc wr (.cells #[.int .i64 1, .int .u8 b.toNat, .bool false, .slice none 0 0] 118)
          have hs1 : ∀ W, (Instr.slice 22 (.slice (some ⟨tb, tof, none⟩) u.length ucap) (some (.int .i64 2)) none none).run Tryz.prog W = .ok (.slice (tailA (some ⟨tb, tof, none⟩) 2 ucap 2) (u.length - 2) (ucap - 2)) W := fun W => Hsl.out 2 (by omega) W
          have HSA : Sat _ (arr 118 4 p L.length cap (itCells L) * (pts wr.heap.size (itemO 1 b false (.slice none ([] : List Rg).length 0)) * keep w)) := S5.perm (by show pts wr.heap.size (itemO 1 b false (.slice none ([] : List Rg).length 0)) * _ = _; ac_rfl)
          have HSB := HSA.old (.cells #[.int .i64 1, .int .u8 b.toNat, .bool false, .slice none 0 0] 118)
          have K6 := K5.trans (kept_alloc _ (.cells #[.int .i64 1, .int .u8 b.toNat, .bool false, .slice none 0 0] 118))
          have R6 := Ran.new R5 (.cells #[.int .i64 1, .int .u8 b.toNat, .bool false, .slice none 0 0] 118)
          clear S5 R5 K5 HSA
          have Hnew : Hid (∀ W, RgOk W p (⟨1, b, false, ([] : List Rg)⟩, none, 0)) := Lib.hid fun W => ⟨rgAt_nil _ _, fun h => absurd rfl h⟩
          have hx3 : addI (L.map (·.1)) ⟨1, b, false, ([] : List Rg)⟩ = L.map (·.1) ++ [⟨1, b, false, ([] : List Rg)⟩] := addI_no (show (1 : Int) ≠ 3 by decide)
          have Hx3 := Lib.hid hx3
          clear hx3 HS
          go_wp2_with (at_builtin; go_loud (refine appIt rfl _ _ rfl p L.length cap _ rfl _ rfl HSB (⟨1, b, false, ([] : List Rg)⟩, none, 0) (by rw [block_new (by first | (simp; done) | simp [World.setCell])]; rfl) (by omega) ?_; intro p' cap' w6 HS7 HR7 HM7; clear HSB))
          go_roundg f
          case measure => omega
          case rel =>
            refine ⟨u.drop 2, tailA (some ⟨tb, tof, none⟩) 2 ucap 2, ucap - 2, L ++ [(⟨1, b, false, ([] : List Rg)⟩, none, 0)], p', cap', by rw [List.length_drop], by simp, hu.tail 2 (by omega), by rw [List.length_drop]; omega, by rw [List.length_drop, List.length_append, List.length_singleton]; omega, ?_, ?_, ?_, R6.trans HR7⟩
            · rw [Hcomp.out, HIt.out, List.map_append, Hx3.out]; rfl
            · intro x hx
              rcases List.mem_append.1 hx with hx | hx
              · exact ((Hrg.out x hx).keep K6).moved HM7 HR7.size
              · simp only [List.mem_singleton] at hx
                subst hx
                exact (Hnew.out _).moved HM7 HR7.size
            · rw [itCells_snoc, List.length_append, List.length_singleton]
              exact (HS7.perm (show _ = pts wr.heap.size (itemO 1 b false (.slice none ([] : List Rg).length 0)) * (arr 118 4 p' (L.length + 1) cap' (itCells L ++ itCell (⟨1, b, false, ([] : List Rg)⟩, none, 0)) * keep w) by ac_rfl)).right
        by_cases h91 : a = 91
        · have f91 : ((a.toNat : Int) == 91) = true := by rw [g91]; simpa using h91
          have f92 : ((a.toNat : Int) == 92) = false := by rw [g92, h91]; rfl
          have hpre : itemL u path = (match groupL (u.drop 1) path with | some (g, k) => (g, k + 1) | none => (⟨1, a, false, []⟩, 1)) := by
            unfold itemL
            rw [Hg0.out, if_neg (by simp), if_neg h63, if_neg h42, if_neg h92, if_pos h91]
            rfl
          have Hpre := Lib.hid hpre
          have hs10 : ∀ W, (Instr.slice 22 (.slice (some ⟨tb, tof, none⟩) u.length ucap) (some (.int .i64 1)) none none).run Tryz.prog W = .ok (.slice (tailA (some ⟨tb, tof, none⟩) 1 ucap 2) (u.length - 1) (ucap - 1)) W := fun W => Hsl.out 1 (by omega) W
          have HGr := Lib.hid (group_at u path (some ⟨tb, tof, none⟩) ucap _ (hU.keep K1) hl (by omega))
          clear hpre h63 h42 h92 h91 g63 g42 g92 g91
          go_wp2_with fail
          refine HGr.out.mono ?_
          rintro e w3 ⟨⟨g, k, ra, rc, hg, rfl, hrg3, hfr⟩ | ⟨hg, rfl⟩, hb3⟩
          · have hgk : 0 < k ∧ k ≤ (u.drop 1).length ∧ ∃ rs, g = ⟨4, 0, bareL (u.drop 1) [33], rs⟩ := by
              unfold groupL at hg
              cases hgr : groupR (u.drop 1) path with
              | none => rw [hgr] at hg; cases hg
              | some x =>
                rw [hgr] at hg
                simp only [Option.map_some, Option.some.injEq, Prod.mk.injEq] at hg
                have := groupF_le hgr
                exact ⟨by omega, by omega, x.1, hg.1.symm⟩
            obtain ⟨hk0, hkl, rs, rfl⟩ := hgk
            rw [List.length_drop] at hkl
            have HIt : Hid (itemL u path = (⟨4, 0, bareL (u.drop 1) [33], rs⟩, k + 1)) := Lib.hid (by rw [Hpre.out, hg])
            have hk0' : (0 : Int) < k := by omega
            simp only at hrg3
            obtain ⟨ng, hng⟩ : ∃ ng, ng = bareL (u.drop 1) [33] := ⟨_, rfl⟩
            simp only [← hng]
            rw [← hng] at HIt
            have S3 := (S1.below hb3).old (.cells #[.int .i64 4, .int .u8 0, .bool ng, .slice ra rs.length rc] 118)
            have R3 := Ran.new (Ran.below R1 hb3) (.cells #[.int .i64 4, .int .u8 0, .bool ng, .slice ra rs.length rc] 118)
            have K3 := (K1.trans (Kept.below hb3)).trans (kept_alloc w3 (.cells #[.int .i64 4, .int .u8 0, .bool ng, .slice ra rs.length rc] 118))
            obtain ⟨i0, i1, i2, i3, ifz⟩ := item_cells S3.get
            have hsz3 := hb3.size
            simp only [World.size_alloc] at hsz3 hfr
            have S5 := (((S3.set (i := 0) (.int .i64 4)).set (i := 1) (.int .u8 0)).set (i := 2) (.bool ng)).set (i := 3) (.slice ra rs.length rc)
            have R5 := Ran.set (Ran.set (Ran.set (Ran.set R3 ⟨wr.heap.size, 0, none⟩ (.int .i64 4)) ⟨wr.heap.size, 1, none⟩ (.int .u8 0)) ⟨wr.heap.size, 2, none⟩ (.bool ng)) ⟨wr.heap.size, 3, none⟩ (.slice ra rs.length rc)
            have K5 := kept_set (kept_set (kept_set (kept_set K3 (Nat.le_refl _) 0 (.int .i64 4)) (Nat.le_refl _) 1 (.int .u8 0)) (Nat.le_refl _) 2 (.bool ng)) (Nat.le_refl _) 3 (.slice ra rs.length rc)
            have hne : ∀ a, ra = some a → a.block ≠ wr.heap.size := fun a ha => by have := hfr a ha; omega
            have hrg5 := rgAt_set (rgAt_set (rgAt_set (rgAt_set (hrg3.keep (kept_alloc w3 (.cells #[.int .i64 4, .int .u8 0, .bool ng, .slice ra rs.length rc] 118))) hne 0 (.int .i64 4)) hne 1 (.int .u8 0)) hne 2 (.bool ng)) hne 3 (.slice ra rs.length rc)
            have hpl : ∀ a', p = some a' → a'.block < wr.heap.size := fun a' ha => by subst ha; obtain ⟨cur, _, _, _, _, _, _, hh⟩ := HS.arr_some; exact hh.lt
            clear hg hng S3 R3 K3 hrg3 hs10 hb3
            have hs1 : ∀ W, (Instr.slice 22 (.slice (some ⟨tb, tof, none⟩) u.length ucap) (some (.int .i64 ((k : Int) + 1))) none none).run Tryz.prog W = .ok (.slice (tailA (some ⟨tb, tof, none⟩) (k + 1) ucap 2) (u.length - (k + 1)) (ucap - (k + 1))) W := fun W => Hsl.out (k + 1) (by omega) W
            have HSA : Sat _ (arr 118 4 p L.length cap (itCells L) * (pts wr.heap.size (itemO 4 0 ng (.slice ra rs.length rc)) * keep w)) := S5.perm (by show pts wr.heap.size (itemO 4 0 ng (.slice ra rs.length rc)) * _ = _; ac_rfl)
            have HSB := HSA.old (.cells #[.int .i64 4, .int .u8 0, .bool ng, .slice ra rs.length rc] 118)
            have K6 := K5.trans (kept_alloc _ (.cells #[.int .i64 4, .int .u8 0, .bool ng, .slice ra rs.length rc] 118))
            have R6 := Ran.new R5 (.cells #[.int .i64 4, .int .u8 0, .bool ng, .slice ra rs.length rc] 118)
            clear S5 R5 K5 HSA
            have hnew : RgOk _ p (⟨4, 0, ng, rs⟩, ra, rc) := ⟨hrg5, fun _ a a' e1 e2 => by have := hfr a e1; have := hpl a' e2; omega⟩
            have Hnew := Lib.hid (hnew.keep (kept_alloc _ (.cells #[.int .i64 4, .int .u8 0, .bool ng, .slice ra rs.length rc] 118)))
            clear hnew
            have hx3 : addI (L.map (·.1)) ⟨4, 0, ng, rs⟩ = L.map (·.1) ++ [⟨4, 0, ng, rs⟩] := addI_no (show (4 : Int) ≠ 3 by decide)
            have Hx3 := Lib.hid hx3
            clear hx3 HS
            go_wp2_with (at_builtin; go_loud (refine appIt rfl _ _ rfl p L.length cap _ rfl _ rfl HSB (⟨4, 0, ng, rs⟩, ra, rc) (by rw [block_new (by first | (simp; done) | simp [World.setCell])]; rfl) (by omega) ?_; intro p' cap' w6 HS7 HR7 HM7; clear HSB))
            go_roundg f
            case measure => omega
            case rel =>
              refine ⟨u.drop (k + 1), tailA (some ⟨tb, tof, none⟩) (k + 1) ucap 2, ucap - (k + 1), L ++ [(⟨4, 0, ng, rs⟩, ra, rc)], p', cap', by rw [List.length_drop], by simp, hu.tail (k + 1) (by omega), by rw [List.length_drop]; omega, by rw [List.length_drop, List.length_append, List.length_singleton]; omega, ?_, ?_, ?_, R6.trans HR7⟩
              · rw [Hcomp.out, HIt.out, List.map_append, Hx3.out]; rfl
              · intro x hx
                rcases List.mem_append.1 hx with hx | hx
                · exact ((Hrg.out x hx).keep K6).moved HM7 HR7.size
                · simp only [List.mem_singleton] at hx
                  subst hx
                  exact Hnew.out.moved HM7 HR7.size
              · rw [itCells_snoc, List.length_append, List.length_singleton]
                exact (HS7.perm (show _ = pts wr.heap.size (itemO 4 0 ng (.slice ra rs.length rc)) * (arr 118 4 p' (L.length + 1) cap' (itCells L ++ itCell (⟨4, 0, ng, rs⟩, ra, rc)) * keep w) by ac_rfl)).right
          · have HIt : Hid (itemL u path = (⟨1, a, false, []⟩, 1)) := Lib.hid (by rw [Hpre.out, hg])
            have S5 := (S1.below hb3).old (.cells #[.int .i64 0, .int .u8 0, .bool false, .slice none 0 0] 118)
            have R5 := Ran.new (Ran.below R1 hb3) (.cells #[.int .i64 0, .int .u8 0, .bool false, .slice none 0 0] 118)
            have K5 := (K1.trans (Kept.below hb3)).trans (kept_alloc w3 (.cells #[.int .i64 0, .int .u8 0, .bool false, .slice none 0 0] 118))
            obtain ⟨i0, i1, i2, i3, ifz⟩ := item_cells S5.get
            have hsz3 := hb3.size
            simp only [World.size_alloc] at hsz3
            unfold zeroItem
            clear hg hs10 hb3
            have hs1 : ∀ W, (Instr.slice 22 (.slice (some ⟨tb, tof, none⟩) u.length ucap) (some (.int .i64 1)) none none).run Tryz.prog W = .ok (.slice (tailA (some ⟨tb, tof, none⟩) 1 ucap 2) (u.length - 1) (ucap - 1)) W := fun W => Hsl.out 1 (by omega) W
            have HSA : Sat _ (arr 118 4 p L.length cap (itCells L) * (pts wr.heap.size (itemO 1 a false (.slice none ([] : List Rg).length 0)) * keep w)) := S5.perm (by show pts wr.heap.size (itemO 1 a false (.slice none ([] : List Rg).length 0)) * _ = _; ac_rfl)
            have HSB := HSA.old (.cells #[.int .i64 1, .int .u8 a.toNat, .bool false, .slice none 0 0] 118)
            have K6 := K5.trans (kept_alloc _ (.cells #[.int .i64 1, .int .u8 a.toNat, .bool false, .slice none 0 0] 118))
            have R6 := Ran.new R5 (.cells #[.int .i64 1, .int .u8 a.toNat, .bool false, .slice none 0 0] 118)
            clear S5 R5 K5 HSA
            have Hnew : Hid (∀ W, RgOk W p (⟨1, a, false, ([] : List Rg)⟩, none, 0)) := Lib.hid fun W => ⟨rgAt_nil _ _, fun h => absurd rfl h⟩
            have hx3 : addI (L.map (·.1)) ⟨1, a, false, ([] : List Rg)⟩ = L.map (·.1) ++ [⟨1, a, false, ([] : List Rg)⟩] := addI_no (show (1 : Int) ≠ 3 by decide)
            have Hx3 := Lib.hid hx3
            clear hx3 HS
            go_wp2_with (at_builtin; go_loud (refine appIt rfl _ _ rfl p L.length cap _ rfl _ rfl HSB (⟨1, a, false, ([] : List Rg)⟩, none, 0) (by rw [block_new (by first | (simp; done) | simp [World.setCell])]; rfl) (by omega) ?_; intro p' cap' w6 HS7 HR7 HM7; clear HSB))
            go_roundg f
            case measure => omega
            case rel =>
              refine ⟨u.drop 1, tailA (some ⟨tb, tof, none⟩) 1 ucap 2, ucap - 1, L ++ [(⟨1, a, false, ([] : List Rg)⟩, none, 0)], p', cap', by rw [List.length_drop], by simp, hu.tail 1 (by omega), by rw [List.length_drop]; omega, by rw [List.length_drop, List.length_append, List.length_singleton]; omega, ?_, ?_, ?_, R6.trans HR7⟩
              · rw [Hcomp.out, HIt.out, List.map_append, Hx3.out]; rfl
              · intro x hx
                rcases List.mem_append.1 hx with hx | hx
                · exact ((Hrg.out x hx).keep K6).moved HM7 HR7.size
                · simp only [List.mem_singleton] at hx
                  subst hx
                  exact (Hnew.out _).moved HM7 HR7.size
              · rw [itCells_snoc, List.length_append, List.length_singleton]
                exact (HS7.perm (show _ = pts wr.heap.size (itemO 1 a false (.slice none ([] : List Rg).length 0)) * (arr 118 4 p' (L.length + 1) cap' (itCells L ++ itCell (⟨1, a, false, ([] : List Rg)⟩, none, 0)) * keep w) by ac_rfl)).right
        have hit : itemL u path = (⟨1, a, false, []⟩, 1) := by
          unfold itemL
          rw [Hg0.out, if_neg (by simp), if_neg h63, if_neg h42, if_neg h92, if_neg h91]
        have HIt := Lib.hid hit
        have f91 : ((a.toNat : Int) == 91) = false := by rw [g91]; simpa using h91
        have S5 := S1
        have R5 := R1
        have K5 := K1
        by_cases h92' : a = 92
        · have f92 : ((a.toNat : Int) == 92) = true := by rw [g92]; simpa using h92'
          have hl1 : ¬ ((1 : Int) < u.length) := by have := mt (fun h => (⟨h92', h⟩ : a = 92 ∧ 1 < u.length)) h92; omega
          clear hit h63 h42 h92 h91 h92' g63 g42 g92 g91
          have hs1 : ∀ W, (Instr.slice 22 (.slice (some ⟨tb, tof, none⟩) u.length ucap) (some (.int .i64 1)) none none).run Tryz.prog W = .ok (.slice (tailA (some ⟨tb, tof, none⟩) 1 ucap 2) (u.length - 1) (ucap - 1)) W := fun W => Hsl.out 1 (by omega) W
          have HSA : Sat _ (arr 118 4 p L.length cap (itCells L) * (pts wr.heap.size (itemO 1 a false (.slice none ([] : List Rg).length 0)) * keep w)) := S5.perm (by show pts wr.heap.size (itemO 1 a false (.slice none ([] : List Rg).length 0)) * _ = _; ac_rfl)
          have HSB := HSA.old (.cells #[.int .i64 1, .int .u8 a.toNat, .bool false, .slice none 0 0] 118)
          have K6 := K5.trans (kept_alloc _ (.cells #[.int .i64 1, .int .u8 a.toNat, .bool false, .slice none 0 0] 118))
          have R6 := Ran.new R5 (.cells #[.int .i64 1, .int .u8 a.toNat, .bool false, .slice none 0 0] 118)
          clear S5 R5 K5 HSA
          have Hnew : Hid (∀ W, RgOk W p (⟨1, a, false, ([] : List Rg)⟩, none, 0)) := Lib.hid fun W => ⟨rgAt_nil _ _, fun h => absurd rfl h⟩
          have hx3 : addI (L.map (·.1)) ⟨1, a, false, ([] : List Rg)⟩ = L.map (·.1) ++ [⟨1, a, false, ([] : List Rg)⟩] := addI_no (show (1 : Int) ≠ 3 by decide)
          have Hx3 := Lib.hid hx3
          clear hx3 HS
          go_wp2_with (at_builtin; go_loud (refine appIt rfl _ _ rfl p L.length cap _ rfl _ rfl HSB (⟨1, a, false, ([] : List Rg)⟩, none, 0) (by rw [block_new (by first | (simp; done) | simp [World.setCell])]; rfl) (by omega) ?_; intro p' cap' w6 HS7 HR7 HM7; clear HSB))
          go_roundg f
          case measure => omega
          case rel =>
            refine ⟨u.drop 1, tailA (some ⟨tb, tof, none⟩) 1 ucap 2, ucap - 1, L ++ [(⟨1, a, false, ([] : List Rg)⟩, none, 0)], p', cap', by rw [List.length_drop], by simp, hu.tail 1 (by omega), by rw [List.length_drop]; omega, by rw [List.length_drop, List.length_append, List.length_singleton]; omega, ?_, ?_, ?_, R6.trans HR7⟩
            · rw [Hcomp.out, HIt.out, List.map_append, Hx3.out]; rfl
            · intro x hx
              rcases List.mem_append.1 hx with hx | hx
              · exact ((Hrg.out x hx).keep K6).moved HM7 HR7.size
              · simp only [List.mem_singleton] at hx
                subst hx
                exact (Hnew.out _).moved HM7 HR7.size
            · rw [itCells_snoc, List.length_append, List.length_singleton]
              exact (HS7.perm (show _ = pts wr.heap.size (itemO 1 a false (.slice none ([] : List Rg).length 0)) * (arr 118 4 p' (L.length + 1) cap' (itCells L ++ itCell (⟨1, a, false, ([] : List Rg)⟩, none, 0)) * keep w) by ac_rfl)).right
        · have f92 : ((a.toNat : Int) == 92) = false := by rw [g92]; simpa using h92'
          clear hit h63 h42 h92 h91 h92' g63 g42 g92 g91
          have hs1 : ∀ W, (Instr.slice 22 (.slice (some ⟨tb, tof, none⟩) u.length ucap) (some (.int .i64 1)) none none).run Tryz.prog W = .ok (.slice (tailA (some ⟨tb, tof, none⟩) 1 ucap 2) (u.length - 1) (ucap - 1)) W := fun W => Hsl.out 1 (by omega) W
          have HSA : Sat _ (arr 118 4 p L.length cap (itCells L) * (pts wr.heap.size (itemO 1 a false (.slice none ([] : List Rg).length 0)) * keep w)) := S5.perm (by show pts wr.heap.size (itemO 1 a false (.slice none ([] : List Rg).length 0)) * _ = _; ac_rfl)
          have HSB := HSA.old (.cells #[.int .i64 1, .int .u8 a.toNat, .bool false, .slice none 0 0] 118)
          have K6 := K5.trans (kept_alloc _ (.cells #[.int .i64 1, .int .u8 a.toNat, .bool false, .slice none 0 0] 118))
          have R6 := Ran.new R5 (.cells #[.int .i64 1, .int .u8 a.toNat, .bool false, .slice none 0 0] 118)
          clear S5 R5 K5 HSA
          have Hnew : Hid (∀ W, RgOk W p (⟨1, a, false, ([] : List Rg)⟩, none, 0)) := Lib.hid fun W => ⟨rgAt_nil _ _, fun h => absurd rfl h⟩
          have hx3 : addI (L.map (·.1)) ⟨1, a, false, ([] : List Rg)⟩ = L.map (·.1) ++ [⟨1, a, false, ([] : List Rg)⟩] := addI_no (show (1 : Int) ≠ 3 by decide)
          have Hx3 := Lib.hid hx3
          clear hx3 HS
          go_wp2_with (at_builtin; go_loud (refine appIt rfl _ _ rfl p L.length cap _ rfl _ rfl HSB (⟨1, a, false, ([] : List Rg)⟩, none, 0) (by rw [block_new (by first | (simp; done) | simp [World.setCell])]; rfl) (by omega) ?_; intro p' cap' w6 HS7 HR7 HM7; clear HSB))
          go_roundg f
          case measure => omega
          case rel =>
            refine ⟨u.drop 1, tailA (some ⟨tb, tof, none⟩) 1 ucap 2, ucap - 1, L ++ [(⟨1, a, false, ([] : List Rg)⟩, none, 0)], p', cap', by rw [List.length_drop], by simp, hu.tail 1 (by omega), by rw [List.length_drop]; omega, by rw [List.length_drop, List.length_append, List.length_singleton]; omega, ?_, ?_, ?_, R6.trans HR7⟩
            · rw [Hcomp.out, HIt.out, List.map_append, Hx3.out]; rfl
            · intro x hx
              rcases List.mem_append.1 hx with hx | hx
              · exact ((Hrg.out x hx).keep K6).moved HM7 HR7.size
              · simp only [List.mem_singleton] at hx
                subst hx
                exact (Hnew.out _).moved HM7 HR7.size
            · rw [itCells_snoc, List.length_append, List.length_singleton]
              exact (HS7.perm (show _ = pts wr.heap.size (itemO 1 a false (.slice none ([] : List Rg).length 0)) * (arr 118 4 p' (L.length + 1) cap' (itCells L ++ itCell (⟨1, a, false, ([] : List Rg)⟩, none, 0)) * keep w) by ac_rfl)).right
      · have hit : itemL u path = (⟨1, a, false, []⟩, 1) := by unfold itemL; rw [Hg0.out]; rfl
        have HIt := Lib.hid hit
        clear hit g63 g42 g92 g91
        have S5 := S1
        have R5 := R1
        have K5 := K1
        have hs1 : ∀ W, (Instr.slice 22 (.slice (some ⟨tb, tof, none⟩) u.length ucap) (some (.int .i64 1)) none none).run Tryz.prog W = .ok (.slice (tailA (some ⟨tb, tof, none⟩) 1 ucap 2) (u.length - 1) (ucap - 1)) W := fun W => Hsl.out 1 (by omega) W
        have HSA : Sat _ (arr 118 4 p L.length cap (itCells L) * (pts wr.heap.size (itemO 1 a false (.slice none ([] : List Rg).length 0)) * keep w)) := S5.perm (by show pts wr.heap.size (itemO 1 a false (.slice none ([] : List Rg).length 0)) * _ = _; ac_rfl)
        have HSB := HSA.old (.cells #[.int .i64 1, .int .u8 a.toNat, .bool false, .slice none 0 0] 118)
        have K6 := K5.trans (kept_alloc _ (.cells #[.int .i64 1, .int .u8 a.toNat, .bool false, .slice none 0 0] 118))
        have R6 := Ran.new R5 (.cells #[.int .i64 1, .int .u8 a.toNat, .bool false, .slice none 0 0] 118)
        clear S5 R5 K5 HSA
        have Hnew : Hid (∀ W, RgOk W p (⟨1, a, false, ([] : List Rg)⟩, none, 0)) := Lib.hid fun W => ⟨rgAt_nil _ _, fun h => absurd rfl h⟩
        have hx3 : addI (L.map (·.1)) ⟨1, a, false, ([] : List Rg)⟩ = L.map (·.1) ++ [⟨1, a, false, ([] : List Rg)⟩] := addI_no (show (1 : Int) ≠ 3 by decide)
        have Hx3 := Lib.hid hx3
        clear hx3 HS
        go_wp2_with (at_builtin; go_loud (refine appIt rfl _ _ rfl p L.length cap _ rfl _ rfl HSB (⟨1, a, false, ([] : List Rg)⟩, none, 0) (by rw [block_new (by first | (simp; done) | simp [World.setCell])]; rfl) (by omega) ?_; intro p' cap' w6 HS7 HR7 HM7; clear HSB))
        go_roundg f
        case measure => omega
        case rel =>
          refine ⟨u.drop 1, tailA (some ⟨tb, tof, none⟩) 1 ucap 2, ucap - 1, L ++ [(⟨1, a, false, ([] : List Rg)⟩, none, 0)], p', cap', by rw [List.length_drop], by simp, hu.tail 1 (by omega), by rw [List.length_drop]; omega, by rw [List.length_drop, List.length_append, List.length_singleton]; omega, ?_, ?_, ?_, R6.trans HR7⟩
          · rw [Hcomp.out, HIt.out, List.map_append, Hx3.out]; rfl
          · intro x hx
            rcases List.mem_append.1 hx with hx | hx
            · exact ((Hrg.out x hx).keep K6).moved HM7 HR7.size
            · simp only [List.mem_singleton] at hx
              subst hx
              exact (Hnew.out _).moved HM7 HR7.size
          · rw [itCells_snoc, List.length_append, List.length_singleton]
            exact (HS7.perm (show _ = pts wr.heap.size (itemO 1 a false (.slice none ([] : List Rg).length 0)) * (arr 118 4 p' (L.length + 1) cap' (itCells L ++ itCell (⟨1, a, false, ([] : List Rg)⟩, none, 0)) * keep w) by ac_rfl)).right
    · have hge : ¬ ((0 : Int) < u.length) := by omega
      have hu0 : u = [] := List.eq_nil_of_length_eq_zero (by omega)
      have hfin : compileL t path = L.map (·.1) := by
        rw [hcomp, hu0]
        cases gk with
        | zero => rfl
        | succ f => show (if _ then _ else _) = _; rw [if_pos rfl]
      have Hfin := Lib.hid hfin
      have hI := itemsAt_arr HS fun x hx => (hrg x hx).1
      clear hu0 hcomp hfin hrg
      go_wp2_with fail
      go_ret
      exact ⟨p, cap, show Ending.returned (.slice p L.length cap) = _ by rw [Hfin.out, List.length_map], by rw [Hfin.out]; exact hI, HR.whole HS⟩
end Go.Proofs.YtndjgeohkfenfaaGreatDoor.Globs

