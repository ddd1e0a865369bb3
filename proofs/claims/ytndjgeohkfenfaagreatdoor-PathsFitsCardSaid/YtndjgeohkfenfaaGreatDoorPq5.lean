/- HandlesPlays, part 5 of 26: the texts GlF GlG, joined by a program. -/
import Derived.Test.YtndjgeohkfenfaaGreatDoorPq1
import Derived.Test.YtndjgeohkfenfaaGreatDoorPq4
import Derived.Test.YtndjgeohkfenfaaGreatDoorPq2
import Derived.OwnWalk
import Derived.Laws.NewBlocks
namespace Go.Proofs.YtndjgeohkfenfaaGreatDoor.Globs
open Go.RowKit Go.Proofs.YtndjgeohkfenfaaGreatDoor Go.Proofs.YtndjgeohkfenfaaGreatDoor.Hp
set_option linter.unusedVariables false

/-- A marked text that lies in memory. -/
def CharsAt (w : World) (ao : Option Addr) (cap : Nat) (l : List Ch) : Prop :=
  l.length ≤ cap ∧ (cap : Int) ≤ 9223372036854775807 ∧ ∀ i (h : i < l.length), ∃ b o, ao = some ⟨b, o, none⟩ ∧ b < w.heap.size ∧ w.cell? ⟨b, o + i * 2, none⟩ = some (.int .u8 l[i].b.toNat) ∧ w.cell? ⟨b, o + i * 2 + 1, none⟩ = some (.bool l[i].q)
theorem CharsAt.keep {W w : World} {ao : Option Addr} {cap : Nat} {l : List Ch} (h : CharsAt W ao cap l) (k : Kept W w) : CharsAt w ao cap l :=
  ⟨h.1, h.2.1, fun i hi => by
    obtain ⟨b, o, e, hb, h0, h1⟩ := h.2.2 i hi
    exact ⟨b, o, e, Nat.lt_of_lt_of_le hb k.1, by rw [k.cell hb]; exact h0, by rw [k.cell hb]; exact h1⟩⟩
/-- Where a slice begins that is cut n elements on. -/
def tailA (ao : Option Addr) (n cap sz : Nat) : Option Addr := if cap = n then ao else ao.map (·.add (n * sz))
theorem run_slice_from {P : Program} (t e : TypeId) (i : TypeInfo) (sz : Nat) (ht : P.underlying t = some (.slice e)) (hi : P.info? e = some i) (hs : i.size = sz) (ao : Option Addr) (len cap n : Nat) (hn : n ≤ len) (w : World) :
    (Instr.slice t (.slice ao len cap) (some (.int .i64 n)) none none).run P w = .ok (.slice (tailA ao n cap sz) (len - n) (cap - n)) w := by
  subst hs
  have h1 : (0 : Int) ≤ n := by omega
  simp [Instr.slice, Instr.sliceBounds, Instr.sliceBound, run_underlying ht, asIntOf, sizeOf, typeInfo, hi, h1, hn, tailA]
theorem CharsAt.tail {w : World} {ao : Option Addr} {cap : Nat} {l : List Ch} (h : CharsAt w ao cap l) (n : Nat) (hn : n ≤ l.length) : CharsAt w (tailA ao n cap 2) (cap - n) (l.drop n) := by
  obtain ⟨h1, h2, h3⟩ := h
  refine ⟨by rw [List.length_drop]; omega, by omega, fun i hi => ?_⟩
  rw [List.length_drop] at hi
  obtain ⟨b, o, rfl, hb, g0, g1⟩ := h3 (n + i) (by omega)
  have hc : cap ≠ n := by omega
  refine ⟨b, o + n * 2, by unfold tailA; rw [if_neg hc]; simp [Addr.add], hb, ?_, ?_⟩
  · rw [List.getElem_drop, ← g0]; congr 2; rw [Nat.add_mul]; omega
  · rw [List.getElem_drop, ← g1]; congr 2; rw [Nat.add_mul]; omega
theorem infoCh : (Tryz.prog.info? 63).map (fun i => (i.zero, i.size, i.bytes)) = some (some (.agg #[.int .u8 0, .bool false]), 2, 2) := by kernel_rfl
theorem slice_from (ao : Option Addr) (len cap n : Nat) (hn : n ≤ len) (w : World) :
    (Instr.slice 22 (.slice ao len cap) (some (.int .i64 n)) none none).run Tryz.prog w = .ok (.slice (tailA ao n cap 2) (len - n) (cap - n)) w := by
  obtain ⟨i0, hi, hz0, hz1, hz2⟩ := info_parts infoCh
  exact run_slice_from _ _ i0 2 Tryz.underlying22 hi hz1 ao len cap n hn w

def BRel (t : List Ch) (s : ByteArray) (w : World) (g : Nat) (iv : Value) (wr : World) : Prop :=
  ∃ i n : Nat, i + g = s.size ∧ iv = .int .i64 (i : Int) ∧ bareL t (bs s) = bareL (t.drop i) ((bs s).drop i) ∧ wr = w.drewN n
theorem bs_drop (s : ByteArray) (i : Nat) (h : i < s.size) : (bs s).drop i = s[i] :: (bs s).drop (i + 1) := by
  rw [List.drop_eq_getElem_cons (by rw [bs_length]; exact h)]; rfl
set_option maxHeartbeats 1000000 in
theorem bare_calls (t : List Ch) (s : ByteArray) (ao : Option Addr) (cap : Nat) (w : World) (h : CharsAt w ao cap t) (hm : (s.size : Int) ≤ 9223372036854775807) :
    Calls Tryz.prog 96 #[.slice ao t.length cap, .string s] w fun e w' => e = .returned (.bool (bareL t (bs s))) ∧ ∃ n, w' = w.drewN n := by
  obtain ⟨h1, h2, h3⟩ := h
  have htl : (t.length : Int) ≤ 9223372036854775807 := by omega
  by_cases hlen : t.length < s.size
  · have hlt : (t.length : Int) < s.size := by omega
    have hfin : bareL t (bs s) = false := by
      rw [← Bool.not_eq_true]; intro hb
      have := bareL_len hb
      rw [bs_length] at this; omega
    rw [hfin]
    clear hfin h3
    go_enter Tryz.func96, Tryz.ntmps96
    go_wp2
    go_ret
    exact ⟨rfl, 0, rfl⟩
  · have hlt : ¬ ((t.length : Int) < s.size) := by omega
    have hle : s.size ≤ t.length := by omega
    go_enter Tryz.func96, Tryz.ntmps96
    go_wp2
    go_loopg [13] (s.size) (BRel t s w)
    case atStart => exact ⟨0, 0, by omega, rfl, rfl, rfl⟩
    case round =>
      obtain ⟨i, n, hig, rfl, hb, rfl⟩ := hrel
      have hi0 : (0 : Int) ≤ i := by omega
      by_cases hi : i < s.size
      · have hil : (i : Int) < s.size := by omega
        have hit : (i : Int) < t.length := by omega
        obtain ⟨tb, o, rfl, htb, c0, c1⟩ := h3 i (by omega)
        have c0' : (w.drewN n).cell? ⟨tb, o + i * 2, none⟩ = some (.int .u8 t[i].b.toNat) := c0
        have c1' : (w.drewN n).cell? ⟨tb, o + i * 2 + 1, none⟩ = some (.bool t[i].q) := c1
        rw [bs_drop s i hi, List.drop_eq_getElem_cons (by omega)] at hb
        obtain ⟨c, hc⟩ : ∃ c, c = t[i] := ⟨_, rfl⟩
        rw [← hc] at c0' c1' hb
        have Hb := Lib.hid hb
        have Hig := Lib.hid hig
        clear c0 c1 h3 hb hig hc
        obtain ⟨cb, cq⟩ := c
        simp only at c0' c1'
        have e1 : ((cb.toNat : Int) == (s[i].toNat : Int)) = (cb == s[i]) := u8_beq _ _
        cases cq
        · by_cases hcs : cb = s[i]
          · have e2 : ((cb.toNat : Int) == (s[i].toNat : Int)) = true := by rw [e1]; simpa using hcs
            have hne : (cb == s[i]) = true := by simpa using hcs
            have Hne := Lib.hid hne
            clear e1 hcs hne
            go_wp2_with fail
            refine region_plan (S := (fun w' => w'.cell? ⟨tb, o + i * 2, none⟩ = some (.int .u8 cb.toNat) ∧ w'.cell? ⟨tb, o + i * 2 + 1, none⟩ = some (.bool false))) [(0, true), (1, true), (2, true), (3, true), (4, true), (5, true), (6, true), (7, true), (8, true)] (by kernel_rfl) (by kernel_rfl) (by kernel_rfl) ?_ ?_
            · ((try dsimp only); (first | done | (exact ⟨c0', c1'⟩)))
            simp only [planOps, List.map_cons, List.map_nil, List.getElem?_toArray, List.getElem?_cons_zero, List.getElem?_cons_succ]
            repeat (first
              | ((refine plan_yes (v := ?_) (by rfl) ?_ ?_); rotate_left; (focus (intro w hSw; (try dsimp only at hSw); go_simp; try (with_reducible rfl))); (try simp only [Act.put, List.setIfInBounds_toArray, List.set_cons_zero, List.set_cons_succ]))
              | ((refine plan_no (by rfl) ?_); (try simp only [Act.put, List.setIfInBounds_toArray, List.set_cons_zero, List.set_cons_succ]))
              | ((refine plan_step (fun K hK => ?_)); (first | (fail) | (go_simp; (fail); (try go_wp2_with fail)) | go_simp); (refine hK.out _ _ ?_ (fun hHeld => ?_)); (focus ((try dsimp only); (first | done | (exact ⟨c0', c1'⟩)))); clear hK K; (try simp only [Act.put, List.setIfInBounds_toArray, List.set_cons_zero, List.set_cons_succ])))
            refine plan_done ?_
            go_wp2_with fail
            go_roundg (gk - 1)
            case measure => have := Hig.out; omega
            case rel => exact ⟨i + 1, _, by have := Hig.out; omega, by go_num, by rw [Hb.out]; simp only [bareL]; rw [Hne.out]; rfl, rfl⟩
          · have e2 : ((cb.toNat : Int) == (s[i].toNat : Int)) = false := by rw [e1]; simpa using hcs
            have hne : (cb == s[i]) = false := by simpa using hcs
            have Hne := Lib.hid hne
            clear e1 hcs hne
            go_wp2_with fail
            refine region_plan (S := (fun w' => w'.cell? ⟨tb, o + i * 2, none⟩ = some (.int .u8 cb.toNat) ∧ w'.cell? ⟨tb, o + i * 2 + 1, none⟩ = some (.bool false))) [(0, true), (1, true), (2, true), (3, true), (4, true), (5, true), (6, true), (7, true), (8, true)] (by kernel_rfl) (by kernel_rfl) (by kernel_rfl) ?_ ?_
            · ((try dsimp only); (first | done | (exact ⟨c0', c1'⟩)))
            simp only [planOps, List.map_cons, List.map_nil, List.getElem?_toArray, List.getElem?_cons_zero, List.getElem?_cons_succ]
            repeat (first
              | ((refine plan_yes (v := ?_) (by rfl) ?_ ?_); rotate_left; (focus (intro w hSw; (try dsimp only at hSw); go_simp; try (with_reducible rfl))); (try simp only [Act.put, List.setIfInBounds_toArray, List.set_cons_zero, List.set_cons_succ]))
              | ((refine plan_no (by rfl) ?_); (try simp only [Act.put, List.setIfInBounds_toArray, List.set_cons_zero, List.set_cons_succ]))
              | ((refine plan_step (fun K hK => ?_)); (first | (fail) | (go_simp; (fail); (try go_wp2_with fail)) | go_simp); (refine hK.out _ _ ?_ (fun hHeld => ?_)); (focus ((try dsimp only); (first | done | (exact ⟨c0', c1'⟩)))); clear hK K; (try simp only [Act.put, List.setIfInBounds_toArray, List.set_cons_zero, List.set_cons_succ])))
            refine plan_done ?_
            go_wp2_with fail
            go_ret
            exact ⟨by rw [Hb.out]; simp only [bareL]; rw [Hne.out]; rfl, n + 1, rfl⟩
        · clear e1
          go_wp2_with fail
          refine region_plan (S := (fun w' => w'.cell? ⟨tb, o + i * 2, none⟩ = some (.int .u8 cb.toNat) ∧ w'.cell? ⟨tb, o + i * 2 + 1, none⟩ = some (.bool true))) [(0, true), (1, true), (2, true), (3, true), (4, true), (5, true), (6, true), (7, true), (8, true)] (by kernel_rfl) (by kernel_rfl) (by kernel_rfl) ?_ ?_
          · ((try dsimp only); (first | done | (exact ⟨c0', c1'⟩)))
          simp only [planOps, List.map_cons, List.map_nil, List.getElem?_toArray, List.getElem?_cons_zero, List.getElem?_cons_succ]
          repeat (first
            | ((refine plan_yes (v := ?_) (by rfl) ?_ ?_); rotate_left; (focus (intro w hSw; (try dsimp only at hSw); go_simp; try (with_reducible rfl))); (try simp only [Act.put, List.setIfInBounds_toArray, List.set_cons_zero, List.set_cons_succ]))
            | ((refine plan_no (by rfl) ?_); (try simp only [Act.put, List.setIfInBounds_toArray, List.set_cons_zero, List.set_cons_succ]))
            | ((refine plan_step (fun K hK => ?_)); (first | (fail) | (go_simp; (fail); (try go_wp2_with fail)) | go_simp); (refine hK.out _ _ ?_ (fun hHeld => ?_)); (focus ((try dsimp only); (first | done | (exact ⟨c0', c1'⟩)))); clear hK K; (try simp only [Act.put, List.setIfInBounds_toArray, List.set_cons_zero, List.set_cons_succ])))
          refine plan_done ?_
          go_wp2_with fail
          go_ret
          exact ⟨by rw [Hb.out]; simp [bareL], n + 1, rfl⟩
      · have hge : ¬ ((i : Int) < s.size) := by omega
        have hfin : bareL t (bs s) = true := by
          rw [hb, List.drop_eq_nil_of_le (by rw [bs_length]; omega : (bs s).length ≤ i)]
          cases t.drop i <;> rfl
        have Hfin := Lib.hid hfin
        clear hfin hb h3
        go_wp2_with fail
        go_ret
        exact ⟨show Ending.returned (.bool true) = _ by rw [Hfin.out], n, rfl⟩

/-- The cells of a marked text. -/
def chCells (l : List Ch) : List Value := l.flatMap fun c => [.int .u8 c.b.toNat, .bool c.q]
theorem chCells_length (l : List Ch) : (chCells l).length = l.length * 2 := by
  unfold chCells
  induction l with
  | nil => rfl
  | cons c l ih => simp only [List.flatMap_cons, List.length_append, List.length_cons, List.length_nil, ih]; omega
theorem chCells_snoc (l : List Ch) (c : Ch) : chCells (l ++ [c]) = chCells l ++ [.int .u8 c.b.toNat, .bool c.q] := by unfold chCells; simp
theorem chCells_get (l : List Ch) (i : Nat) (h : i < l.length) : (chCells l)[i * 2]? = some (.int .u8 l[i].b.toNat) ∧ (chCells l)[i * 2 + 1]? = some (.bool l[i].q) := by
  induction l generalizing i with
  | nil => simp at h
  | cons c l ih =>
    cases i with
    | zero => exact ⟨rfl, rfl⟩
    | succ i =>
      have := ih i (by simpa using h)
      rw [show (i + 1) * 2 = i * 2 + 2 by omega]
      exact this
theorem made2 (P : Program) (t e : TypeId) (i : TypeInfo) (z : Value) (ht : P.underlying t = some (.slice e)) (hi : P.info? e = some i) (hz : i.zero = some z) (n : Nat) (hb : i.bytes * n ≤ 281474976710656) (h63 : n ≤ 9223372036854775807) (w : World) :
    (Instr.makeSlice t (.int .i64 (n : Int)) (.int .i64 (n : Int))).run P w = .ok (.slice (some ⟨w.heap.size, 0, none⟩) n n) (w.alloc (.cells (madeCells z.cells (n * i.size)) e)) := by
  have hb' : (i.bytes : Int) * (n : Int) ≤ 281474976710656 := by
    have h : ((i.bytes * n : Nat) : Int) ≤ 281474976710656 := by omega
    rwa [Int.natCast_mul] at h
  have hr := run_make (P := P) w t e i z ht hi hz .i64 .i64 n n (by omega) (by omega) hb' (by omega)
  simp only [Int.toNat_natCast] at hr
  exact hr
def markL (l : List UInt8) (q : Bool) : List Ch := l.map fun b => ⟨b, q⟩
def OfRel (s : ByteArray) (q : Bool) (w : World) (ob : Nat) (g : Nat) (iv : Value) (wr : World) : Prop :=
  ∃ (i : Nat) (cur : Array Value), i + g = s.size ∧ iv = .int .i64 (i : Int) ∧ cur.size = s.size * 2 ∧ (∀ j, j < i * 2 → cur[j]? = (chCells (markL (bs s) q))[j]?) ∧ Sat wr (pts ob (.cells cur 63 (0, 0)) * keep w) ∧ Ran w wr
theorem size_made2 (n : Nat) : (madeCells #[Value.int .u8 0, .bool false] (n * 2)).size = n * 2 := by simp [size_madeCells]
def CharsPost (l : List Ch) (w : World) (e : Ending) (w' : World) : Prop := ∃ ao cap, e = .returned (.slice ao l.length cap) ∧ CharsAt w' ao cap l ∧ Below w.heap.size w w'
set_option maxHeartbeats 1000000 in
theorem of_calls (s : ByteArray) (q : Bool) (w : World) (hm : s.size ≤ 100000) :
    Calls Tryz.prog 21 #[.string s, .bool q] w (CharsPost (markL (bs s) q) w) := by
  obtain ⟨i0, hi0, hz0, hz1, hz2⟩ := info_parts infoCh
  have hmk := made2 Tryz.prog 22 63 i0 _ Tryz.underlying22 hi0 hz0 s.size (by rw [hz2]; omega) (by omega)
  rw [hz1] at hmk
  have H0 := (Sat.start w).alloc (.cells (madeCells #[.int .u8 0, .bool false] (s.size * 2)) 63)
  have hml : (markL (bs s) q).length = s.size := by unfold markL; rw [List.length_map, bs_length]
  have hsl : (s.size : Int) ≤ 100000 := by omega
  obtain ⟨ob, hob⟩ : ∃ ob, ob = w.heap.size := ⟨_, rfl⟩
  have Hml := Lib.hid hml
  clear hz0 hz1 hz2 hi0 hml
  go_enter Tryz.func21, Tryz.ntmps21
  go_wp2
  rw [← hob]
  rw [← hob] at H0
  have Hob := Lib.hid hob
  clear hob hmk
  go_loopg [12] (s.size) (OfRel s q w ob)
  case atStart => exact ⟨0, _, by omega, rfl, size_made2 _, fun j hj => absurd hj (Nat.not_lt_zero j), H0, Ran.new (Below.refl _ _) _⟩
  case round =>
    clear H0
    obtain ⟨i, cur, hig, rfl, hcs, hcur, HS, HR⟩ := hrel
    have hi0 : (0 : Int) ≤ i := by omega
    by_cases hi : i < s.size
    · have hil : (i : Int) < s.size := by omega
      have k0 : wr.cell? ⟨ob, i * 2, none⟩ = some (cur[i * 2]'(by omega)) := by rw [cell_at HS.get, Array.getElem?_eq_getElem]
      have k1 : wr.cell? ⟨ob, i * 2 + 1, none⟩ = some (cur[i * 2 + 1]'(by omega)) := by rw [cell_at HS.get, Array.getElem?_eq_getElem]
      have kf : ∀ j, wr.frozen? ⟨ob, j, none⟩ = false := free_at HS.get
      have S2 := (HS.set (i := i * 2) (.int .u8 s[i].toNat)).set (i := i * 2 + 1) (.bool q)
      have R2 := Ran.set (Ran.set HR ⟨ob, i * 2, none⟩ (.int .u8 s[i].toNat)) ⟨ob, i * 2 + 1, none⟩ (.bool q)
      have hg := chCells_get (markL (bs s) q) i (by rw [Hml.out]; exact hi)
      have e1 : (markL (bs s) q)[i]'(by rw [Hml.out]; exact hi) = ⟨s[i], q⟩ := by unfold markL; simp only [List.getElem_map]; rfl
      rw [e1] at hg
      have hcur2 : ∀ j, j < (i + 1) * 2 → ((cur.setIfInBounds (i * 2) (.int .u8 s[i].toNat)).setIfInBounds (i * 2 + 1) (.bool q))[j]? = (chCells (markL (bs s) q))[j]? := fun j hj => by
        by_cases j1 : j = i * 2 + 1
        · subst j1; rw [Array.getElem?_setIfInBounds_self_of_lt (by simp; omega)]; exact hg.2.symm
        · rw [Array.getElem?_setIfInBounds_ne (by omega)]
          by_cases j0 : j = i * 2
          · subst j0; rw [Array.getElem?_setIfInBounds_self_of_lt (by omega)]; exact hg.1.symm
          · rw [Array.getElem?_setIfInBounds_ne (by omega)]; exact hcur j (by omega)
      have Hcur2 := Lib.hid hcur2
      have Hig := Lib.hid hig
      have Hcs := Lib.hid hcs
      generalize cur[i * 2]'(by omega) = v0 at k0
      generalize cur[i * 2 + 1]'(by omega) = v1 at k1
      clear hcur hcur2 hig hg e1 HS HR
      go_wp2_with fail
      go_roundg (gk - 1)
      case measure => have := Hig.out; omega
      case rel => exact ⟨i + 1, _, by have := Hig.out; omega, by go_num, by simp; exact Hcs.out, Hcur2.out, S2, R2⟩
    · have hge : ¬ ((i : Int) < s.size) := by omega
      obtain rfl : i = s.size := by omega
      have Hcur := Lib.hid hcur
      clear hcur hig
      go_wp2_with fail
      go_ret
      refine ⟨some ⟨ob, 0, none⟩, s.size, show Ending.returned (.slice (some ⟨ob, 0, none⟩) s.size s.size) = _ by rw [Hml.out], ⟨by rw [Hml.out]; exact Nat.le_refl _, by omega, fun i hi => ?_⟩, HR.whole HS⟩
      rw [Hml.out] at hi
      have hg := chCells_get (markL (bs s) q) i (by rw [Hml.out]; exact hi)
      refine ⟨ob, 0, rfl, HS.lt, ?_, ?_⟩
      · rw [Nat.zero_add, cell_at HS.get, Hcur.out _ (by omega)]; exact hg.1
      · rw [Nat.zero_add, cell_at HS.get, Hcur.out _ (by omega)]; exact hg.2

def PlRel (t : List Ch) (w : World) (ob : Nat) (g : Nat) (iv : Value) (wr : World) : Prop :=
  ∃ (i : Nat) (cur : Array Value), i + g = t.length ∧ iv = .int .i64 (i : Int) ∧ cur.size = t.length ∧ (∀ j (h : j < t.length), j < i → cur[j]? = some (.int .u8 t[j].b.toNat)) ∧ Sat wr (pts ob (.cells cur 5 (0, 0)) * keep w) ∧ Ran w wr
theorem infoU8 : (Tryz.prog.info? 5).map (fun i => (i.zero, i.size, i.bytes)) = some (some (.int .u8 0), 1, 1) := by kernel_rfl
def PlainPost (t : List Ch) (w : World) (e : Ending) (w' : World) : Prop := e = .returned (.string ⟨(t.map (·.b)).toArray⟩) ∧ Below w.heap.size w w'
set_option maxHeartbeats 1000000 in
theorem plain_calls (t : List Ch) (ao : Option Addr) (cap : Nat) (w : World) (h : CharsAt w ao cap t) (hm : t.length ≤ 100000) :
    Calls Tryz.prog 23 #[.slice ao t.length cap] w (PlainPost t w) := by
  obtain ⟨i0, hi0, hz0, hz1, hz2⟩ := info_parts infoU8
  have hmk := made2 Tryz.prog 102 5 i0 _ Tryz.underlying102 hi0 hz0 t.length (by rw [hz2]; omega) (by omega)
  rw [hz1, Nat.mul_one] at hmk
  have H0 := (Sat.start w).alloc (.cells (madeCells #[.int .u8 0] t.length) 5)
  have hsl : (t.length : Int) ≤ 100000 := by omega
  obtain ⟨ob, hob⟩ : ∃ ob, ob = w.heap.size := ⟨_, rfl⟩
  obtain ⟨h1, h2, h3⟩ := h
  clear hz0 hz1 hz2 hi0
  go_enter Tryz.func23, Tryz.ntmps23
  go_wp2
  rw [← hob]
  rw [← hob] at H0
  have Hob := Lib.hid hob
  clear hob hmk
  go_loopg [11] (t.length) (PlRel t w ob)
  case atStart => exact ⟨0, _, by omega, rfl, by simp [size_madeCells], fun j _ hj => absurd hj (Nat.not_lt_zero j), H0, Ran.new (Below.refl _ _) _⟩
  case round =>
    clear H0
    obtain ⟨i, cur, hig, rfl, hcs, hcur, HS, HR⟩ := hrel
    have hi0 : (0 : Int) ≤ i := by omega
    by_cases hi : i < t.length
    · have hil : (i : Int) < t.length := by omega
      obtain ⟨tb, o, rfl, htb, c0, c1⟩ := h3 i hi
      have c0' : wr.cell? ⟨tb, o + i * 2, none⟩ = some (.int .u8 t[i].b.toNat) := (World.cell?_of_block (HS.right.kept tb htb)).trans c0
      have c1' : wr.cell? ⟨tb, o + i * 2 + 1, none⟩ = some (.bool t[i].q) := (World.cell?_of_block (HS.right.kept tb htb)).trans c1
      have k0 : wr.cell? ⟨ob, i, none⟩ = some (cur[i]'(by omega)) := by rw [cell_at HS.get, Array.getElem?_eq_getElem]
      have S1 := HS.old (.cells #[.int .u8 t[i].b.toNat, .bool t[i].q] 63)
      have k0' : (wr.alloc (.cells #[.int .u8 t[i].b.toNat, .bool t[i].q] 63)).cell? ⟨ob, i, none⟩ = some (cur[i]'(by omega)) := by rw [cell_at S1.get, Array.getElem?_eq_getElem]
      have kf : ∀ j, (wr.alloc (.cells #[.int .u8 t[i].b.toNat, .bool t[i].q] 63)).frozen? ⟨ob, j, none⟩ = false := free_at S1.get
      have S2 := S1.set (i := i) (.int .u8 t[i].b.toNat)
      have R2 := Ran.set (Ran.new HR (.cells #[.int .u8 t[i].b.toNat, .bool t[i].q] 63)) ⟨ob, i, none⟩ (.int .u8 t[i].b.toNat)
      have hcur2 : ∀ j (h : j < t.length), j < i + 1 → (cur.setIfInBounds i (.int .u8 t[i].b.toNat))[j]? = some (.int .u8 t[j].b.toNat) := fun j hj hj2 => by
        by_cases j1 : j = i
        · subst j1; rw [Array.getElem?_setIfInBounds_self_of_lt (by omega)]
        · rw [Array.getElem?_setIfInBounds_ne (by omega)]; exact hcur j hj (by omega)
      have Hcur2 := Lib.hid hcur2
      have Hig := Lib.hid hig
      have Hcs := Lib.hid hcs
      generalize cur[i]'(by omega) = v0 at k0 k0'
      generalize t[i] = c at *
      clear hcur hcur2 hig HS HR h3 c0 c1
      go_wp2_with fail
      go_roundg (gk - 1)
      case measure => have := Hig.out; omega
      case rel => exact ⟨i + 1, _, by have := Hig.out; omega, by go_num, by simp; exact Hcs.out, Hcur2.out, S2, R2⟩
    · have hge : ¬ ((i : Int) < t.length) := by omega
      obtain rfl : i = t.length := by omega
      have hcv : (convert 102 9 (.slice (some ⟨ob, 0, none⟩) t.length t.length)).run Tryz.prog wr = .ok (.string ⟨(t.map (·.b)).toArray⟩) wr := by
        have := run_convert_bytes_back (P := Tryz.prog) wr 102 9 5 ⟨ob, 0, none⟩ t.length (t.map (·.b)) Tryz.underlying102 Tryz.underlying5 Tryz.underlying9 (fun j hj => by
          rw [List.length_map] at hj
          rw [Addr.add_lit, Nat.zero_add, cell_at HS.get, hcur j hj hj]
          simp)
        rw [List.length_map] at this
        exact this
      clear hcur hig
      go_wp2
      go_ret
      exact ⟨rfl, HR.whole HS⟩
end Go.Proofs.YtndjgeohkfenfaaGreatDoor.Globs

namespace Go.Proofs.YtndjgeohkfenfaaGreatDoor.Globs
open Go.RowKit Go.Proofs.YtndjgeohkfenfaaGreatDoor Go.Proofs.YtndjgeohkfenfaaGreatDoor.Hp
set_option linter.unusedVariables false

def RgsPost (rs : List Rg) (w : World) (e : Ending) (w' : World) : Prop := ∃ b rc, e = .returned (.slice (some ⟨b, 0, none⟩) rs.length rc) ∧ RgAt w' (some ⟨b, 0, none⟩) rs ∧ Below w.heap.size w w'
theorem rgAt_new {w : World} {b : Nat} {cur : Array Value} {T : Nat} (rs : List Rg) (hl : rs.length ≤ 100) (hb : w.heap[b]? = some (.cells cur T (0, 0))) (h : ∀ j (h : j < rs.length), cur[j * 2]? = some (.int .u8 rs[j].1.toNat) ∧ cur[j * 2 + 1]? = some (.int .u8 rs[j].2.toNat)) : RgAt w (some ⟨b, 0, none⟩) rs :=
  ⟨by omega, fun j hj => ⟨b, 0, rfl, (Array.getElem?_eq_some_iff.1 hb).1, by rw [Nat.zero_add, cell_at hb]; exact (h j hj).1, by rw [Nat.zero_add, cell_at hb]; exact (h j hj).2⟩⟩
theorem class_alnum (w : World) : Calls Tryz.prog 140 #[.string ⟨#[97, 108, 110, 117, 109]⟩] w (RgsPost [(48, 57), (65, 90), (97, 122)] w) := by
  go_enter Tryz.func140, Tryz.ntmps140
  go_wp2
  go_ret
  refine ⟨w.heap.size, 3, rfl, rgAt_new (T := 205) _ (by simp) (heap_alloc_new w _) (fun j hj => ?_), (Below.refl _ _).alloc (Nat.le_refl _) _⟩
  match j, hj with
  | 0, _ => exact ⟨rfl, rfl⟩
  | 1, _ => exact ⟨rfl, rfl⟩
  | 2, _ => exact ⟨rfl, rfl⟩
theorem class_alpha (w : World) : Calls Tryz.prog 140 #[.string ⟨#[97, 108, 112, 104, 97]⟩] w (RgsPost [(65, 90), (97, 122)] w) := by
  go_enter Tryz.func140, Tryz.ntmps140
  go_wp2
  go_ret
  refine ⟨w.heap.size, 2, rfl, rgAt_new (T := 205) _ (by simp) (heap_alloc_new w _) (fun j hj => ?_), (Below.refl _ _).alloc (Nat.le_refl _) _⟩
  match j, hj with
  | 0, _ => exact ⟨rfl, rfl⟩
  | 1, _ => exact ⟨rfl, rfl⟩
theorem class_blank (w : World) : Calls Tryz.prog 140 #[.string ⟨#[98, 108, 97, 110, 107]⟩] w (RgsPost [(9, 9), (32, 32)] w) := by
  go_enter Tryz.func140, Tryz.ntmps140
  go_wp2
  go_ret
  refine ⟨w.heap.size, 2, rfl, rgAt_new (T := 205) _ (by simp) (heap_alloc_new w _) (fun j hj => ?_), (Below.refl _ _).alloc (Nat.le_refl _) _⟩
  match j, hj with
  | 0, _ => exact ⟨rfl, rfl⟩
  | 1, _ => exact ⟨rfl, rfl⟩
theorem class_space (w : World) : Calls Tryz.prog 140 #[.string ⟨#[115, 112, 97, 99, 101]⟩] w (RgsPost [(9, 13), (32, 32)] w) := by
  go_enter Tryz.func140, Tryz.ntmps140
  go_wp2
  go_ret
  refine ⟨w.heap.size, 2, rfl, rgAt_new (T := 205) _ (by simp) (heap_alloc_new w _) (fun j hj => ?_), (Below.refl _ _).alloc (Nat.le_refl _) _⟩
  match j, hj with
  | 0, _ => exact ⟨rfl, rfl⟩
  | 1, _ => exact ⟨rfl, rfl⟩
theorem class_cntrl (w : World) : Calls Tryz.prog 140 #[.string ⟨#[99, 110, 116, 114, 108]⟩] w (RgsPost [(0, 31), (127, 127)] w) := by
  go_enter Tryz.func140, Tryz.ntmps140
  go_wp2
  go_ret
  refine ⟨w.heap.size, 2, rfl, rgAt_new (T := 205) _ (by simp) (heap_alloc_new w _) (fun j hj => ?_), (Below.refl _ _).alloc (Nat.le_refl _) _⟩
  match j, hj with
  | 0, _ => exact ⟨rfl, rfl⟩
  | 1, _ => exact ⟨rfl, rfl⟩
theorem class_print (w : World) : Calls Tryz.prog 140 #[.string ⟨#[112, 114, 105, 110, 116]⟩] w (RgsPost [(32, 126)] w) := by
  go_enter Tryz.func140, Tryz.ntmps140
  go_wp2
  go_ret
  refine ⟨w.heap.size, 1, rfl, rgAt_new (T := 205) _ (by simp) (heap_alloc_new w _) (fun j hj => ?_), (Below.refl _ _).alloc (Nat.le_refl _) _⟩
  match j, hj with
  | 0, _ => exact ⟨rfl, rfl⟩
theorem class_graph (w : World) : Calls Tryz.prog 140 #[.string ⟨#[103, 114, 97, 112, 104]⟩] w (RgsPost [(33, 126)] w) := by
  go_enter Tryz.func140, Tryz.ntmps140
  go_wp2
  go_ret
  refine ⟨w.heap.size, 1, rfl, rgAt_new (T := 205) _ (by simp) (heap_alloc_new w _) (fun j hj => ?_), (Below.refl _ _).alloc (Nat.le_refl _) _⟩
  match j, hj with
  | 0, _ => exact ⟨rfl, rfl⟩
theorem class_digit (w : World) : Calls Tryz.prog 140 #[.string ⟨#[100, 105, 103, 105, 116]⟩] w (RgsPost [(48, 57)] w) := by
  go_enter Tryz.func140, Tryz.ntmps140
  go_wp2
  go_ret
  refine ⟨w.heap.size, 1, rfl, rgAt_new (T := 205) _ (by simp) (heap_alloc_new w _) (fun j hj => ?_), (Below.refl _ _).alloc (Nat.le_refl _) _⟩
  match j, hj with
  | 0, _ => exact ⟨rfl, rfl⟩
theorem class_xdigit (w : World) : Calls Tryz.prog 140 #[.string ⟨#[120, 100, 105, 103, 105, 116]⟩] w (RgsPost [(48, 57), (65, 70), (97, 102)] w) := by
  go_enter Tryz.func140, Tryz.ntmps140
  go_wp2
  go_ret
  refine ⟨w.heap.size, 3, rfl, rgAt_new (T := 205) _ (by simp) (heap_alloc_new w _) (fun j hj => ?_), (Below.refl _ _).alloc (Nat.le_refl _) _⟩
  match j, hj with
  | 0, _ => exact ⟨rfl, rfl⟩
  | 1, _ => exact ⟨rfl, rfl⟩
  | 2, _ => exact ⟨rfl, rfl⟩
theorem class_lower (w : World) : Calls Tryz.prog 140 #[.string ⟨#[108, 111, 119, 101, 114]⟩] w (RgsPost [(97, 122)] w) := by
  go_enter Tryz.func140, Tryz.ntmps140
  go_wp2
  go_ret
  refine ⟨w.heap.size, 1, rfl, rgAt_new (T := 205) _ (by simp) (heap_alloc_new w _) (fun j hj => ?_), (Below.refl _ _).alloc (Nat.le_refl _) _⟩
  match j, hj with
  | 0, _ => exact ⟨rfl, rfl⟩
theorem class_upper (w : World) : Calls Tryz.prog 140 #[.string ⟨#[117, 112, 112, 101, 114]⟩] w (RgsPost [(65, 90)] w) := by
  go_enter Tryz.func140, Tryz.ntmps140
  go_wp2
  go_ret
  refine ⟨w.heap.size, 1, rfl, rgAt_new (T := 205) _ (by simp) (heap_alloc_new w _) (fun j hj => ?_), (Below.refl _ _).alloc (Nat.le_refl _) _⟩
  match j, hj with
  | 0, _ => exact ⟨rfl, rfl⟩
theorem class_punct (w : World) : Calls Tryz.prog 140 #[.string ⟨#[112, 117, 110, 99, 116]⟩] w (RgsPost [(33, 47), (58, 64), (91, 96), (123, 126)] w) := by
  go_enter Tryz.func140, Tryz.ntmps140
  go_wp2
  go_ret
  refine ⟨w.heap.size, 4, rfl, rgAt_new (T := 205) _ (by simp) (heap_alloc_new w _) (fun j hj => ?_), (Below.refl _ _).alloc (Nat.le_refl _) _⟩
  match j, hj with
  | 0, _ => exact ⟨rfl, rfl⟩
  | 1, _ => exact ⟨rfl, rfl⟩
  | 2, _ => exact ⟨rfl, rfl⟩
  | 3, _ => exact ⟨rfl, rfl⟩
theorem bs_eq {s : ByteArray} {l : List UInt8} (h : bs s = l) : s = ⟨l.toArray⟩ := by
  subst h; cases s; simp [bs]
theorem class_yes (name : ByteArray) (w : World) (h : classL (bs name) ≠ []) : Calls Tryz.prog 140 #[.string name] w (RgsPost (classL (bs name)) w) := by
  by_cases h_alnum : bs name = [97, 108, 110, 117, 109]
  · rw [h_alnum, bs_eq h_alnum]; exact class_alnum w
  by_cases h_alpha : bs name = [97, 108, 112, 104, 97]
  · rw [h_alpha, bs_eq h_alpha]; exact class_alpha w
  by_cases h_blank : bs name = [98, 108, 97, 110, 107]
  · rw [h_blank, bs_eq h_blank]; exact class_blank w
  by_cases h_space : bs name = [115, 112, 97, 99, 101]
  · rw [h_space, bs_eq h_space]; exact class_space w
  by_cases h_cntrl : bs name = [99, 110, 116, 114, 108]
  · rw [h_cntrl, bs_eq h_cntrl]; exact class_cntrl w
  by_cases h_print : bs name = [112, 114, 105, 110, 116]
  · rw [h_print, bs_eq h_print]; exact class_print w
  by_cases h_graph : bs name = [103, 114, 97, 112, 104]
  · rw [h_graph, bs_eq h_graph]; exact class_graph w
  by_cases h_digit : bs name = [100, 105, 103, 105, 116]
  · rw [h_digit, bs_eq h_digit]; exact class_digit w
  by_cases h_xdigit : bs name = [120, 100, 105, 103, 105, 116]
  · rw [h_xdigit, bs_eq h_xdigit]; exact class_xdigit w
  by_cases h_lower : bs name = [108, 111, 119, 101, 114]
  · rw [h_lower, bs_eq h_lower]; exact class_lower w
  by_cases h_upper : bs name = [117, 112, 112, 101, 114]
  · rw [h_upper, bs_eq h_upper]; exact class_upper w
  by_cases h_punct : bs name = [112, 117, 110, 99, 116]
  · rw [h_punct, bs_eq h_punct]; exact class_punct w
  refine absurd ?_ h
  unfold classL
  rw [if_neg h_alnum, if_neg h_alpha, if_neg h_blank, if_neg h_space, if_neg h_cntrl, if_neg h_print, if_neg h_graph, if_neg h_digit, if_neg h_xdigit, if_neg h_lower, if_neg h_upper, if_neg h_punct]
theorem classL_no {n : List UInt8} (h : classL n = []) : n ≠ [97, 108, 110, 117, 109] ∧ n ≠ [97, 108, 112, 104, 97] ∧ n ≠ [98, 108, 97, 110, 107] ∧ n ≠ [115, 112, 97, 99, 101] ∧ n ≠ [99, 110, 116, 114, 108] ∧ n ≠ [112, 114, 105, 110, 116] ∧ n ≠ [103, 114, 97, 112, 104] ∧ n ≠ [100, 105, 103, 105, 116] ∧ n ≠ [120, 100, 105, 103, 105, 116] ∧ n ≠ [108, 111, 119, 101, 114] ∧ n ≠ [117, 112, 112, 101, 114] ∧ n ≠ [112, 117, 110, 99, 116] := by
  refine ⟨?_, ?_, ?_, ?_, ?_, ?_, ?_, ?_, ?_, ?_, ?_, ?_⟩ <;> (rintro rfl; revert h; decide)
set_option maxHeartbeats 1000000 in
theorem class_no (name : ByteArray) (w : World) (h : classL (bs name) = []) : Calls Tryz.prog 140 #[.string name] w fun e w' => e = .returned (.slice none 0 0) ∧ w = w' := by
  obtain ⟨h0, h1, h2, h3, h4, h5, h6, h7, h8, h9, h10, h11⟩ := classL_no h
  have e0 : (name.toList == [97, 108, 110, 117, 109]) = false := by rw [beq_eq_false_iff_ne]; exact fun hh => h0 (by rw [← hh]; simp [bs, ByteArray.toList_eq])
  have e1 : (name.toList == [97, 108, 112, 104, 97]) = false := by rw [beq_eq_false_iff_ne]; exact fun hh => h1 (by rw [← hh]; simp [bs, ByteArray.toList_eq])
  have e2 : (name.toList == [98, 108, 97, 110, 107]) = false := by rw [beq_eq_false_iff_ne]; exact fun hh => h2 (by rw [← hh]; simp [bs, ByteArray.toList_eq])
  have e3 : (name.toList == [115, 112, 97, 99, 101]) = false := by rw [beq_eq_false_iff_ne]; exact fun hh => h3 (by rw [← hh]; simp [bs, ByteArray.toList_eq])
  have e4 : (name.toList == [99, 110, 116, 114, 108]) = false := by rw [beq_eq_false_iff_ne]; exact fun hh => h4 (by rw [← hh]; simp [bs, ByteArray.toList_eq])
  have e5 : (name.toList == [112, 114, 105, 110, 116]) = false := by rw [beq_eq_false_iff_ne]; exact fun hh => h5 (by rw [← hh]; simp [bs, ByteArray.toList_eq])
  have e6 : (name.toList == [103, 114, 97, 112, 104]) = false := by rw [beq_eq_false_iff_ne]; exact fun hh => h6 (by rw [← hh]; simp [bs, ByteArray.toList_eq])
  have e7 : (name.toList == [100, 105, 103, 105, 116]) = false := by rw [beq_eq_false_iff_ne]; exact fun hh => h7 (by rw [← hh]; simp [bs, ByteArray.toList_eq])
  have e8 : (name.toList == [120, 100, 105, 103, 105, 116]) = false := by rw [beq_eq_false_iff_ne]; exact fun hh => h8 (by rw [← hh]; simp [bs, ByteArray.toList_eq])
  have e9 : (name.toList == [108, 111, 119, 101, 114]) = false := by rw [beq_eq_false_iff_ne]; exact fun hh => h9 (by rw [← hh]; simp [bs, ByteArray.toList_eq])
  have e10 : (name.toList == [117, 112, 112, 101, 114]) = false := by rw [beq_eq_false_iff_ne]; exact fun hh => h10 (by rw [← hh]; simp [bs, ByteArray.toList_eq])
  have e11 : (name.toList == [112, 117, 110, 99, 116]) = false := by rw [beq_eq_false_iff_ne]; exact fun hh => h11 (by rw [← hh]; simp [bs, ByteArray.toList_eq])
  clear h h0 h1 h2 h3 h4 h5 h6 h7 h8 h9 h10 h11
  go_enter Tryz.func140, Tryz.ntmps140
  go_wp2
  go_ret
  exact ⟨rfl, rfl⟩
end Go.Proofs.YtndjgeohkfenfaaGreatDoor.Globs

