/- Marked texts in memory: read, cut; 'Of', 'Plain' walked. -/
import Derived.Test.YtlpfcnpdecoblaaDoorSep
import Derived.Test.YtlpfcnpdecoblaaDoorOth
import Derived.Test.YtlpfcnpdecoblaaDoorHeld
import Derived.Test.YtlpfcnpdecoblaaDoorRows
import Derived.Lib.Hide
import Derived.BigQuiet
import Derived.Deep.QuietTactic
import Derived.Deep.DeepCutAuto
import Derived.Deep.LoopGhost
import Derived.Deep.RegionHeld3
import Derived.Deep.DeepFit
import Derived.Deep.CutBlock
import Derived.Outline
import Derived.ProofKit
import Derived.OpenShut
import Derived.ShutString
import Derived.ChangeOld
import Derived.Deep.Slices
import Derived.Lib.SmallJoins
import Derived.OwnWalk
import Derived.Laws.NewBlocks
import Derived.Deep.RegionLaw
namespace Go.Proofs.YtlpfcnpdecoblaaDoor.Marks
open Go.ChangeShapes Go.WideShapes Go.ChangeAt Go.RowKit Go.Proofs.YtlpfcnpdecoblaaDoor Go.Proofs.YtlpfcnpdecoblaaDoor.Hp
set_option linter.unusedVariables false

/-- A byte, and whether it was quoted. -/
structure Ch where
  b : UInt8
  q : Bool
deriving DecidableEq
instance : Inhabited Ch := ⟨⟨0, false⟩⟩
def I64 (x : Int) : Prop := -9223372036854775808 ≤ x ∧ x ≤ 9223372036854775807
/-- What was there is as it was. -/
def Kept (W w : World) : Prop := W.heap.size ≤ w.heap.size ∧ ∀ k, k < W.heap.size → w.heap[k]? = W.heap[k]?
theorem Kept.cell {W w : World} (h : Kept W w) {b : Nat} (hb : b < W.heap.size) (j : Nat) : w.cell? ⟨b, j, none⟩ = W.cell? ⟨b, j, none⟩ := World.cell?_of_block (w := W) (h.2 b hb)
theorem Kept.refl (w : World) : Kept w w := ⟨Nat.le_refl _, fun _ _ => rfl⟩
theorem Kept.trans {a b c : World} (h : Kept a b) (k : Kept b c) : Kept a c := ⟨Nat.le_trans h.1 k.1, fun i hi => (k.2 i (Nat.lt_of_lt_of_le hi h.1)).trans (h.2 i hi)⟩
theorem Kept.below {w w' : World} (h : Below w.heap.size w w') : Kept w w' := ⟨h.size, h.block⟩
theorem u8_beq (a b : UInt8) : (((a.toNat : Nat) : Int) == ((b.toNat : Nat) : Int)) = (a == b) := by
  rw [Bool.eq_iff_iff, beq_iff_eq, beq_iff_eq]
  constructor
  · intro h; exact UInt8.toNat_inj.1 (by omega)
  · rintro rfl; rfl
theorem u8_le (a b : UInt8) : decide (((a.toNat : Nat) : Int) ≤ ((b.toNat : Nat) : Int)) = decide (a ≤ b) := by
  rw [decide_eq_decide, UInt8.le_iff_toNat_le]; omega
abbrev bs (s : ByteArray) : List UInt8 := s.data.toList
theorem bs_length (s : ByteArray) : (bs s).length = s.size := Array.length_toList
theorem bs_get (s : ByteArray) (i : Nat) (h : i < s.size) : (bs s)[i]? = some s[i] := by
  rw [List.getElem?_eq_getElem (by rw [bs_length]; exact h)]; rfl
theorem u8_lit (c : UInt8) (k : Nat) (hk : k < 256) : (((c.toNat : Nat) : Int) == (k : Int)) = (c == UInt8.ofNat k) := by
  have := u8_beq c (UInt8.ofNat k)
  rw [show (UInt8.ofNat k).toNat = k by rw [UInt8.toNat_ofNat']; omega] at this
  exact this
theorem kept_alloc (w : World) (o : Obj) : Kept w (w.alloc o) := ⟨by simp, fun k hk => Below.heap_alloc w o k hk⟩
theorem kept_set {W w : World} (h : Kept W w) {b : Nat} (hb : W.heap.size ≤ b) (i : Nat) (v : Value) : Kept W (w.setCell ⟨b, i, none⟩ v) :=
  ⟨by simpa [World.setCell] using h.1, fun k hk => (Below.heap_setCell w ⟨b, i, none⟩ v k (by show k ≠ b; omega)).trans (h.2 k hk)⟩
theorem kept_drew {W w : World} (h : Kept W w) : Kept W w.drew := h
theorem block_new {w : World} {o : Obj} {b : Nat} (h : w.heap.size = b) : (w.alloc o).heap[b]? = some o := by subst h; exact heap_alloc_new w o
theorem own : ownKnob Tryd.prog.godebug = none := by kernel_rfl
theorem laidOut : laidOutB Tryd.prog = true := by kernel_rfl
theorem cellsInt : Tryd.prog.cellsOf 3 = 1 := by kernel_rfl
theorem cellsU8 : Tryd.prog.cellsOf 5 = 1 := by kernel_rfl
theorem cellsBool : Tryd.prog.cellsOf 4 = 1 := by kernel_rfl
theorem i64_of {x : Int} (h : (Lit.int .i64 x).wf = true) : I64 x := by
  simp [Lit.wf, IntKind.min, IntKind.max, IntKind.signed, IntKind.bits] at h
  exact ⟨by omega, by omega⟩
theorem u8_of {x : Int} (h : (Lit.int .u8 x).wf = true) : ∃ c : UInt8, x = (c.toNat : Int) := by
  simp [Lit.wf, IntKind.min, IntKind.max, IntKind.signed, IntKind.bits] at h
  refine ⟨UInt8.ofNat x.toNat, ?_⟩
  rw [UInt8.toNat_ofNat']; omega
def FPost (v : Bool) (w : World) (e : Ending) (w' : World) : Prop := e = .returned (.bool v) ∧ Below w.heap.size w w'
/-- A marked text that lies in memory. -/
def CharsAt (w : World) (ao : Option Addr) (cap : Nat) (l : List Ch) : Prop :=
  l.length ≤ cap ∧ (cap : Int) ≤ 9223372036854775807 ∧ ∀ i (h : i < l.length), ∃ b o, ao = some ⟨b, o, none⟩ ∧ b < w.heap.size ∧ w.cell? ⟨b, o + i * 2, none⟩ = some (.int .u8 l[i].b.toNat) ∧ w.cell? ⟨b, o + i * 2 + 1, none⟩ = some (.bool l[i].q)
theorem CharsAt.keep {W w : World} {ao : Option Addr} {cap : Nat} {l : List Ch} (h : CharsAt W ao cap l) (k : Kept W w) : CharsAt w ao cap l :=
  ⟨h.1, h.2.1, fun i hi => by
    obtain ⟨b, o, e, hb, h0, h1⟩ := h.2.2 i hi
    exact ⟨b, o, e, Nat.lt_of_lt_of_le hb k.1, by rw [k.cell hb]; exact h0, by rw [k.cell hb]; exact h1⟩⟩
/-- Where a slice begins that is cut n elements on. -/
def tailA (ao : Option Addr) (n cap sz : Nat) : Option Addr := if cap = n then ao else ao.map (·.add (n * sz))
theorem run_slice_from {P : Program} (t e : TypeId) (i : TypeInfo) (sz : Nat) (ht : P.underlying t = some (.slice e)) (hi : P.info? e = some i) (hs : i.size = sz) (ao : Option Addr) (len cap n : Nat) (hn : n ≤ len) (w : World) :
    (Instr.slice t (.slice ao len cap) (some (.int .i64 n)) none none).run P w = .ok (.slice (tailA ao n cap sz) (len - n) (cap - n)) w := by
  subst hs
  have h1 : (0 : Int) ≤ n := by omega
  simp [Instr.slice, Instr.sliceBounds, Instr.sliceBound, run_underlying ht, asIntOf, sizeOf, typeInfo, hi, h1, hn, tailA]
theorem CharsAt.tail {w : World} {ao : Option Addr} {cap : Nat} {l : List Ch} (h : CharsAt w ao cap l) (n : Nat) (hn : n ≤ l.length) : CharsAt w (tailA ao n cap 2) (cap - n) (l.drop n) := by
  obtain ⟨h1, h2, h3⟩ := h
  refine ⟨by rw [List.length_drop]; omega, by omega, fun i hi => ?_⟩
  rw [List.length_drop] at hi
  obtain ⟨b, o, rfl, hb, g0, g1⟩ := h3 (n + i) (by omega)
  have hc : cap ≠ n := by omega
  refine ⟨b, o + n * 2, by unfold tailA; rw [if_neg hc]; simp [Addr.add], hb, ?_, ?_⟩
  · rw [List.getElem_drop, ← g0]; congr 2; rw [Nat.add_mul]; omega
  · rw [List.getElem_drop, ← g1]; congr 2; rw [Nat.add_mul]; omega
theorem CharsAt.take {w : World} {ao : Option Addr} {cap : Nat} {l : List Ch} (h : CharsAt w ao cap l) (n : Nat) : CharsAt w ao cap (l.take n) := by
  obtain ⟨h1, h2, h3⟩ := h
  refine ⟨by rw [List.length_take]; omega, h2, fun i hi => ?_⟩
  rw [List.length_take] at hi
  rw [List.getElem_take]
  exact h3 i (by omega)
theorem infoCh : (Tryd.prog.info? 37).map (fun i => (i.zero, i.size, i.bytes)) = some (some (.agg #[.int .u8 0, .bool false]), 2, 2) := by kernel_rfl
theorem slice_from (ao : Option Addr) (len cap n : Nat) (hn : n ≤ len) (w : World) :
    (Instr.slice 22 (.slice ao len cap) (some (.int .i64 n)) none none).run Tryd.prog w = .ok (.slice (tailA ao n cap 2) (len - n) (cap - n)) w := by
  obtain ⟨i0, hi, hz0, hz1, hz2⟩ := info_parts infoCh
  exact run_slice_from _ _ i0 2 Tryd.underlying22 hi hz1 ao len cap n hn w
theorem run_slice_mid {P : Program} (t e : TypeId) (i : TypeInfo) (sz : Nat) (ht : P.underlying t = some (.slice e)) (hi : P.info? e = some i) (hs : i.size = sz) (ao : Option Addr) (len cap lo n : Nat) (h0 : lo ≤ n) (hn : n ≤ cap) (w : World) :
    (Instr.slice t (.slice ao len cap) (some (.int .i64 lo)) (some (.int .i64 n)) none).run P w = .ok (.slice (tailA ao lo cap sz) (n - lo) (cap - lo)) w := by
  subst hs
  have h1 : (0 : Int) ≤ n := by omega
  have h2 : (0 : Int) ≤ lo := by omega
  simp [Instr.slice, Instr.sliceBounds, Instr.sliceBound, run_underlying ht, asIntOf, sizeOf, typeInfo, hi, h0, h1, h2, hn, tailA]
theorem slice_mid (ao : Option Addr) (len cap lo n : Nat) (h0 : lo ≤ n) (hn : n ≤ cap) (w : World) :
    (Instr.slice 22 (.slice ao len cap) (some (.int .i64 lo)) (some (.int .i64 n)) none).run Tryd.prog w = .ok (.slice (tailA ao lo cap 2) (n - lo) (cap - lo)) w := by
  obtain ⟨i0, hi, hz0, hz1, hz2⟩ := info_parts infoCh
  exact run_slice_mid _ _ i0 2 Tryd.underlying22 hi hz1 ao len cap lo n h0 hn w
theorem bs_drop (s : ByteArray) (i : Nat) (h : i < s.size) : (bs s).drop i = s[i] :: (bs s).drop (i + 1) := by
  rw [List.drop_eq_getElem_cons (by rw [bs_length]; exact h)]; rfl
def markL (l : List UInt8) (q : Bool) : List Ch := l.map fun b => ⟨b, q⟩
/-- The cells of a marked text. -/
def chCells (l : List Ch) : List Value := l.flatMap fun c => [.int .u8 c.b.toNat, .bool c.q]
theorem chCells_length (l : List Ch) : (chCells l).length = l.length * 2 := by
  unfold chCells
  induction l with
  | nil => rfl
  | cons c l ih => simp only [List.flatMap_cons, List.length_append, List.length_cons, List.length_nil, ih]; omega
theorem chCells_snoc (l : List Ch) (c : Ch) : chCells (l ++ [c]) = chCells l ++ [.int .u8 c.b.toNat, .bool c.q] := by unfold chCells; simp
theorem chCells_get (l : List Ch) (i : Nat) (h : i < l.length) : (chCells l)[i * 2]? = some (.int .u8 l[i].b.toNat) ∧ (chCells l)[i * 2 + 1]? = some (.bool l[i].q) := by
  induction l generalizing i with
  | nil => simp at h
  | cons c l ih =>
    cases i with
    | zero => exact ⟨rfl, rfl⟩
    | succ i =>
      have := ih i (by simpa using h)
      rw [show (i + 1) * 2 = i * 2 + 2 by omega]
      exact this
def OfRel (s : ByteArray) (q : Bool) (w : World) (ob : Nat) (g : Nat) (iv : Value) (wr : World) : Prop :=
  ∃ (i : Nat) (cur : Array Value), i + g = s.size ∧ iv = .int .i64 (i : Int) ∧ cur.size = s.size * 2 ∧ (∀ j, j < i * 2 → cur[j]? = (chCells (markL (bs s) q))[j]?) ∧ Sat wr (pts ob (.cells cur 37 (0, 0)) * keep w) ∧ Ran w wr
theorem size_made2 (n : Nat) : (madeCells #[Value.int .u8 0, .bool false] (n * 2)).size = n * 2 := by simp [size_madeCells]
theorem made2 (P : Program) (t e : TypeId) (i : TypeInfo) (z : Value) (ht : P.underlying t = some (.slice e)) (hi : P.info? e = some i) (hz : i.zero = some z) (n : Nat) (hb : i.bytes * n ≤ 281474976710656) (h63 : n ≤ 9223372036854775807) (w : World) :
    (Instr.makeSlice t (.int .i64 (n : Int)) (.int .i64 (n : Int))).run P w = .ok (.slice (some ⟨w.heap.size, 0, none⟩) n n) (w.alloc (.cells (madeCells z.cells (n * i.size)) e)) := by
  have hb' : (i.bytes : Int) * (n : Int) ≤ 281474976710656 := by
    have h : ((i.bytes * n : Nat) : Int) ≤ 281474976710656 := by omega
    rwa [Int.natCast_mul] at h
  have hr := run_make (P := P) w t e i z ht hi hz .i64 .i64 n n (by omega) (by omega) hb' (by omega)
  simp only [Int.toNat_natCast] at hr
  exact hr
def CharsPost (l : List Ch) (w : World) (e : Ending) (w' : World) : Prop := ∃ ao cap, e = .returned (.slice ao l.length cap) ∧ CharsAt w' ao cap l ∧ Below w.heap.size w w'
set_option maxHeartbeats 1000000 in
theorem of_calls (s : ByteArray) (q : Bool) (w : World) (hm : s.size ≤ 100000) :
    Calls Tryd.prog 29 #[.string s, .bool q] w (CharsPost (markL (bs s) q) w) := by
  obtain ⟨i0, hi0, hz0, hz1, hz2⟩ := info_parts infoCh
  have hmk := made2 Tryd.prog 22 37 i0 _ Tryd.underlying22 hi0 hz0 s.size (by rw [hz2]; omega) (by omega)
  rw [hz1] at hmk
  have H0 := (Sat.start w).alloc (.cells (madeCells #[.int .u8 0, .bool false] (s.size * 2)) 37)
  have hml : (markL (bs s) q).length = s.size := by unfold markL; rw [List.length_map, bs_length]
  have hsl : (s.size : Int) ≤ 100000 := by omega
  obtain ⟨ob, hob⟩ : ∃ ob, ob = w.heap.size := ⟨_, rfl⟩
  have Hml := Lib.hid hml
  clear hz0 hz1 hz2 hi0 hml
  go_enter Tryd.func29, Tryd.ntmps29
  go_wp2
  rw [← hob]
  rw [← hob] at H0
  have Hob := Lib.hid hob
  clear hob hmk
  go_loopg [12] (s.size) (OfRel s q w ob)
  case atStart => exact ⟨0, _, by omega, rfl, size_made2 _, fun j hj => absurd hj (Nat.not_lt_zero j), H0, Ran.new (Below.refl _ _) _⟩
  case round =>
    clear H0
    obtain ⟨i, cur, hig, rfl, hcs, hcur, HS, HR⟩ := hrel
    have hi0 : (0 : Int) ≤ i := by omega
    by_cases hi : i < s.size
    · have hil : (i : Int) < s.size := by omega
      have k0 : wr.cell? ⟨ob, i * 2, none⟩ = some (cur[i * 2]'(by omega)) := by rw [cell_at HS.get, Array.getElem?_eq_getElem]
      have k1 : wr.cell? ⟨ob, i * 2 + 1, none⟩ = some (cur[i * 2 + 1]'(by omega)) := by rw [cell_at HS.get, Array.getElem?_eq_getElem]
      have kf : ∀ j, wr.frozen? ⟨ob, j, none⟩ = false := free_at HS.get
      have S2 := (HS.set (i := i * 2) (.int .u8 s[i].toNat)).set (i := i * 2 + 1) (.bool q)
      have R2 := Ran.set (Ran.set HR ⟨ob, i * 2, none⟩ (.int .u8 s[i].toNat)) ⟨ob, i * 2 + 1, none⟩ (.bool q)
      have hg := chCells_get (markL (bs s) q) i (by rw [Hml.out]; exact hi)
      have e1 : (markL (bs s) q)[i]'(by rw [Hml.out]; exact hi) = ⟨s[i], q⟩ := by unfold markL; simp only [List.getElem_map]; rfl
      rw [e1] at hg
      have hcur2 : ∀ j, j < (i + 1) * 2 → ((cur.setIfInBounds (i * 2) (.int .u8 s[i].toNat)).setIfInBounds (i * 2 + 1) (.bool q))[j]? = (chCells (markL (bs s) q))[j]? := fun j hj => by
        by_cases j1 : j = i * 2 + 1
        · subst j1; rw [Array.getElem?_setIfInBounds_self_of_lt (by simp; omega)]; exact hg.2.symm
        · rw [Array.getElem?_setIfInBounds_ne (by omega)]
          by_cases j0 : j = i * 2
          · subst j0; rw [Array.getElem?_setIfInBounds_self_of_lt (by omega)]; exact hg.1.symm
          · rw [Array.getElem?_setIfInBounds_ne (by omega)]; exact hcur j (by omega)
      have Hcur2 := Lib.hid hcur2
      have Hig := Lib.hid hig
      have Hcs := Lib.hid hcs
      generalize cur[i * 2]'(by omega) = v0 at k0
      generalize cur[i * 2 + 1]'(by omega) = v1 at k1
      clear hcur hcur2 hig hg e1 HS HR
      go_wp2_with fail
      go_roundg (gk - 1)
      case measure => have := Hig.out; omega
      case rel => exact ⟨i + 1, _, by have := Hig.out; omega, by go_num, by simp; exact Hcs.out, Hcur2.out, S2, R2⟩
    · have hge : ¬ ((i : Int) < s.size) := by omega
      obtain rfl : i = s.size := by omega
      have Hcur := Lib.hid hcur
      clear hcur hig
      go_wp2_with fail
      go_ret
      refine ⟨some ⟨ob, 0, none⟩, s.size, show Ending.returned (.slice (some ⟨ob, 0, none⟩) s.size s.size) = _ by rw [Hml.out], ⟨by rw [Hml.out]; exact Nat.le_refl _, by omega, fun i hi => ?_⟩, HR.whole HS⟩
      rw [Hml.out] at hi
      have hg := chCells_get (markL (bs s) q) i (by rw [Hml.out]; exact hi)
      refine ⟨ob, 0, rfl, HS.lt, ?_, ?_⟩
      · rw [Nat.zero_add, cell_at HS.get, Hcur.out _ (by omega)]; exact hg.1
      · rw [Nat.zero_add, cell_at HS.get, Hcur.out _ (by omega)]; exact hg.2
def PlRel (t : List Ch) (w : World) (ob : Nat) (g : Nat) (iv : Value) (wr : World) : Prop :=
  ∃ (i : Nat) (cur : Array Value), i + g = t.length ∧ iv = .int .i64 (i : Int) ∧ cur.size = t.length ∧ (∀ j (h : j < t.length), j < i → cur[j]? = some (.int .u8 t[j].b.toNat)) ∧ Sat wr (pts ob (.cells cur 5 (0, 0)) * keep w) ∧ Ran w wr
theorem infoU8 : (Tryd.prog.info? 5).map (fun i => (i.zero, i.size, i.bytes)) = some (some (.int .u8 0), 1, 1) := by kernel_rfl
def PlainPost (t : List Ch) (w : World) (e : Ending) (w' : World) : Prop := e = .returned (.string ⟨(t.map (·.b)).toArray⟩) ∧ Below w.heap.size w w'
set_option maxHeartbeats 1000000 in
theorem plain_calls (t : List Ch) (ao : Option Addr) (cap : Nat) (w : World) (h : CharsAt w ao cap t) (hm : t.length ≤ 100000) :
    Calls Tryd.prog 21 #[.slice ao t.length cap] w (PlainPost t w) := by
  obtain ⟨i0, hi0, hz0, hz1, hz2⟩ := info_parts infoU8
  have hmk := made2 Tryd.prog 68 5 i0 _ Tryd.underlying68 hi0 hz0 t.length (by rw [hz2]; omega) (by omega)
  rw [hz1, Nat.mul_one] at hmk
  have H0 := (Sat.start w).alloc (.cells (madeCells #[.int .u8 0] t.length) 5)
  have hsl : (t.length : Int) ≤ 100000 := by omega
  obtain ⟨ob, hob⟩ : ∃ ob, ob = w.heap.size := ⟨_, rfl⟩
  obtain ⟨h1, h2, h3⟩ := h
  clear hz0 hz1 hz2 hi0
  go_enter Tryd.func21, Tryd.ntmps21
  go_wp2
  rw [← hob]
  rw [← hob] at H0
  have Hob := Lib.hid hob
  clear hob hmk
  go_loopg [11] (t.length) (PlRel t w ob)
  case atStart => exact ⟨0, _, by omega, rfl, by simp [size_madeCells], fun j _ hj => absurd hj (Nat.not_lt_zero j), H0, Ran.new (Below.refl _ _) _⟩
  case round =>
    clear H0
    obtain ⟨i, cur, hig, rfl, hcs, hcur, HS, HR⟩ := hrel
    have hi0 : (0 : Int) ≤ i := by omega
    by_cases hi : i < t.length
    · have hil : (i : Int) < t.length := by omega
      obtain ⟨tb, o, rfl, htb, c0, c1⟩ := h3 i hi
      have c0' : wr.cell? ⟨tb, o + i * 2, none⟩ = some (.int .u8 t[i].b.toNat) := (World.cell?_of_block (HS.right.kept tb htb)).trans c0
      have c1' : wr.cell? ⟨tb, o + i * 2 + 1, none⟩ = some (.bool t[i].q) := (World.cell?_of_block (HS.right.kept tb htb)).trans c1
      have k0 : wr.cell? ⟨ob, i, none⟩ = some (cur[i]'(by omega)) := by rw [cell_at HS.get, Array.getElem?_eq_getElem]
      have S1 := HS.old (.cells #[.int .u8 t[i].b.toNat, .bool t[i].q] 37)
      have k0' : (wr.alloc (.cells #[.int .u8 t[i].b.toNat, .bool t[i].q] 37)).cell? ⟨ob, i, none⟩ = some (cur[i]'(by omega)) := by rw [cell_at S1.get, Array.getElem?_eq_getElem]
      have kf : ∀ j, (wr.alloc (.cells #[.int .u8 t[i].b.toNat, .bool t[i].q] 37)).frozen? ⟨ob, j, none⟩ = false := free_at S1.get
      have S2 := S1.set (i := i) (.int .u8 t[i].b.toNat)
      have R2 := Ran.set (Ran.new HR (.cells #[.int .u8 t[i].b.toNat, .bool t[i].q] 37)) ⟨ob, i, none⟩ (.int .u8 t[i].b.toNat)
      have hcur2 : ∀ j (h : j < t.length), j < i + 1 → (cur.setIfInBounds i (.int .u8 t[i].b.toNat))[j]? = some (.int .u8 t[j].b.toNat) := fun j hj hj2 => by
        by_cases j1 : j = i
        · subst j1; rw [Array.getElem?_setIfInBounds_self_of_lt (by omega)]
        · rw [Array.getElem?_setIfInBounds_ne (by omega)]; exact hcur j hj (by omega)
      have Hcur2 := Lib.hid hcur2
      have Hig := Lib.hid hig
      have Hcs := Lib.hid hcs
      generalize cur[i]'(by omega) = v0 at k0 k0'
      generalize t[i] = c at *
      clear hcur hcur2 hig HS HR h3 c0 c1
      go_wp2_with fail
      go_roundg (gk - 1)
      case measure => have := Hig.out; omega
      case rel => exact ⟨i + 1, _, by have := Hig.out; omega, by go_num, by simp; exact Hcs.out, Hcur2.out, S2, R2⟩
    · have hge : ¬ ((i : Int) < t.length) := by omega
      obtain rfl : i = t.length := by omega
      have hcv : (convert 68 9 (.slice (some ⟨ob, 0, none⟩) t.length t.length)).run Tryd.prog wr = .ok (.string ⟨(t.map (·.b)).toArray⟩) wr := by
        have := run_convert_bytes_back (P := Tryd.prog) wr 68 9 5 ⟨ob, 0, none⟩ t.length (t.map (·.b)) Tryd.underlying68 Tryd.underlying5 Tryd.underlying9 (fun j hj => by
          rw [List.length_map] at hj
          rw [Addr.add_lit, Nat.zero_add, cell_at HS.get, hcur j hj hj]
          simp)
        rw [List.length_map] at this
        exact this
      clear hcur hig
      go_wp2
      go_ret
      exact ⟨rfl, HR.whole HS⟩
theorem of_lit (s : ByteArray) (q : Bool) (w : World) (t : List Ch) (n : Nat) (ht : markL (bs s) q = t) (hn : t.length = n) (hm : s.size ≤ 100000) :
    Calls Tryd.prog 29 #[.string s, .bool q] w fun e w' => (∃ ao cap, e = .returned (.slice ao n cap) ∧ CharsAt w' ao cap t) ∧ Below w.heap.size w w' := by
  refine (of_calls s q w hm).mono ?_
  rintro e w' ⟨ao, cap, rfl, h1, h2⟩
  subst ht hn
  exact ⟨⟨ao, cap, rfl, h1⟩, h2⟩
theorem bs_mk (l : List UInt8) : bs ⟨l.toArray⟩ = l := rfl
theorem bs_eq {s : ByteArray} {l : List UInt8} (h : bs s = l) : s = ⟨l.toArray⟩ := by
  subst h; cases s; simp [bs]
end Go.Proofs.YtlpfcnpdecoblaaDoor.Marks
