/- Texts: facts on bytes; strings.IndexByte, strings.HasPrefix walked. -/
import Derived.Test.YtlhkochpokhncaaDoorSep
import Derived.Test.YtlhkochpokhncaaDoorOth
import Derived.Test.YtlhkochpokhncaaDoorHeld
import Derived.Test.YtlhkochpokhncaaDoorRows
import Derived.Lib.Hide
import Derived.BigQuiet
import Derived.Deep.QuietTactic
import Derived.Deep.DeepCutAuto
import Derived.Deep.LoopGhost
import Derived.Deep.RegionHeld3
import Derived.Deep.DeepFit
import Derived.Deep.CutBlock
import Derived.Outline
import Derived.ProofKit
import Derived.OpenShut
import Derived.ShutString
import Derived.ChangeOld
import Derived.Deep.Slices
import Derived.Lib.SmallJoins
import Derived.OwnWalk
import Derived.Laws.NewBlocks
import Derived.Deep.RegionLaw
import Derived.Lib.Bytealg
import Derived.Laws.Externs
namespace Go.Proofs.YtlhkochpokhncaaDoor.Lexer
open Go.RowKit Go.Proofs.YtlhkochpokhncaaDoor Go.Proofs.YtlhkochpokhncaaDoor.Hp
set_option linter.unusedVariables false
attribute [local go_sem] Oper.semAt_some

abbrev bs (s : ByteArray) : List UInt8 := s.data.toList
def I64 (x : Int) : Prop := -9223372036854775808 ≤ x ∧ x ≤ 9223372036854775807
/-- What was there is as it was. -/
def Kept (W w : World) : Prop := W.heap.size ≤ w.heap.size ∧ ∀ k, k < W.heap.size → w.heap[k]? = W.heap[k]?
theorem Kept.cell {W w : World} (h : Kept W w) {b : Nat} (hb : b < W.heap.size) (j : Nat) : w.cell? ⟨b, j, none⟩ = W.cell? ⟨b, j, none⟩ := World.cell?_of_block (w := W) (h.2 b hb)
theorem Kept.refl (w : World) : Kept w w := ⟨Nat.le_refl _, fun _ _ => rfl⟩
theorem Kept.trans {a b c : World} (h : Kept a b) (k : Kept b c) : Kept a c := ⟨Nat.le_trans h.1 k.1, fun i hi => (k.2 i (Nat.lt_of_lt_of_le hi h.1)).trans (h.2 i hi)⟩
theorem Kept.below {w w' : World} (h : Below w.heap.size w w') : Kept w w' := ⟨h.size, h.block⟩
theorem u8_beq (a b : UInt8) : (((a.toNat : Nat) : Int) == ((b.toNat : Nat) : Int)) = (a == b) := by
  rw [Bool.eq_iff_iff, beq_iff_eq, beq_iff_eq]
  constructor
  · intro h; exact UInt8.toNat_inj.1 (by omega)
  · rintro rfl; rfl
theorem u8_le (a b : UInt8) : decide (((a.toNat : Nat) : Int) ≤ ((b.toNat : Nat) : Int)) = decide (a ≤ b) := by
  rw [decide_eq_decide, UInt8.le_iff_toNat_le]; omega
theorem bs_length (s : ByteArray) : (bs s).length = s.size := Array.length_toList
theorem bs_get (s : ByteArray) (i : Nat) (h : i < s.size) : (bs s)[i]? = some s[i] := by
  rw [List.getElem?_eq_getElem (by rw [bs_length]; exact h)]; rfl
theorem u8_lit (c : UInt8) (k : Nat) (hk : k < 256) : (((c.toNat : Nat) : Int) == (k : Int)) = (c == UInt8.ofNat k) := by
  have := u8_beq c (UInt8.ofNat k)
  rw [show (UInt8.ofNat k).toNat = k by rw [UInt8.toNat_ofNat']; omega] at this
  exact this
theorem kept_alloc (w : World) (o : Obj) : Kept w (w.alloc o) := ⟨by simp, fun k hk => Below.heap_alloc w o k hk⟩
theorem kept_set {W w : World} (h : Kept W w) {b : Nat} (hb : W.heap.size ≤ b) (i : Nat) (v : Value) : Kept W (w.setCell ⟨b, i, none⟩ v) :=
  ⟨by simpa [World.setCell] using h.1, fun k hk => (Below.heap_setCell w ⟨b, i, none⟩ v k (by show k ≠ b; omega)).trans (h.2 k hk)⟩
theorem kept_drew {W w : World} (h : Kept W w) : Kept W w.drew := h
theorem block_new {w : World} {o : Obj} {b : Nat} (h : w.heap.size = b) : (w.alloc o).heap[b]? = some o := by subst h; exact heap_alloc_new w o
theorem own : ownKnob Tryd.prog.godebug = none := by kernel_rfl
theorem laidOut : laidOutB Tryd.prog = true := by kernel_rfl
theorem cellsInt : Tryd.prog.cellsOf 3 = 1 := by kernel_rfl
theorem cellsU8 : Tryd.prog.cellsOf 5 = 1 := by kernel_rfl
theorem cellsBool : Tryd.prog.cellsOf 4 = 1 := by kernel_rfl
theorem i64_of {x : Int} (h : (Lit.int .i64 x).wf = true) : I64 x := by
  simp [Lit.wf, IntKind.min, IntKind.max, IntKind.signed, IntKind.bits] at h
  exact ⟨by omega, by omega⟩
theorem u8_of {x : Int} (h : (Lit.int .u8 x).wf = true) : ∃ c : UInt8, x = (c.toNat : Int) := by
  simp [Lit.wf, IntKind.min, IntKind.max, IntKind.signed, IntKind.bits] at h
  refine ⟨UInt8.ofNat x.toNat, ?_⟩
  rw [UInt8.toNat_ofNat']; omega
def FPost (v : Bool) (w : World) (e : Ending) (w' : World) : Prop := e = .returned (.bool v) ∧ Below w.heap.size w w'
theorem bs_drop (s : ByteArray) (i : Nat) (h : i < s.size) : (bs s).drop i = s[i] :: (bs s).drop (i + 1) := by
  rw [List.drop_eq_getElem_cons (by rw [bs_length]; exact h)]; rfl
theorem bs_mk (l : List UInt8) : bs ⟨l.toArray⟩ = l := rfl
theorem bs_eq {s : ByteArray} {l : List UInt8} (h : bs s = l) : s = ⟨l.toArray⟩ := by
  subst h; cases s; simp [bs]
set_option maxRecDepth 100000 in
theorem slix_calls (s : ByteArray) (c : Int) (w : World) :
    Calls Tryd.prog 59 #[.string s, .int .u8 c] w fun e w' => e = .returned (.int .i64 (Lib.indexByte s.data.toList c.toNat.toUInt8)) ∧ w = w' := by
  go_enter Tryd.func59, Tryd.ntmps59
  go_wp2_with fail
  rw [run_callFunc_extern Tryd.func67 (by kernel_rfl) (by kernel_rfl) (by kernel_rfl) (e := Extern.BytealgIndexByte.indexByte) (by kernel_rfl), Lib.run_indexByteString]
  simp only [Result.andThen]
  rw [Oper.upon_value]
  go_wp2_with fail
  go_ret
  exact ⟨rfl, rfl⟩
theorem six_calls (s : ByteArray) (c : Int) (w : World) :
    Calls Tryd.prog 46 #[.string s, .int .u8 c] w fun e w' => e = .returned (.int .i64 (Lib.indexByte s.data.toList c.toNat.toUInt8)) ∧ w = w' := by
  go_enter Tryd.func46, Tryd.ntmps46
  go_wp2_with fail
  refine (slix_calls s c w).mono ?_
  rintro e w' ⟨rfl, rfl⟩
  go_wp2_with fail
  go_ret
  exact ⟨rfl, rfl⟩
theorem bs_ext {s t : ByteArray} (h : bs s = bs t) : s = t := by rw [bs_eq (s := s) rfl, bs_eq (s := t) rfl, h]
theorem bs_extract (s : ByteArray) (a b : Nat) : bs (s.extract a b) = ((bs s).drop a).take (b - a) := by
  unfold bs
  rw [ByteArray.data_extract, Array.toList_extract, List.extract_eq_take_drop]
theorem ixb_cases (l : List UInt8) (c : UInt8) : (c ∉ l ∧ Lib.indexByte l c = -1) ∨ ∃ a t, l = a ++ c :: t ∧ c ∉ a ∧ Lib.indexByte l c = (a.length : Int) := by
  induction l with
  | nil => exact .inl ⟨by simp, rfl⟩
  | cons x l ih =>
    unfold Lib.indexByte
    by_cases h : x = c
    · subst h
      exact .inr ⟨[], l, rfl, by simp, by simp⟩
    · rcases ih with ⟨h1, h2⟩ | ⟨a, t, h1, h2, h3⟩
      · refine .inl ⟨by simp [h1, Ne.symm h], ?_⟩
        rw [h2]; simp [h]
      · refine .inr ⟨x :: a, t, by rw [h1]; rfl, by simp [h2, Ne.symm h], ?_⟩
        rw [h3]; simp [h]
theorem bs_cons (t : ByteArray) (h : 0 < t.size) : bs t = t[0] :: (bs t).drop 1 := by
  have := bs_drop t 0 h
  rw [List.drop_zero] at this
  exact this
theorem bs_tail (t : ByteArray) (n : Nat) : bs (t.extract n t.size) = (bs t).drop n := by
  rw [bs_extract]
  exact List.take_of_length_le (by rw [List.length_drop, bs_length]; exact Nat.le_refl _)
theorem size_tail (t : ByteArray) (n : Nat) : (t.extract n t.size).size = t.size - n := by
  rw [← bs_length, bs_tail, List.length_drop, bs_length]
/-- Is a byte in a text? -/
def inL (s : ByteArray) (b : UInt8) : Bool := (bs s).any (· == b)
theorem in_ixb (s : ByteArray) (b : UInt8) : decide (0 ≤ Lib.indexByte (bs s) b) = inL s b := by
  unfold inL
  rcases ixb_cases (bs s) b with ⟨h1, h2⟩ | ⟨a, t, h1, h2, h3⟩
  · rw [h2]
    have : (bs s).any (· == b) = false := by
      rw [List.any_eq_false]
      intro x hx e
      exact h1 (by have := eq_of_beq e; rw [← this]; exact hx)
    rw [this]; rfl
  · rw [h3]
    have : (bs s).any (· == b) = true := List.any_eq_true.2 ⟨b, by rw [h1]; simp, by simp⟩
    rw [this]
    exact decide_eq_true (by omega)
set_option maxHeartbeats 1000000 in
theorem slpre_calls (s p : ByteArray) (w : World) (h63 : (s.size : Int) ≤ 9223372036854775807) (hp : (p.size : Int) ≤ 1000) :
    Calls Tryd.prog 58 #[.string s, .string p] w fun e w' => e = .returned (.bool ((bs p).isPrefixOf (bs s))) ∧ w = w' := by
  by_cases hl : p.size ≤ s.size
  · have hlI : (p.size : Int) ≤ (s.size : Int) := by omega
    have h0 : (0 : Int) ≤ (p.size : Int) := by omega
    have hb : bs (s.extract 0 p.size) = (bs s).take p.size := by rw [bs_extract, List.drop_zero, Nat.sub_zero]
    by_cases he : (bs p).isPrefixOf (bs s) = true
    · have hpre := List.isPrefixOf_iff_prefix.1 he
      have e1 : s.extract 0 p.size = p := by
        apply bs_ext
        rw [hb, ← bs_length p]
        exact (List.prefix_iff_eq_take.1 hpre).symm
      rw [he]
      clear hb hpre he
      go_enter Tryd.func58, Tryd.ntmps58
      go_wp2_with fail
      go_ret
      exact ⟨by simp, rfl⟩
    · have he2 : (bs p).isPrefixOf (bs s) = false := Bool.eq_false_iff.2 he
      have e1 : s.extract 0 p.size ≠ p := by
        intro e
        apply he
        rw [List.isPrefixOf_iff_prefix, List.prefix_iff_eq_take, bs_length, ← hb, e]
      obtain ⟨x, hx⟩ : ∃ x, s.extract 0 p.size = x := ⟨_, rfl⟩
      rw [hx] at e1 hb
      have e3 : x.toList ≠ p.toList := by
        intro e
        rw [ByteArray.toList_eq, ByteArray.toList_eq] at e
        exact e1 (bs_ext e)
      have e4 : (x.toList == p.toList) = false := beq_eq_false_iff_ne.2 e3
      rw [he2]
      clear hb he he2
      go_enter Tryd.func58, Tryd.ntmps58
      go_wp2_with fail
      go_ret
      exact ⟨by simp, rfl⟩
  · have hlI : (s.size : Int) < (p.size : Int) := by omega
    have he2 : (bs p).isPrefixOf (bs s) = false := by
      rw [Bool.eq_false_iff]
      intro e
      have := (List.isPrefixOf_iff_prefix.1 e).length_le
      rw [bs_length, bs_length] at this
      omega
    rw [he2]
    clear he2
    go_enter Tryd.func58, Tryd.ntmps58
    go_wp2_with fail
    go_ret
    exact ⟨by simp, rfl⟩
theorem pre_calls (s p : ByteArray) (w : World) (h63 : (s.size : Int) ≤ 9223372036854775807) (hp : (p.size : Int) ≤ 1000) :
    Calls Tryd.prog 45 #[.string s, .string p] w fun e w' => e = .returned (.bool ((bs p).isPrefixOf (bs s))) ∧ w = w' := by
  have hc := slpre_calls s p w h63 hp
  obtain ⟨v, hv⟩ : ∃ v, v = (bs p).isPrefixOf (bs s) := ⟨_, rfl⟩
  rw [← hv] at hc
  rw [← hv]
  have hc := Lib.hid hc
  clear hv
  go_enter Tryd.func45, Tryd.ntmps45
  go_wp2_with fail
  refine hc.out.mono ?_
  rintro e w' ⟨rfl, rfl⟩
  go_wp2_with fail
  go_ret
  exact ⟨rfl, rfl⟩
end Go.Proofs.YtlhkochpokhncaaDoor.Lexer
