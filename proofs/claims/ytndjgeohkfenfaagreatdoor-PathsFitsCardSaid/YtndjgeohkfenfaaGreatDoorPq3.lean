/- HandlesPlays, part 3 of 26: the texts GlA GlB GlC, joined by a program. -/
import Derived.Test.YtndjgeohkfenfaaGreatDoorPq1
import Derived.Test.YtndjgeohkfenfaaGreatDoorPq2
import Derived.Test.YtndjgeohkfenfaaGreatDoorRows
import Derived.Lib.Hide
import Derived.BigQuiet
import Derived.Deep.QuietTactic
import Derived.Deep.DeepCutAuto
import Derived.Deep.LoopGhost
import Derived.Deep.RegionHeld3
import Derived.Deep.DeepFit
import Derived.Outline
import Derived.Deep.CutBlock
import Derived.WalkMore
namespace Go.Proofs.YtndjgeohkfenfaaGreatDoor.Globs
open Go.RowKit Go.Proofs.YtndjgeohkfenfaaGreatDoor Go.Proofs.YtndjgeohkfenfaaGreatDoor.Hp
set_option linter.unusedVariables false

def I64 (x : Int) : Prop := -9223372036854775808 ≤ x ∧ x ≤ 9223372036854775807
/-- Ranges that lie in memory. -/
def RgAt (w : World) (ra : Option Addr) (rs : List (UInt8 × UInt8)) : Prop :=
  (rs.length : Int) ≤ 9223372036854775807 ∧ ∀ j (h : j < rs.length), ∃ b o, ra = some ⟨b, o, none⟩ ∧ b < w.heap.size ∧ w.cell? ⟨b, o + j * 2, none⟩ = some (.int .u8 rs[j].1.toNat) ∧ w.cell? ⟨b, o + j * 2 + 1, none⟩ = some (.int .u8 rs[j].2.toNat)
/-- Items that lie in memory. -/
def ItemsAt (w : World) (ao : Option Addr) (l : List Itm) : Prop :=
  (l.length : Int) ≤ 9223372036854775807 ∧ ∀ i (h : i < l.length), ∃ b o ra rc, ao = some ⟨b, o, none⟩ ∧ b < w.heap.size ∧ w.cell? ⟨b, o + i * 4, none⟩ = some (.int .i64 l[i].kind) ∧ w.cell? ⟨b, o + i * 4 + 1, none⟩ = some (.int .u8 l[i].b.toNat) ∧
    w.cell? ⟨b, o + i * 4 + 2, none⟩ = some (.bool l[i].neg) ∧ w.cell? ⟨b, o + i * 4 + 3, none⟩ = some (.slice ra l[i].rs.length rc) ∧ RgAt w ra l[i].rs
/-- What was there is as it was. -/
def Kept (W w : World) : Prop := W.heap.size ≤ w.heap.size ∧ ∀ k, k < W.heap.size → w.heap[k]? = W.heap[k]?
theorem Kept.cell {W w : World} (h : Kept W w) {b : Nat} (hb : b < W.heap.size) (j : Nat) : w.cell? ⟨b, j, none⟩ = W.cell? ⟨b, j, none⟩ := World.cell?_of_block (w := W) (h.2 b hb)
theorem Kept.refl (w : World) : Kept w w := ⟨Nat.le_refl _, fun _ _ => rfl⟩
theorem Kept.trans {a b c : World} (h : Kept a b) (k : Kept b c) : Kept a c := ⟨Nat.le_trans h.1 k.1, fun i hi => (k.2 i (Nat.lt_of_lt_of_le hi h.1)).trans (h.2 i hi)⟩
theorem Kept.below {w w' : World} (h : Below w.heap.size w w') : Kept w w' := ⟨h.size, h.block⟩
theorem RgAt.keep {W w : World} {ra : Option Addr} {rs : List (UInt8 × UInt8)} (h : RgAt W ra rs) (k : Kept W w) : RgAt w ra rs :=
  ⟨h.1, fun j hj => by
    obtain ⟨b, o, e, hb, h0, h1⟩ := h.2 j hj
    exact ⟨b, o, e, Nat.lt_of_lt_of_le hb k.1, by rw [k.cell hb]; exact h0, by rw [k.cell hb]; exact h1⟩⟩
theorem ItemsAt.keep {W w : World} {ao : Option Addr} {l : List Itm} (h : ItemsAt W ao l) (k : Kept W w) : ItemsAt w ao l :=
  ⟨h.1, fun i hi => by
    obtain ⟨b, o, ra, rc, e, hb, h0, h1, h2, h3, h4⟩ := h.2 i hi
    exact ⟨b, o, ra, rc, e, Nat.lt_of_lt_of_le hb k.1, by rw [k.cell hb]; exact h0, by rw [k.cell hb]; exact h1, by rw [k.cell hb]; exact h2, by rw [k.cell hb]; exact h3, h4.keep k⟩⟩

theorem u8_beq (a b : UInt8) : (((a.toNat : Nat) : Int) == ((b.toNat : Nat) : Int)) = (a == b) := by
  rw [Bool.eq_iff_iff, beq_iff_eq, beq_iff_eq]
  constructor
  · intro h; exact UInt8.toNat_inj.1 (by omega)
  · rintro rfl; rfl
def FRel (x : Itm) (c : UInt8) (w : World) (B : Nat) (k : Nat) (iv : Value) (wr : World) : Prop :=
  ∃ j : Nat, j + k = x.rs.length ∧ iv = .int .i64 (j : Int) ∧ (∀ t (h : t < x.rs.length), t < j → (decide (x.rs[t].1 ≤ c) && decide (c ≤ x.rs[t].2)) = false) ∧ Below B w wr
theorem inR_no {rs : List (UInt8 × UInt8)} {c : UInt8} (h : ∀ t (h : t < rs.length), (decide (rs[t].1 ≤ c) && decide (c ≤ rs[t].2)) = false) : inR rs c = false := by
  unfold inR
  rw [List.any_eq_false]
  intro x hx
  obtain ⟨t, ht, rfl⟩ := List.mem_iff_getElem.1 hx
  rw [h t ht]; simp
theorem inR_yes {rs : List (UInt8 × UInt8)} {c : UInt8} (t : Nat) (ht : t < rs.length) (h : (decide (rs[t].1 ≤ c) && decide (c ≤ rs[t].2)) = true) : inR rs c = true := by
  unfold inR
  rw [List.any_eq_true]
  exact ⟨rs[t], List.getElem_mem ht, h⟩

theorem fnext {rs : List (UInt8 × UInt8)} {c : UInt8} {j : Nat} (h : ∀ t (h : t < rs.length), t < j → (decide (rs[t].1 ≤ c) && decide (c ≤ rs[t].2)) = false) (hj : j < rs.length) (h2 : (decide (rs[j].1 ≤ c) && decide (c ≤ rs[j].2)) = false) :
    ∀ t (h : t < rs.length), t < j + 1 → (decide (rs[t].1 ≤ c) && decide (c ≤ rs[t].2)) = false := fun t ht h3 => by
  rcases Nat.lt_or_ge t j with h4 | h4
  · exact h t ht h4
  · obtain rfl : t = j := by omega
    exact h2

def FPost (v : Bool) (w : World) (e : Ending) (w' : World) : Prop := e = .returned (.bool v) ∧ Below w.heap.size w w'
set_option maxHeartbeats 1000000 in
theorem fits_calls (x : Itm) (c : UInt8) (ra : Option Addr) (rc : Nat) (w : World) (h : RgAt w ra x.rs) :
    Calls Tryz.prog 95 #[.agg #[.int .i64 x.kind, .int .u8 x.b.toNat, .bool x.neg, .slice ra x.rs.length rc], .int .u8 c.toNat] w (FPost (fitsI x c) w) := by
  have hB : Below w.heap.size w (w.alloc (.cells #[.int .i64 x.kind, .int .u8 x.b.toNat, .bool x.neg, .slice ra x.rs.length rc] 118)) := (Below.refl _ _).alloc (Nat.le_refl _) _
  obtain ⟨kind, b, neg, rs⟩ := x
  simp only at h hB ⊢
  have hb : b.toNat < 256 := b.toNat_lt
  have hc : c.toNat < 256 := c.toNat_lt
  by_cases h1 : kind = 1
  · subst h1
    go_enter Tryz.func95, Tryz.ntmps95
    go_wp2
    go_ret
    exact ⟨by rw [u8_beq]; rfl, hB⟩
  by_cases h2 : kind = 2
  · subst h2
    go_enter Tryz.func95, Tryz.ntmps95
    go_wp2
    go_ret
    exact ⟨rfl, hB⟩
  have e1 : (kind == 1) = false := by rw [beq_eq_false_iff_ne]; exact h1
  have e2 : (kind == 2) = false := by rw [beq_eq_false_iff_ne]; exact h2
  by_cases h4 : kind = 4
  · subst h4
    have hfin : fitsI ⟨4, b, neg, rs⟩ c = (inR rs c != neg) := rfl
    rw [hfin]
    clear hfin e1 e2 h1 h2
    obtain ⟨hl, hr⟩ := h
    go_enter Tryz.func95, Tryz.ntmps95
    go_wp2
    go_loopg [22] (rs.length) (FRel ⟨4, b, neg, rs⟩ c (w.alloc (.cells #[.int .i64 4, .int .u8 b.toNat, .bool neg, .slice ra rs.length rc] 118)) (w.heap.size + 1))
    case atStart => exact ⟨0, by simp, rfl, fun t _ ht => absurd ht (Nat.not_lt_zero t), Below.refl _ _⟩
    case round =>
      obtain ⟨j, hj, rfl, hno, hbel⟩ := hrel
      simp only at hj hno
      have hcell : wr.cell? ⟨w.heap.size, 2, none⟩ = some (.bool neg) := by
        rw [World.cell?_of_block (hbel.block w.heap.size (by omega))]; simp
      have hB2 : Below w.heap.size w wr := hB.trans (hbel.mono (by omega))
      have hj0 : (0 : Int) ≤ j := by omega
      have hsz : w.heap.size < wr.heap.size := by have := hbel.size; simp at this; omega
      by_cases hlt : j < rs.length
      · obtain ⟨rb, ro, rfl, hrb, g0, g1⟩ := hr j hlt
        have k0 : wr.cell? ⟨rb, ro + j * 2, none⟩ = some (.int .u8 rs[j].1.toNat) := (World.cell?_of_block (hB2.block rb hrb)).trans g0
        have k1 : wr.cell? ⟨rb, ro + j * 2 + 1, none⟩ = some (.int .u8 rs[j].2.toNat) := (World.cell?_of_block (hB2.block rb hrb)).trans g1
        have hlt' : (j : Int) < rs.length := by omega
        obtain ⟨r, hrj⟩ : ∃ r, r = rs[j] := ⟨_, rfl⟩
        rw [← hrj] at k0 k1
        have Hrj := Lib.hid hrj
        have Hj := Lib.hid hj
        have Hno := Lib.hid hno
        obtain ⟨r1, r2⟩ := r
        simp only at k0 k1
        have b1 := r1.toNat_lt
        have b2 := r2.toNat_lt
        clear hrj hj hno hr g0 g1
        by_cases hin : (decide (r1 ≤ c) && decide (c ≤ r2)) = true
        · have hin2 := hin
          rw [Bool.and_eq_true, decide_eq_true_eq, decide_eq_true_eq, UInt8.le_iff_toNat_le, UInt8.le_iff_toNat_le] at hin2
          obtain ⟨i1, i2⟩ := hin2
          have i1' : (r1.toNat : Int) ≤ c.toNat := by omega
          have i2' : (c.toNat : Int) ≤ r2.toNat := by omega
          clear hin
          go_wp2
          go_ret
          exact ⟨by rw [inR_yes j hlt (by rw [← Hrj.out]; simp only [Bool.and_eq_true, decide_eq_true_eq, UInt8.le_iff_toNat_le]; omega)]; cases neg <;> rfl, hB2.alloc (by exact hB2.size) _⟩
        · have hin2 : ¬ ((r1.toNat : Int) ≤ c.toNat ∧ (c.toNat : Int) ≤ r2.toNat) := fun hh => hin (by simp only [Bool.and_eq_true, decide_eq_true_eq, UInt8.le_iff_toNat_le]; omega)
          have hin3 : (decide (r1 ≤ c) && decide (c ≤ r2)) = false := by simpa using hin
          have Hin := Lib.hid hin3
          clear hin hin3
          by_cases i1 : (r1.toNat : Int) ≤ c.toNat
          · have i2 : ¬ ((c.toNat : Int) ≤ r2.toNat) := fun h => hin2 ⟨i1, h⟩
            clear hin2
            go_wp2
            go_roundg (gk - 1)
            case measure => have := Hj.out; omega
            case rel => exact ⟨j + 1, by have := Hj.out; simp only; omega, rfl, fnext Hno.out hlt (by rw [← Hrj.out]; exact Hin.out), hbel.alloc (by have := hbel.size; simp at this; omega) _⟩
          · clear hin2
            go_wp2
            go_roundg (gk - 1)
            case measure => have := Hj.out; omega
            case rel => exact ⟨j + 1, by have := Hj.out; simp only; omega, rfl, fnext Hno.out hlt (by rw [← Hrj.out]; exact Hin.out), hbel.alloc (by have := hbel.size; simp at this; omega) _⟩
      · have hge : ¬ ((j : Int) < rs.length) := by omega
        clear hr
        go_wp2
        go_ret
        exact ⟨by rw [inR_no fun t ht => hno t ht (by omega)]; cases neg <;> rfl, hB2⟩
  · have e4 : (kind == 4) = false := by rw [beq_eq_false_iff_ne]; exact h4
    go_enter Tryz.func95, Tryz.ntmps95
    go_wp2
    go_ret
    refine ⟨?_, hB⟩
    unfold fitsI
    rw [if_neg h1, if_neg h2, if_neg h4]
    rfl
end Go.Proofs.YtndjgeohkfenfaaGreatDoor.Globs

namespace Go.Proofs.YtndjgeohkfenfaaGreatDoor.Globs
open Go.RowKit Go.Proofs.YtndjgeohkfenfaaGreatDoor Go.Proofs.YtndjgeohkfenfaaGreatDoor.Hp
set_option linter.unusedVariables false

abbrev bs (s : ByteArray) : List UInt8 := s.data.toList
theorem bs_length (s : ByteArray) : (bs s).length = s.size := Array.length_toList
theorem bs_get (s : ByteArray) (i : Nat) (h : i < s.size) : (bs s)[i]? = some s[i] := by
  rw [List.getElem?_eq_getElem (by rw [bs_length]; exact h)]; rfl
theorem u8_lit (c : UInt8) (k : Nat) (hk : k < 256) : (((c.toNat : Nat) : Int) == (k : Int)) = (c == UInt8.ofNat k) := by
  have := u8_beq c (UInt8.ofNat k)
  rw [show (UInt8.ofNat k).toNat = k by rw [UInt8.toNat_ofNat']; omega] at this
  exact this
set_option maxHeartbeats 1000000 in
theorem hard_calls (s : ByteArray) (i sb : Nat) (w : World) (hi : i < s.size) (hm : (s.size : Int) ≤ 9223372036854775807) (hs : w.cell? ⟨sb, 0, none⟩ = some (.string s)) :
    Calls Tryz.prog 57 #[.int .i64 i, .pointer (some ⟨sb, 0, none⟩)] w fun e w' => e = .returned (.bool (hardP (bs s) i)) ∧ w = w' := by
  have hlt : (i : Int) < s.size := by omega
  have hi0 : (0 : Int) ≤ i := by omega
  have hfin : hardP (bs s) i = (s[i] == 47 || (s[i] == 46 && (i == 0 || (bs s)[i - 1]? == some 47))) := by
    unfold hardP; rw [bs_get s i hi]; rfl
  by_cases c1 : s[i] = 47
  · have e1 : ((s[i].toNat : Int) == 47) = true := by rw [c1]; rfl
    have hfin2 : hardP (bs s) i = true := by rw [hfin, c1]; rfl
    rw [hfin2]
    clear hfin hfin2 c1
    go_enter Tryz.func57, Tryz.ntmps57
    go_wp2
    go_ret
    exact ⟨rfl, rfl⟩
  have e1 : ((s[i].toNat : Int) == 47) = false := by have := u8_lit s[i] 47 (by omega); rw [show ((47 : Nat) : Int) = 47 from rfl] at this; rw [this]; simpa using c1
  have f1 : (s[i] == 47) = false := by simpa using c1
  by_cases c2 : s[i] = 46
  · have e2 : ((s[i].toNat : Int) == 46) = true := by rw [c2]; rfl
    have f2 : (s[i] == 46) = true := by rw [c2]; rfl
    by_cases c3 : i = 0
    · have e3 : ((i : Int) == 0) = true := by rw [c3]; rfl
      have hfin2 : hardP (bs s) i = true := by rw [hfin, f1, f2, c3]; rfl
      rw [hfin2]
      clear hfin hfin2 c1 c2 c3 f1 f2
      go_enter Tryz.func57, Tryz.ntmps57
      go_wp2
      go_ret
      exact ⟨rfl, rfl⟩
    · have e3 : ((i : Int) == 0) = false := by rw [beq_eq_false_iff_ne]; omega
      have f3 : (i == 0) = false := by rw [beq_eq_false_iff_ne]; exact c3
      have hp0 : (0 : Int) ≤ (i : Int) - 1 := by omega
      have hp1 : (i : Int) - 1 < s.size := by omega
      have hp2 : ((i : Int) - 1).toNat = i - 1 := by omega
      have hp : i - 1 < s.size := by omega
      have hi1 : (1 : Int) ≤ i := by omega
      have e4 : ((s[i - 1].toNat : Int) == 47) = (s[i - 1] == 47) := u8_lit s[i - 1] 47 (by omega)
      have hfin2 : hardP (bs s) i = (s[i - 1] == 47) := by rw [hfin, f1, f2, f3, bs_get s (i - 1) hp]; simp
      rw [hfin2]
      obtain ⟨d, hd⟩ : ∃ d : Bool, d = (s[i - 1] == 47) := ⟨_, rfl⟩
      rw [← hd] at e4 ⊢
      clear hfin hfin2 c1 c2 c3 f1 f2 f3 hd
      go_enter Tryz.func57, Tryz.ntmps57
      go_wp2
      go_ret
      exact ⟨rfl, rfl⟩
  · have e2 : ((s[i].toNat : Int) == 46) = false := by have := u8_lit s[i] 46 (by omega); rw [show ((46 : Nat) : Int) = 46 from rfl] at this; rw [this]; simpa using c2
    have f2 : (s[i] == 46) = false := by simpa using c2
    have hfin2 : hardP (bs s) i = false := by rw [hfin, f1, f2]; rfl
    rw [hfin2]
    clear hfin hfin2 c1 c2 f1 f2
    go_enter Tryz.func57, Tryz.ntmps57
    go_wp2
    go_ret
    exact ⟨rfl, rfl⟩
end Go.Proofs.YtndjgeohkfenfaaGreatDoor.Globs

namespace Go.Proofs.YtndjgeohkfenfaaGreatDoor.Globs
open Go.RowKit Go.Proofs.YtndjgeohkfenfaaGreatDoor Go.Proofs.YtndjgeohkfenfaaGreatDoor.Hp
set_option linter.unusedVariables false

def MRel (hd : Nat → Bool) (p : List Itm) (s : ByteArray) (w : World) (g : Nat) (iv kv sv fv : Value) (wr : World) : Prop :=
  ∃ (i k : Nat) (st : Int) (frm : Nat), iv = .int .i64 (i : Int) ∧ kv = .int .i64 (k : Int) ∧ sv = .int .i64 st ∧ fv = .int .i64 (frm : Int) ∧ MInv hd p (bs s) i k st frm ∧ mu p.length s.size i st frm < g ∧ Below w.heap.size w wr
def MRel2 (hd : Nat → Bool) (p : List Itm) (s : ByteArray) (w : World) (g : Nat) (kv : Value) (wr : World) : Prop :=
  ∃ (k : Nat), kv = .int .i64 (k : Int) ∧ k + g = p.length ∧ M hd p (bs s) 0 0 = M hd p (bs s) k s.size ∧ Below w.heap.size w wr
theorem below_step {w wr w3 : World} (h : Below w.heap.size w wr) (h3 : Below wr.drew.heap.size wr.drew w3) : Below w.heap.size w w3 := (Below.drew h).trans (h3.mono h.size)
theorem miss_end {hd : Nat → Bool} {p : List Itm} {s : List UInt8} {i k : Nat} (hk : ¬ k < p.length) : Miss hd p s i k := fun h => absurd h hk
theorem miss_at {hd : Nat → Bool} {p : List Itm} {s : List UInt8} {i k : Nat} {x : Itm} {c : UInt8} (hk : k < p.length) (hx : x = p[k]) (hi : i < s.length) (hc : s[i] = c) (h3 : x.kind ≠ 3) (h : fitsI x c = false ∨ may hd x i = false) : Miss hd p s i k := fun _ _ => by
  subst hx hc; exact ⟨h3, h⟩
end Go.Proofs.YtndjgeohkfenfaaGreatDoor.Globs

