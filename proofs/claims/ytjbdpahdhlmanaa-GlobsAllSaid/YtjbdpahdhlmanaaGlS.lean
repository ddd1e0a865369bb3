/- The document's 'hard' and 'in', walked; rows of bools. -/
import Derived.Test.YtjbdpahdhlmanaaGlR
import Derived.Test.YtjbdpahdhlmanaaGlL
namespace Go.Proofs.Ytjbdpahdhlmanaa.Globs
open Go.RowKit Go.Proofs.Ytjbdpahdhlmanaa Go.Proofs.Ytjbdpahdhlmanaa.Hp
set_option linter.unusedVariables false

set_option maxHeartbeats 1000000 in
theorem rhard_calls (s : ByteArray) (i : Nat) (w : World) (hi : i < s.size) (hm : (s.size : Int) ≤ 9223372036854775807) :
    Calls Try.prog 46 #[.string s, .int .i64 i] w fun e w' => e = .returned (.bool (hardP (bs s) i)) ∧ w = w' := by
  have hlt : (i : Int) < s.size := by omega
  have hi0 : (0 : Int) ≤ i := by omega
  have hfin : hardP (bs s) i = (s[i] == 47 || (s[i] == 46 && (i == 0 || (bs s)[i - 1]? == some 47))) := by
    unfold hardP; rw [bs_get s i hi]; rfl
  by_cases c1 : s[i] = 47
  · have e1 : ((s[i].toNat : Int) == 47) = true := by rw [c1]; rfl
    have hfin2 : hardP (bs s) i = true := by rw [hfin, c1]; rfl
    rw [hfin2]
    clear hfin hfin2 c1
    go_enter Try.func46, Try.ntmps46
    go_wp2
    go_ret
    exact ⟨rfl, rfl⟩
  have e1 : ((s[i].toNat : Int) == 47) = false := by have := u8_lit s[i] 47 (by omega); rw [show ((47 : Nat) : Int) = 47 from rfl] at this; rw [this]; simpa using c1
  have f1 : (s[i] == 47) = false := by simpa using c1
  by_cases c2 : s[i] = 46
  · have e2 : ((s[i].toNat : Int) == 46) = true := by rw [c2]; rfl
    have f2 : (s[i] == 46) = true := by rw [c2]; rfl
    by_cases c3 : i = 0
    · have e3 : ((i : Int) == 0) = true := by rw [c3]; rfl
      have hfin2 : hardP (bs s) i = true := by rw [hfin, f1, f2, c3]; rfl
      rw [hfin2]
      clear hfin hfin2 c1 c2 c3 f1 f2
      go_enter Try.func46, Try.ntmps46
      go_wp2
      go_ret
      exact ⟨rfl, rfl⟩
    · have e3 : ((i : Int) == 0) = false := by rw [beq_eq_false_iff_ne]; omega
      have f3 : (i == 0) = false := by rw [beq_eq_false_iff_ne]; exact c3
      have hp0 : (0 : Int) ≤ (i : Int) - 1 := by omega
      have hp1 : (i : Int) - 1 < s.size := by omega
      have hp2 : ((i : Int) - 1).toNat = i - 1 := by omega
      have hp : i - 1 < s.size := by omega
      have hi1 : (1 : Int) ≤ i := by omega
      have e4 : ((s[i - 1].toNat : Int) == 47) = (s[i - 1] == 47) := u8_lit s[i - 1] 47 (by omega)
      have hfin2 : hardP (bs s) i = (s[i - 1] == 47) := by rw [hfin, f1, f2, f3, bs_get s (i - 1) hp]; simp
      rw [hfin2]
      obtain ⟨d, hd⟩ : ∃ d : Bool, d = (s[i - 1] == 47) := ⟨_, rfl⟩
      rw [← hd] at e4 ⊢
      clear hfin hfin2 c1 c2 c3 f1 f2 f3 hd
      go_enter Try.func46, Try.ntmps46
      go_wp2
      go_ret
      exact ⟨rfl, rfl⟩
  · have e2 : ((s[i].toNat : Int) == 46) = false := by have := u8_lit s[i] 46 (by omega); rw [show ((46 : Nat) : Int) = 46 from rfl] at this; rw [this]; simpa using c2
    have f2 : (s[i] == 46) = false := by simpa using c2
    have hfin2 : hardP (bs s) i = false := by rw [hfin, f1, f2]; rfl
    rw [hfin2]
    clear hfin hfin2 c1 c2 f1 f2
    go_enter Try.func46, Try.ntmps46
    go_wp2
    go_ret
    exact ⟨rfl, rfl⟩

def InRel (rs : List Rg) (c : UInt8) (w : World) (k : Nat) (iv : Value) (wr : World) : Prop :=
  ∃ j : Nat, j + k = rs.length ∧ iv = .int .i64 (j : Int) ∧ (∀ t (h : t < rs.length), t < j → (decide (rs[t].1 ≤ c) && decide (c ≤ rs[t].2)) = false) ∧ wr = w
set_option maxHeartbeats 1000000 in
theorem rin_calls (rs : List Rg) (c : UInt8) (ra : Option Addr) (rc : Nat) (w : World) (h : RgAt w ra rs) :
    Calls Try.prog 47 #[.slice ra rs.length rc, .int .u8 c.toNat] w fun e w' => e = .returned (.bool (inR rs c)) ∧ w = w' := by
  obtain ⟨hl, hr⟩ := h
  have hc := c.toNat_lt
  go_enter Try.func47, Try.ntmps47
  go_wp2
  go_loopg [5] (rs.length) (InRel rs c w)
  case atStart => exact ⟨0, by simp, rfl, fun t _ ht => absurd ht (Nat.not_lt_zero t), rfl⟩
  case round =>
    obtain ⟨j, hj, rfl, hno, rfl⟩ := hrel
    have hj0 : (0 : Int) ≤ j := by omega
    by_cases hlt : j < rs.length
    · obtain ⟨rb, ro, rfl, hrb, k0, k1⟩ := hr j hlt
      have hlt' : (j : Int) < rs.length := by omega
      obtain ⟨r, hrj⟩ : ∃ r, r = rs[j] := ⟨_, rfl⟩
      rw [← hrj] at k0 k1
      have Hrj := Lib.hid hrj
      have Hj := Lib.hid hj
      have Hno := Lib.hid hno
      obtain ⟨r1, r2⟩ := r
      simp only at k0 k1
      have b1 := r1.toNat_lt
      have b2 := r2.toNat_lt
      clear hrj hj hno hr
      by_cases hin : (decide (r1 ≤ c) && decide (c ≤ r2)) = true
      · have hin2 := hin
        rw [Bool.and_eq_true, decide_eq_true_eq, decide_eq_true_eq, UInt8.le_iff_toNat_le, UInt8.le_iff_toNat_le] at hin2
        obtain ⟨i1, i2⟩ := hin2
        have i1' : (r1.toNat : Int) ≤ c.toNat := by omega
        have i2' : (c.toNat : Int) ≤ r2.toNat := by omega
        have Hin := Lib.hid hin
        clear hin
        go_wp2
        go_ret
        exact ⟨show Ending.returned (.bool true) = _ by rw [inR_yes j hlt (by rw [← Hrj.out]; exact Hin.out)], rfl⟩
      · have hin2 : ¬ ((r1.toNat : Int) ≤ c.toNat ∧ (c.toNat : Int) ≤ r2.toNat) := fun hh => hin (by simp only [Bool.and_eq_true, decide_eq_true_eq, UInt8.le_iff_toNat_le]; omega)
        have hin3 : (decide (r1 ≤ c) && decide (c ≤ r2)) = false := by simpa using hin
        have Hin := Lib.hid hin3
        clear hin hin3
        by_cases i1 : (r1.toNat : Int) ≤ c.toNat
        · have i2 : ¬ ((c.toNat : Int) ≤ r2.toNat) := fun h => hin2 ⟨i1, h⟩
          clear hin2
          go_wp2
          go_roundg (gk - 1)
          case measure => have := Hj.out; omega
          case rel => exact ⟨j + 1, by have := Hj.out; omega, by go_num, fnext Hno.out hlt (by rw [← Hrj.out]; exact Hin.out), rfl⟩
        · clear hin2
          go_wp2
          go_roundg (gk - 1)
          case measure => have := Hj.out; omega
          case rel => exact ⟨j + 1, by have := Hj.out; omega, by go_num, fnext Hno.out hlt (by rw [← Hrj.out]; exact Hin.out), rfl⟩
    · have hge : ¬ ((j : Int) < rs.length) := by omega
      have Hno := Lib.hid hno
      clear hr hno
      go_wp2
      go_ret
      exact ⟨show Ending.returned (.bool false) = _ by rw [inR_no fun t ht => Hno.out t ht (by omega)], rfl⟩

/-- A row of bools, as cells. -/
def boolArr (f : Nat → Bool) (n : Nat) : Array Value := ((List.range n).map fun j => Value.bool (f j)).toArray
theorem boolArr_size (f : Nat → Bool) (n : Nat) : (boolArr f n).size = n := by simp [boolArr]
theorem boolArr_get (f : Nat → Bool) (n j : Nat) (h : j < n) : (boolArr f n)[j]? = some (.bool (f j)) := by
  unfold boolArr
  rw [List.getElem?_toArray, List.getElem?_map, List.getElem?_range h]; rfl
theorem boolArr_congr {f g : Nat → Bool} {n : Nat} (h : ∀ j, j < n → f j = g j) : boolArr f n = boolArr g n := by
  unfold boolArr
  congr 1
  apply List.map_congr_left
  intro j hj
  rw [h j (by simpa using hj)]
theorem boolArr_set (f : Nat → Bool) (n i : Nat) (v : Bool) : (boolArr f n).setIfInBounds i (.bool v) = boolArr (fun j => if j = i then v else f j) n := by
  unfold boolArr
  rw [List.setIfInBounds_toArray]
  congr 1
  apply List.ext_getElem
  · simp
  · intro j h1 h2
    simp only [List.getElem_set, List.getElem_map, List.getElem_range]
    by_cases e : i = j
    · subst e; simp
    · rw [if_neg e, if_neg (fun h => e h.symm)]
theorem madeBools (n : Nat) : madeCells #[.bool false] n = boolArr (fun _ => false) n := by
  apply Array.ext
  · simp [size_madeCells, boolArr]
  · intro i h1 h2
    simp [madeCells, boolArr, Nat.mod_one]
end Go.Proofs.Ytjbdpahdhlmanaa.Globs
