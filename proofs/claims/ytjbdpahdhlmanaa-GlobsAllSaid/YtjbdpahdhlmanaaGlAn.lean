/- Plain: how many texts there are; whether a byte stands twice. -/
import Derived.Test.YtjbdpahdhlmanaaGlAl
import Derived.Test.YtjbdpahdhlmanaaGlAA
import Derived.Test.YtjbdpahdhlmanaaGlY
namespace Go.Proofs.Ytjbdpahdhlmanaa.Globs
open Go.RowKit Go.Proofs.Ytjbdpahdhlmanaa Go.Proofs.Ytjbdpahdhlmanaa.Hp
set_option linter.unusedVariables false

theorem lev_succ_len (al : ByteArray) (n : Nat) : (levL al (n + 1)).length = (levL al n).length * al.size := by
  show ((levL al n).flatMap (nxtL al)).length = _
  rw [flat_len]
theorem lev_pos (al : ByteArray) (h : 0 < al.size) (n : Nat) : 0 < (levL al n).length := by
  induction n with
  | zero => exact Nat.one_pos
  | succ n ih => rw [lev_succ_len]; exact Nat.mul_pos ih h
theorem txt_succ_len (al : ByteArray) (n : Nat) : (txtL al (n + 1)).length = (txtL al n).length + (levL al n).length := by
  show (txtL al n ++ levL al n).length = _
  rw [List.length_append]
theorem txt_ge (al : ByteArray) (h : 0 < al.size) (n : Nat) : n ≤ (txtL al n).length := by
  induction n with
  | zero => simp
  | succ n ih => have := lev_pos al h n; rw [txt_succ_len]; omega
theorem txt_mono (al : ByteArray) {m n : Nat} (h : m ≤ n) : (txtL al m).length ≤ (txtL al n).length := by
  obtain ⟨r, hr⟩ := txtL_le al h
  rw [hr, List.length_append]; omega
theorem lev_zero (al : ByteArray) (h : al.size = 0) (n : Nat) : levL al (n + 1) = [] := by
  apply List.eq_nil_of_length_eq_zero
  rw [lev_succ_len, h, Nat.mul_zero]
theorem txt_zero (al : ByteArray) (h : al.size = 0) (n : Nat) : txtL al (n + 1) = [⟨#[]⟩] := by
  induction n with
  | zero => rfl
  | succ n ih => show txtL al (n + 1) ++ levL al (n + 1) = _; rw [ih, lev_zero al h n]; rfl

/-- Does the byte at a place stand ahead of it? -/
def dupAt (al : ByteArray) (i : Nat) : Bool := ((bs al).take i).contains ((bs al).getD i 0)
theorem ix_mem (l : List UInt8) (c : UInt8) : (0 ≤ Lib.indexByte l c) ↔ l.contains c = true := by
  induction l with
  | nil => simp [Lib.indexByte]
  | cons x l ih =>
    unfold Lib.indexByte
    by_cases h : x = c
    · subst h; simp
    · have h1 : (x == c) = false := by simpa using h
      have hc : (x :: l).contains c = l.contains c := by
        rw [List.contains_cons, show (c == x) = false by rw [beq_eq_false_iff_ne]; exact fun e => h e.symm, Bool.false_or]
      rw [hc, if_neg (by rw [h1]; simp)]
      have hg := Lib.indexByte_ge l c
      split
      · rename_i e
        rw [beq_iff_eq] at e
        rw [← ih, e]
      · rename_i e
        have e2 : Lib.indexByte l c ≠ -1 := by simpa using e
        rw [← ih]
        omega
theorem dup_ix (al : ByteArray) (i : Nat) (h : i < al.size) : (0 ≤ Lib.indexByte (al.extract 0 i).data.toList ((al[i].toNat : Int).toNat.toUInt8)) ↔ dupAt al i = true := by
  rw [ix_mem]
  unfold dupAt
  have e1 : (al.extract 0 i).data.toList = (bs al).take i := by simp
  have e2 : ((al[i].toNat : Int).toNat.toUInt8) = (bs al).getD i 0 := by
    rw [List.getD_eq_getElem?_getD, bs_get al i h]
    simp
  rw [e1, e2]
def hasDup (al : ByteArray) : Prop := ∃ i, i < al.size ∧ dupAt al i = true
/-- How many bytes the longest texts have. -/
def longest (al : ByteArray) (most : Int) : Nat := if al.size = 0 then 0 else most.toNat
open Classical in
noncomputable def allE (al : ByteArray) (most : Int) : Int := if hasDup al then 1 else if most < 0 then 1 else if 4096 < (txtL al (longest al most + 1)).length then 20 else 0
open Classical in
noncomputable def allL (p : List Itm) (al : ByteArray) (most : Int) : List ByteArray := if allE al most = 0 then (txtL al (longest al most + 1)).filter (fun s => matchB p (bs s)) else []
theorem all_err {p : List Itm} {al : ByteArray} {most e : Int} (h : allE al most = e) (he : e ≠ 0) : allL p al most = [] := by unfold allL; rw [if_neg (by rw [h]; exact he)]
theorem allE_dup {al : ByteArray} {most : Int} (h : hasDup al) : allE al most = 1 := by unfold allE; rw [if_pos h]
theorem allE_neg {al : ByteArray} {most : Int} (h : most < 0) : allE al most = 1 := by
  unfold allE
  rw [if_pos h]; split <;> rfl
theorem allE_many {al : ByteArray} {most : Int} (h : ¬ hasDup al) (h0 : ¬ most < 0) (h1 : 4096 < (txtL al (longest al most + 1)).length) : allE al most = 20 := by unfold allE; rw [if_neg h, if_neg h0, if_pos h1]
theorem allE_ok {al : ByteArray} {most : Int} (h : ¬ hasDup al) (h0 : ¬ most < 0) (h1 : ¬ 4096 < (txtL al (longest al most + 1)).length) : allE al most = 0 := by unfold allE; rw [if_neg h, if_neg h0, if_neg h1]
theorem allL_ok {p : List Itm} {al : ByteArray} {most : Int} (h : allE al most = 0) : allL p al most = (txtL al (longest al most + 1)).filter (fun s => matchB p (bs s)) := by unfold allL; rw [if_pos h]
end Go.Proofs.Ytjbdpahdhlmanaa.Globs
