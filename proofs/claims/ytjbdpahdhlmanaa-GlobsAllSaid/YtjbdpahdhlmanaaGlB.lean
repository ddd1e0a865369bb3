/- The closures that tell which places are hard. -/
import Derived.Test.YtjbdpahdhlmanaaGlA
namespace Go.Proofs.Ytjbdpahdhlmanaa.Globs
open Go.RowKit Go.Proofs.Ytjbdpahdhlmanaa Go.Proofs.Ytjbdpahdhlmanaa.Hp
set_option linter.unusedVariables false

abbrev bs (s : ByteArray) : List UInt8 := s.data.toList
theorem bs_length (s : ByteArray) : (bs s).length = s.size := Array.length_toList
theorem bs_get (s : ByteArray) (i : Nat) (h : i < s.size) : (bs s)[i]? = some s[i] := by
  rw [List.getElem?_eq_getElem (by rw [bs_length]; exact h)]; rfl
theorem soft_calls (i : Int) (w : World) : Calls Try.prog 36 #[.int .i64 i] w fun e w' => e = .returned (.bool false) ∧ w = w' := by
  go_enter Try.func36, Try.ntmps36
  go_wp2
  go_ret
  exact ⟨rfl, rfl⟩
theorem u8_lit (c : UInt8) (k : Nat) (hk : k < 256) : (((c.toNat : Nat) : Int) == (k : Int)) = (c == UInt8.ofNat k) := by
  have := u8_beq c (UInt8.ofNat k)
  rw [show (UInt8.ofNat k).toNat = k by rw [UInt8.toNat_ofNat']; omega] at this
  exact this
set_option maxHeartbeats 1000000 in
theorem hard_calls (s : ByteArray) (i sb : Nat) (w : World) (hi : i < s.size) (hm : (s.size : Int) ≤ 9223372036854775807) (hs : w.cell? ⟨sb, 0, none⟩ = some (.string s)) :
    Calls Try.prog 38 #[.int .i64 i, .pointer (some ⟨sb, 0, none⟩)] w fun e w' => e = .returned (.bool (hardP (bs s) i)) ∧ w = w' := by
  have hlt : (i : Int) < s.size := by omega
  have hi0 : (0 : Int) ≤ i := by omega
  have hfin : hardP (bs s) i = (s[i] == 47 || (s[i] == 46 && (i == 0 || (bs s)[i - 1]? == some 47))) := by
    unfold hardP; rw [bs_get s i hi]; rfl
  by_cases c1 : s[i] = 47
  · have e1 : ((s[i].toNat : Int) == 47) = true := by rw [c1]; rfl
    have hfin2 : hardP (bs s) i = true := by rw [hfin, c1]; rfl
    rw [hfin2]
    clear hfin hfin2 c1
    go_enter Try.func38, Try.ntmps38
    go_wp2
    go_ret
    exact ⟨rfl, rfl⟩
  have e1 : ((s[i].toNat : Int) == 47) = false := by have := u8_lit s[i] 47 (by omega); rw [show ((47 : Nat) : Int) = 47 from rfl] at this; rw [this]; simpa using c1
  have f1 : (s[i] == 47) = false := by simpa using c1
  by_cases c2 : s[i] = 46
  · have e2 : ((s[i].toNat : Int) == 46) = true := by rw [c2]; rfl
    have f2 : (s[i] == 46) = true := by rw [c2]; rfl
    by_cases c3 : i = 0
    · have e3 : ((i : Int) == 0) = true := by rw [c3]; rfl
      have hfin2 : hardP (bs s) i = true := by rw [hfin, f1, f2, c3]; rfl
      rw [hfin2]
      clear hfin hfin2 c1 c2 c3 f1 f2
      go_enter Try.func38, Try.ntmps38
      go_wp2
      go_ret
      exact ⟨rfl, rfl⟩
    · have e3 : ((i : Int) == 0) = false := by rw [beq_eq_false_iff_ne]; omega
      have f3 : (i == 0) = false := by rw [beq_eq_false_iff_ne]; exact c3
      have hp0 : (0 : Int) ≤ (i : Int) - 1 := by omega
      have hp1 : (i : Int) - 1 < s.size := by omega
      have hp2 : ((i : Int) - 1).toNat = i - 1 := by omega
      have hp : i - 1 < s.size := by omega
      have hi1 : (1 : Int) ≤ i := by omega
      have e4 : ((s[i - 1].toNat : Int) == 47) = (s[i - 1] == 47) := u8_lit s[i - 1] 47 (by omega)
      have hfin2 : hardP (bs s) i = (s[i - 1] == 47) := by rw [hfin, f1, f2, f3, bs_get s (i - 1) hp]; simp
      rw [hfin2]
      obtain ⟨d, hd⟩ : ∃ d : Bool, d = (s[i - 1] == 47) := ⟨_, rfl⟩
      rw [← hd] at e4 ⊢
      clear hfin hfin2 c1 c2 c3 f1 f2 f3 hd
      go_enter Try.func38, Try.ntmps38
      go_wp2
      go_ret
      exact ⟨rfl, rfl⟩
  · have e2 : ((s[i].toNat : Int) == 46) = false := by have := u8_lit s[i] 46 (by omega); rw [show ((46 : Nat) : Int) = 46 from rfl] at this; rw [this]; simpa using c2
    have f2 : (s[i] == 46) = false := by simpa using c2
    have hfin2 : hardP (bs s) i = false := by rw [hfin, f1, f2]; rfl
    rw [hfin2]
    clear hfin hfin2 c1 c2 f1 f2
    go_enter Try.func38, Try.ntmps38
    go_wp2
    go_ret
    exact ⟨rfl, rfl⟩
end Go.Proofs.Ytjbdpahdhlmanaa.Globs
