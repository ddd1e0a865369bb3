/- The document's 'Match' and 'Path'. -/
import Derived.Test.YtjbdpahdhlmanaaGlT
import Derived.Test.YtjbdpahdhlmanaaGlV
import Derived.Test.YtjbdpahdhlmanaaGlU
namespace Go.Proofs.Ytjbdpahdhlmanaa.Globs
open Go.RowKit Go.Proofs.Ytjbdpahdhlmanaa Go.Proofs.Ytjbdpahdhlmanaa.Hp
set_option linter.unusedVariables false

theorem R_last (p : List Itm) (s : ByteArray) (hd : Nat → Bool) : R hd p (bs s) s.size = mtB hd p (bs s) 0 := by
  unfold R
  rw [← bs_length, List.take_length]
set_option maxHeartbeats 1000000 in
theorem rmatch_calls (p : List Itm) (s : ByteArray) (ao : Option Addr) (cap : Nat) (w : World) (h : ItemsAt w ao p) (hm : s.size ≤ 100000) :
    Calls Try.prog 22 #[.slice ao p.length cap, .string s] w (FPost (matchB p (bs s)) w) := by
  have hs0 : (0 : Int) ≤ s.size := by omega
  have hs1 : (s.size : Int) < ((s.size + 1 : Nat) : Int) := by omega
  have hs2 : (s.size : Int) < (s.size : Int) + 1 := by omega
  go_enter Try.func22, Try.ntmps22
  go_wp2_with fail
  refine (ends_soft p s ao cap _ h hm).mono ?_
  rintro e w1 ⟨b, rfl, hb, hB⟩
  have c0 : w1.cell? ⟨b, s.size, none⟩ = some (.bool (matchB p (bs s))) := by
    rw [cell_at hb]; exact (boolArr_get _ _ _ (by omega)).trans (by rw [R_last]; rfl)
  clear hb h
  go_wp2_with fail
  go_ret
  exact ⟨rfl, hB⟩
set_option maxHeartbeats 1000000 in
theorem rpath_calls (p : List Itm) (s : ByteArray) (ao : Option Addr) (cap : Nat) (w : World) (h : ItemsAt w ao p) (hm : s.size ≤ 100000) :
    Calls Try.prog 24 #[.slice ao p.length cap, .string s] w (FPost (pathB p (bs s)) w) := by
  have hs0 : (0 : Int) ≤ s.size := by omega
  have hs1 : (s.size : Int) < ((s.size + 1 : Nat) : Int) := by omega
  have hs2 : (s.size : Int) < (s.size : Int) + 1 := by omega
  go_enter Try.func24, Try.ntmps24
  go_wp2_with fail
  refine (ends_path p s ao cap _ h hm).mono ?_
  rintro e w1 ⟨b, rfl, hb, hB⟩
  have c0 : w1.cell? ⟨b, s.size, none⟩ = some (.bool (pathB p (bs s))) := by
    rw [cell_at hb]; exact (boolArr_get _ _ _ (by omega)).trans (by rw [R_last]; rfl)
  clear hb h
  go_wp2_with fail
  go_ret
  exact ⟨rfl, hB⟩
end Go.Proofs.Ytjbdpahdhlmanaa.Globs
