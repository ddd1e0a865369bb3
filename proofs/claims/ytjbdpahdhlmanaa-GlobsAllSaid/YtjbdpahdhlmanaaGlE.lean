/- Match and Path; the law's 'few'; opening a pattern that came in. -/
import Derived.Test.YtjbdpahdhlmanaaGlD
import Derived.ProofKit
import Derived.OpenShut
import Derived.ShutString
import Derived.ChangeOld
import Derived.Deep.Slices
import Derived.Lib.SmallJoins
namespace Go.Proofs.Ytjbdpahdhlmanaa.Globs
open Go.ChangeShapes Go.WideShapes Go.ChangeAt Go.RowKit Go.Proofs.Ytjbdpahdhlmanaa Go.Proofs.Ytjbdpahdhlmanaa.Hp
set_option linter.unusedVariables false

theorem kept_alloc (w : World) (o : Obj) : Kept w (w.alloc o) := ⟨by simp, fun k hk => Below.heap_alloc w o k hk⟩
theorem match_calls (p : List Itm) (s : ByteArray) (ao : Option Addr) (cap : Nat) (w : World) (h : ItemsAt w ao p) (hm : (s.size : Int) ≤ 9223372036854775806) :
    Calls Try.prog 21 #[.slice ao p.length cap, .string s] w (FPost (matchB p (bs s)) w) := by
  have H := Lib.hid (matches_soft p s ao cap w h hm)
  clear h hm
  go_enter Try.func21, Try.ntmps21
  go_wp2_with fail
  refine H.out.mono ?_
  rintro e w' ⟨rfl, hb⟩
  go_wp2_with fail
  go_ret
  exact ⟨rfl, hb⟩
theorem path_calls (p : List Itm) (s : ByteArray) (ao : Option Addr) (cap : Nat) (w : World) (h : ItemsAt w ao p) (hm : (s.size : Int) ≤ 9223372036854775806) :
    Calls Try.prog 23 #[.slice ao p.length cap, .string s] w (FPost (pathB p (bs s)) w) := by
  have H := Lib.hid (matches_hard p s ao cap (w.alloc (.cells #[.string s] 9)) w.heap.size (by simp) (by simp) (h.keep (kept_alloc _ _)) hm)
  clear h hm
  go_enter Try.func23, Try.ntmps23
  go_wp2_with fail
  refine H.out.mono ?_
  rintro e w' ⟨rfl, hb⟩
  go_wp2_with fail
  go_ret
  exact ⟨rfl, ((Below.refl _ _).alloc (Nat.le_refl _) _).trans (hb.mono (by simp))⟩

/-- A pattern is not too much. -/
def Few (l : List Itm) : Prop := l.length ≤ 60 ∧ ∀ x ∈ l, x.rs.length ≤ 60
set_option maxHeartbeats 1000000 in
theorem few_yes (w : World) (ao : Option Addr) (cap : Nat) (l : List Itm) (h : ItemsAt w ao l) (hf : Few l) :
    Calls Try.prog 20 #[.slice ao l.length cap] w fun e w' => e = .returned (.bool true) ∧ w = w' := by
  obtain ⟨hn, ha⟩ := hf
  have hn1 : (l.length : Int) ≤ 60 := by omega
  go_enter Try.func20, Try.ntmps20
  go_wp2_with fail
  go_loopg [3] (l.length) (fun k iv wr => ∃ i : Nat, i + k = l.length ∧ iv = .int .i64 (i : Int) ∧ wr = w)
  case atStart => exact ⟨0, by omega, rfl, rfl⟩
  case round =>
    obtain ⟨i, hik, rfl, rfl⟩ := hrel
    by_cases hi : i < l.length
    · obtain ⟨b, o, ra, rc, rfl, hb, h0, h1, h2, h3, h4⟩ := h.2 i hi
      have hd := ha l[i] (List.getElem_mem hi)
      have hd1 : (l[i].rs.length : Int) ≤ 60 := by omega
      have hlt : (i : Int) < l.length := by omega
      have hi0 : (0 : Int) ≤ i := by omega
      generalize l[i].rs = d at *
      have Hik := Lib.hid hik
      clear hik h h0 h1 h2 ha h4
      go_wp2_with fail
      go_roundg (gk - 1)
      case measure => have := Hik.out; omega
      case rel => exact ⟨i + 1, by have := Hik.out; omega, rfl, rfl⟩
    · have hge : ¬ ((i : Int) < l.length) := by omega
      clear hik h ha
      go_wp2
      go_ret
      exact ⟨rfl, rfl⟩

set_option maxHeartbeats 1000000 in
theorem few_no (w : World) (ao : Option Addr) (cap : Nat) (l : List Itm) (h : ItemsAt w ao l) (hf : ¬ Few l) :
    Calls Try.prog 20 #[.slice ao l.length cap] w fun e w' => e = .returned (.bool false) ∧ w = w' := by
  by_cases hn : l.length ≤ 60
  · have hn1 : (l.length : Int) ≤ 60 := by omega
    have hex : ∃ j, ∃ hj : j < l.length, 60 < l[j].rs.length := by
      rcases Classical.em (∃ j, ∃ hj : j < l.length, 60 < l[j].rs.length) with h1 | h1
      · exact h1
      · exfalso; refine hf ⟨hn, fun o ho => ?_⟩
        obtain ⟨j, hj, rfl⟩ := List.mem_iff_getElem.1 ho
        rcases Nat.lt_or_ge 60 l[j].rs.length with h2 | h2
        · exact absurd ⟨j, hj, h2⟩ h1
        · exact h2
    obtain ⟨j, hj, hjd⟩ := hex
    clear hf
    go_enter Try.func20, Try.ntmps20
    go_wp2_with fail
    go_loopg [3] (j + 1) (fun k iv wr => ∃ i : Nat, i + k = j + 1 ∧ 0 < k ∧ iv = .int .i64 (i : Int) ∧ wr = w)
    case atStart => exact ⟨0, by omega, by omega, rfl, rfl⟩
    case round =>
      obtain ⟨i, hik, hk0, rfl, rfl⟩ := hrel
      have hi : i < l.length := by omega
      have hlt : (i : Int) < l.length := by omega
      have hi0 : (0 : Int) ≤ i := by omega
      by_cases hd : l[i].rs.length ≤ 60
      · have hij : i ≠ j := by rintro rfl; omega
        obtain ⟨b, o, ra, rc, rfl, hb, h0, h1, h2, h3, h4⟩ := h.2 i hi
        have hd1 : (l[i].rs.length : Int) ≤ 60 := by omega
        generalize l[i].rs = d at *
        have Hik := Lib.hid hik
        clear hik h h0 h1 h2 h4
        go_wp2_with fail
        go_roundg (gk - 1)
        case measure => omega
        case rel => exact ⟨i + 1, by have := Hik.out; omega, by have := Hik.out; omega, rfl, rfl⟩
      · obtain ⟨b, o, ra, rc, rfl, hb, h0, h1, h2, h3, h4⟩ := h.2 i hi
        have hd1 : (60 : Int) < (l[i].rs.length : Int) := by omega
        have hd3 := h4.1
        generalize l[i].rs = d at *
        clear hik h h0 h1 h2 h4
        go_wp2
        go_ret
        exact ⟨rfl, rfl⟩
  · have hn1 : (60 : Int) < l.length := by omega
    have hl := h.1
    clear h hf
    go_enter Try.func20, Try.ntmps20
    go_wp2
    go_ret
    exact ⟨rfl, rfl⟩

theorem own : ownKnob Try.prog.godebug = none := by kernel_rfl
theorem laidOut : laidOutB Try.prog = true := by kernel_rfl
theorem cellsItem : Try.prog.cellsOf 42 = 4 := by kernel_rfl
theorem cellsRg : Try.prog.cellsOf 67 = 2 := by kernel_rfl
theorem cellsInt : Try.prog.cellsOf 3 = 1 := by kernel_rfl
theorem cellsU8 : Try.prog.cellsOf 5 = 1 := by kernel_rfl
theorem cellsBool : Try.prog.cellsOf 4 = 1 := by kernel_rfl
theorem cellsRgs : Try.prog.cellsOf 40 = 1 := by kernel_rfl
theorem i64_of {x : Int} (h : (Lit.int .i64 x).wf = true) : I64 x := by
  simp [Lit.wf, IntKind.min, IntKind.max, IntKind.signed, IntKind.bits] at h
  exact ⟨by omega, by omega⟩
theorem u8_of {x : Int} (h : (Lit.int .u8 x).wf = true) : ∃ c : UInt8, x = (c.toNat : Int) := by
  simp [Lit.wf, IntKind.min, IntKind.max, IntKind.signed, IntKind.bits] at h
  refine ⟨UInt8.ofNat x.toNat, ?_⟩
  rw [UInt8.toNat_ofNat']; omega
end Go.Proofs.Ytjbdpahdhlmanaa.Globs
