/- strings.IndexByte; 'All' of an alphabet with a byte twice. -/
import Derived.Test.YtjbdpahdhlmanaaGlB
import Derived.Test.YtjbdpahdhlmanaaHeld
import Derived.Lib.Bytealg
import Derived.Laws.Externs
namespace Go.Proofs.Ytjbdpahdhlmanaa.Globs
open Go.RowKit Go.Proofs.Ytjbdpahdhlmanaa Go.Proofs.Ytjbdpahdhlmanaa.Hp
set_option linter.unusedVariables false

set_option maxRecDepth 100000 in
theorem slix_calls (s : ByteArray) (c : Int) (w : World) :
    Calls Try.prog 48 #[.string s, .int .u8 c] w fun e w' => e = .returned (.int .i64 (Lib.indexByte s.data.toList c.toNat.toUInt8)) ∧ w = w' := by
  go_enter Try.func48, Try.ntmps48
  go_wp2_with fail
  rw [run_callFunc_extern Try.func52 (by kernel_rfl) (by kernel_rfl) (by kernel_rfl) (e := Extern.BytealgIndexByte.indexByte) (by kernel_rfl), Lib.run_indexByteString]
  simp only [Result.andThen]
  rw [Oper.upon_value]
  go_wp2_with fail
  go_ret
  exact ⟨rfl, rfl⟩
theorem six_calls (s : ByteArray) (c : Int) (w : World) :
    Calls Try.prog 39 #[.string s, .int .u8 c] w fun e w' => e = .returned (.int .i64 (Lib.indexByte s.data.toList c.toNat.toUInt8)) ∧ w = w' := by
  go_enter Try.func39, Try.ntmps39
  go_wp2_with fail
  refine (slix_calls s c w).mono ?_
  rintro e w' ⟨rfl, rfl⟩
  go_wp2_with fail
  go_ret
  exact ⟨rfl, rfl⟩

def AaPost (w : World) (e : Ending) (w' : World) : Prop := e = .returned (.tuple #[.slice none 0 0, .int .i64 1]) ∧ Below w.heap.size w w'
def AaRel (w : World) (g : Nat) (nv av : Value) (wr : World) : Prop := ∃ n : Nat, n + g = 2 ∧ 0 < g ∧ nv = .int .i64 n ∧ Below w.heap.size w wr
set_option maxRecDepth 100000 in
set_option maxHeartbeats 2000000 in
theorem all_two (s : ByteArray) (hs : s.size = 2) (h0 : ∀ w : World, Calls Try.prog 39 #[.string (s.extract 0 0), .int .u8 s[0].toNat] w fun e w' => e = .returned (.int .i64 (-1)) ∧ w = w')
    (h1 : ∀ w : World, Calls Try.prog 39 #[.string (s.extract 0 1), .int .u8 s[1].toNat] w fun e w' => e = .returned (.int .i64 0) ∧ w = w')
    (ap : Option Addr) (n cp : Nat) (w : World) :
    Calls Try.prog 30 #[.slice ap n cp, .string s, .int .i64 1] w (AaPost w) := by
  have H0 := Lib.hid h0
  have H1 := Lib.hid h1
  clear h0 h1
  go_enter Try.func30, Try.ntmps30
  go_wp2_with fail
  go_loopg [16, 8] 2 (AaRel w)
  case atStart => exact ⟨0, rfl, by omega, rfl, (Below.refl _ _).alloc (Nat.le_refl _) _⟩
  case round =>
    obtain ⟨n, hng, hg, rfl, hbel⟩ := hrel
    have hn0 : (0 : Int) ≤ n := by omega
    have hn1 : (n : Int) ≤ s.size := by omega
    have hlt : (n : Int) < s.size := by omega
    have hlt2 : n < s.size := by omega
    have hlt3 : (n : Int) < 2 := by omega
    by_cases hz : n = 0
    · have HH : Hid (∀ w : World, Calls Try.prog 39 #[.string (s.extract 0 n), .int .u8 s[n].toNat] w fun e w' => e = .returned (.int .i64 (-1)) ∧ w = w') := Lib.hid (by subst hz; exact H0.out)
      have Hng := Lib.hid hng
      have Hz := Lib.hid hz
      have Hs := Lib.hid hs
      clear H0 H1 hz hng hs hg
      go_wp2_with fail
      refine Go.Proofs.Ytjbdpahdhlmanaa.region_plan (S := (fun w' => True)) [(0, true), (1, true), (2, true), (3, true), (4, true), (5, true), (6, false), (7, true)] (by kernel_rfl) (by kernel_rfl) (by kernel_rfl) ?_ ?_
      · ((try dsimp only); (first | done | (trivial)))
      simp only [Go.Proofs.Ytjbdpahdhlmanaa.planOps, List.map_cons, List.map_nil, List.getElem?_toArray, List.getElem?_cons_zero, List.getElem?_cons_succ]
      repeat (first
        | ((refine Go.Proofs.Ytjbdpahdhlmanaa.plan_yes (v := ?_) (by rfl) ?_ ?_); rotate_left; (focus (intro w hSw; (try dsimp only at hSw); go_simp; try (with_reducible rfl))); (try simp only [Act.put, List.setIfInBounds_toArray, List.set_cons_zero, List.set_cons_succ]))
        | ((refine Go.Proofs.Ytjbdpahdhlmanaa.plan_no (by rfl) ?_); (try simp only [Act.put, List.setIfInBounds_toArray, List.set_cons_zero, List.set_cons_succ]))
        | ((refine Go.Proofs.Ytjbdpahdhlmanaa.plan_step (fun K hK => ?_)); (first | (refine (HH.out _).mono ?_; rintro e w' ⟨rfl, rfl⟩) | (go_simp; (refine (HH.out _).mono ?_; rintro e w' ⟨rfl, rfl⟩); (try go_wp2_with fail)) | go_simp); (refine hK.out _ _ ?_ (fun hHeld => ?_)); (focus ((try dsimp only); (first | done | (trivial)))); clear hK K; (try simp only [Act.put, List.setIfInBounds_toArray, List.set_cons_zero, List.set_cons_succ])))
      refine Go.Proofs.Ytjbdpahdhlmanaa.plan_done ?_
      go_wp2_with fail
      go_roundg (gk - 1)
      case measure => have := Hng.out; have := Hz.out; omega
      case rel => exact ⟨n + 1, by have := Hng.out; have := Hz.out; omega, by have := Hng.out; have := Hz.out; omega, by go_num, hbel.drew⟩
    · have hz1 : n = 1 := by omega
      have HH : Hid (∀ w : World, Calls Try.prog 39 #[.string (s.extract 0 n), .int .u8 s[n].toNat] w fun e w' => e = .returned (.int .i64 0) ∧ w = w') := Lib.hid (by subst hz1; exact H1.out)
      have Hng := Lib.hid hng
      have Hs := Lib.hid hs
      clear H0 H1 hz hz1 hng hs hg
      go_wp2_with fail
      refine Go.Proofs.Ytjbdpahdhlmanaa.region_plan (S := (fun w' => True)) [(0, true), (1, true), (2, true), (3, true), (4, true), (5, true), (6, false), (7, true)] (by kernel_rfl) (by kernel_rfl) (by kernel_rfl) ?_ ?_
      · ((try dsimp only); (first | done | (trivial)))
      simp only [Go.Proofs.Ytjbdpahdhlmanaa.planOps, List.map_cons, List.map_nil, List.getElem?_toArray, List.getElem?_cons_zero, List.getElem?_cons_succ]
      repeat (first
        | ((refine Go.Proofs.Ytjbdpahdhlmanaa.plan_yes (v := ?_) (by rfl) ?_ ?_); rotate_left; (focus (intro w hSw; (try dsimp only at hSw); go_simp; try (with_reducible rfl))); (try simp only [Act.put, List.setIfInBounds_toArray, List.set_cons_zero, List.set_cons_succ]))
        | ((refine Go.Proofs.Ytjbdpahdhlmanaa.plan_no (by rfl) ?_); (try simp only [Act.put, List.setIfInBounds_toArray, List.set_cons_zero, List.set_cons_succ]))
        | ((refine Go.Proofs.Ytjbdpahdhlmanaa.plan_step (fun K hK => ?_)); (first | (refine (HH.out _).mono ?_; rintro e w' ⟨rfl, rfl⟩) | (go_simp; (refine (HH.out _).mono ?_; rintro e w' ⟨rfl, rfl⟩); (try go_wp2_with fail)) | go_simp); (refine hK.out _ _ ?_ (fun hHeld => ?_)); (focus ((try dsimp only); (first | done | (trivial)))); clear hK K; (try simp only [Act.put, List.setIfInBounds_toArray, List.set_cons_zero, List.set_cons_succ])))
      refine Go.Proofs.Ytjbdpahdhlmanaa.plan_done ?_
      go_wp2_with fail
      go_ret2
      exact ⟨rfl, hbel.drew⟩
theorem all_aa (ap : Option Addr) (n cp : Nat) (w : World) :
    Calls Try.prog 30 #[.slice ap n cp, .string { data := #[97, 97] }, .int .i64 1] w (AaPost w) := by
  refine all_two _ rfl (fun w => ?_) (fun w => ?_) ap n cp w
  · exact six_calls _ _ _
  · exact six_calls _ _ _
end Go.Proofs.Ytjbdpahdhlmanaa.Globs
