/- slices.Sort of at most one float; Sorted; Keys of a map of floats. -/
import Derived.Test.YtibgpkcklneloaaNiB
namespace Go.Proofs.Ytibgpkcklneloaa.Undo
open Go.RowKit Go.ChangeMaps Go.Proofs.Ytibgpkcklneloaa Go.Proofs.Ytibgpkcklneloaa.Hp
set_option linter.unusedVariables false
attribute [local go_sem] Oper.semAt_some

theorem len8_0 : wrap64 (wrap64 (Lib.len8 0)) = 0 := by kernel_rfl
set_option maxRecDepth 100000 in
set_option maxHeartbeats 2000000 in
theorem len64_0 (w : World) : Calls Try.prog 77 #[.int .u64 0] w fun e w' => e = .returned (.int .i64 0) ∧ w = w' := by
  go_enter Try.func77, Try.ntmps77
  go_wp2_with fail
  go_ret
  exact ⟨congrArg (fun x => Ending.returned (.int .i64 x)) len8_0, rfl⟩
theorem len_0 (w : World) : Calls Try.prog 64 #[.int .u64 0] w fun e w' => e = .returned (.int .i64 0) ∧ w = w' := by
  go_enter Try.func64, Try.ntmps64
  go_wp2_with fail
  refine (len64_0 w).mono ?_
  rintro e w' ⟨rfl, rfl⟩
  go_wp2_with fail
  go_ret
  exact ⟨rfl, rfl⟩
theorem ins_0 (p : Option Addr) (cap : Nat) (w : World) : Calls Try.prog 78 #[.slice p 0 cap, .int .i64 0, .int .i64 0] w fun e w' => (∃ v, e = .returned v) ∧ w = w' := by
  go_enter Try.func78, Try.ntmps78
  go_wp2_with fail
  go_loopg [6, 7] 0 (fun (g : Nat) (iv jv : Value) (wr : World) => iv = .int .i64 1 ∧ w = wr)
  case atStart => exact ⟨rfl, rfl⟩
  case round =>
    obtain ⟨rfl, rfl⟩ := hrel
    go_wp2_with fail
    go_end0
    exact ⟨⟨_, rfl⟩, rfl⟩
set_option maxRecDepth 100000 in
set_option maxHeartbeats 4000000 in
theorem pdq_0 (p : Option Addr) (cap : Nat) (w : World) : Calls Try.prog 66 #[.slice p 0 cap, .int .i64 0, .int .i64 0, .int .i64 0] w fun e w' => (∃ v, e = .returned v) ∧ w = w' := by
  go_enter Try.func66, Try.ntmps66
  go_wp2_with fail
  go_loopg [1, 2, 3, 8, 9, 10, 11, 12, 13, 14, 15, 16, 17, 18] 0 (fun (g : Nat) (a b l _ _ _ _ _ _ _ _ _ _ _ : Value) (wr : World) => a = .int .i64 0 ∧ b = .int .i64 0 ∧ l = .int .i64 0 ∧ w = wr)
  case atStart => exact ⟨rfl, rfl, rfl, rfl⟩
  case round =>
    obtain ⟨rfl, rfl, rfl, rfl⟩ := hrel
    go_wp2_with fail
    refine (ins_0 p cap w).mono ?_
    rintro e w' ⟨⟨v, rfl⟩, rfl⟩
    go_wp2_with fail
    (try simp only [Exit.inBlock, Exit.then])
    refine bodyPost_ret (results_none rfl _ _ _) rfl ?_
    exact ⟨⟨_, rfl⟩, rfl⟩
theorem sort_0 (p : Option Addr) (cap : Nat) (w : World) : Calls Try.prog 60 #[.slice p 0 cap] w fun e w' => (∃ v, e = .returned v) ∧ w = w' := by
  go_enter Try.func60, Try.ntmps60
  go_wp2_with fail
  refine (len_0 w).mono ?_
  rintro e w' ⟨rfl, rfl⟩
  go_wp2_with fail
  refine (pdq_0 p cap w).mono ?_
  rintro e w' ⟨⟨v, rfl⟩, rfl⟩
  go_wp2_with fail
  go_end0
  exact ⟨⟨_, rfl⟩, rfl⟩
theorem len8_1 : wrap64 (wrap64 (Lib.len8 1)) = 1 := by kernel_rfl
set_option maxRecDepth 100000 in
set_option maxHeartbeats 2000000 in
theorem len64_1 (w : World) : Calls Try.prog 77 #[.int .u64 1] w fun e w' => e = .returned (.int .i64 1) ∧ w = w' := by
  go_enter Try.func77, Try.ntmps77
  go_wp2_with fail
  go_ret
  exact ⟨congrArg (fun x => Ending.returned (.int .i64 x)) len8_1, rfl⟩
theorem len_1 (w : World) : Calls Try.prog 64 #[.int .u64 1] w fun e w' => e = .returned (.int .i64 1) ∧ w = w' := by
  go_enter Try.func64, Try.ntmps64
  go_wp2_with fail
  refine (len64_1 w).mono ?_
  rintro e w' ⟨rfl, rfl⟩
  go_wp2_with fail
  go_ret
  exact ⟨rfl, rfl⟩
theorem ins_1 (p : Option Addr) (cap : Nat) (w : World) : Calls Try.prog 78 #[.slice p 1 cap, .int .i64 0, .int .i64 1] w fun e w' => (∃ v, e = .returned v) ∧ w = w' := by
  go_enter Try.func78, Try.ntmps78
  go_wp2_with fail
  go_loopg [6, 7] 0 (fun (g : Nat) (iv jv : Value) (wr : World) => iv = .int .i64 1 ∧ w = wr)
  case atStart => exact ⟨rfl, rfl⟩
  case round =>
    obtain ⟨rfl, rfl⟩ := hrel
    go_wp2_with fail
    go_end0
    exact ⟨⟨_, rfl⟩, rfl⟩
set_option maxRecDepth 100000 in
set_option maxHeartbeats 4000000 in
theorem pdq_1 (p : Option Addr) (cap : Nat) (w : World) : Calls Try.prog 66 #[.slice p 1 cap, .int .i64 0, .int .i64 1, .int .i64 1] w fun e w' => (∃ v, e = .returned v) ∧ w = w' := by
  go_enter Try.func66, Try.ntmps66
  go_wp2_with fail
  go_loopg [1, 2, 3, 8, 9, 10, 11, 12, 13, 14, 15, 16, 17, 18] 0 (fun (g : Nat) (a b l _ _ _ _ _ _ _ _ _ _ _ : Value) (wr : World) => a = .int .i64 0 ∧ b = .int .i64 1 ∧ l = .int .i64 1 ∧ w = wr)
  case atStart => exact ⟨rfl, rfl, rfl, rfl⟩
  case round =>
    obtain ⟨rfl, rfl, rfl, rfl⟩ := hrel
    go_wp2_with fail
    refine (ins_1 p cap w).mono ?_
    rintro e w' ⟨⟨v, rfl⟩, rfl⟩
    go_wp2_with fail
    (try simp only [Exit.inBlock, Exit.then])
    refine bodyPost_ret (results_none rfl _ _ _) rfl ?_
    exact ⟨⟨_, rfl⟩, rfl⟩
theorem sort_1 (p : Option Addr) (cap : Nat) (w : World) : Calls Try.prog 60 #[.slice p 1 cap] w fun e w' => (∃ v, e = .returned v) ∧ w = w' := by
  go_enter Try.func60, Try.ntmps60
  go_wp2_with fail
  refine (len_1 w).mono ?_
  rintro e w' ⟨rfl, rfl⟩
  go_wp2_with fail
  refine (pdq_1 p cap w).mono ?_
  rintro e w' ⟨⟨v, rfl⟩, rfl⟩
  go_wp2_with fail
  go_end0
  exact ⟨⟨_, rfl⟩, rfl⟩
theorem fsort_calls (n : Nat) (hn : n ≤ 1) (p : Option Addr) (cap : Nat) (w : World) : Calls Try.prog 60 #[.slice p n cap] w fun e w' => (∃ v, e = .returned v) ∧ w = w' := by
  rcases (show n = 0 ∨ n = 1 by omega) with rfl | rfl
  · exact sort_0 p cap w
  · exact sort_1 p cap w
set_option maxHeartbeats 1000000 in
theorem fsorted_calls (bb mb : Nat) (o : Option Nat) (w : World) (S : Hp) (h : Sat w (mbox bb mb * (fMap mb o * S))) :
    Calls Try.prog 49 #[.func (.func 61) #[] #[.pointer (some ⟨bb, 0, none⟩)]] w (CollPost bb mb o S w) := by
  have hc := Lib.hid (coll_calls bb mb o w S h)
  clear h
  go_enter Try.func49, Try.ntmps49
  go_wp2_with fail
  refine hc.out.mono ?_
  rintro e w2 ⟨p, cap, rfl, H2, R2⟩
  have H2 := Lib.hid H2
  go_wp2_with fail
  refine (fsort_calls _ (fkeys_len o) p cap w2).mono ?_
  rintro e w3 ⟨⟨v, rfl⟩, rfl⟩
  go_wp2_with fail
  go_ret
  exact ⟨p, cap, rfl, H2.out, R2⟩
set_option maxHeartbeats 1000000 in
/-- Keys of a map of at most one float key. -/
theorem fkeys_calls (mb m : Nat) (lb : Option Addr) (o : Option Nat) (w : World) (S : Hp) (h : Sat w (pts m (.cells #[.pointer lb, .map (some mb)] 97 (0, 0)) * (fMap mb o * S))) :
    Calls Try.prog 36 #[.pointer (some ⟨m, 0, none⟩)] w fun e w' => (∃ p cap, e = .returned (.slice p (fKeys o).length cap)) ∧ Sat w' (pts m (.cells #[.pointer lb, .map (some mb)] 97 (0, 0)) * (fMap mb o * S)) ∧ Ran w w' := by
  have c1 : w.cell? ⟨m, 1, none⟩ = some (.map (some mb)) := by rw [cell_at h.get]; rfl
  have ha := h.alloc (.cells #[.map (some mb)] 95 (0, 0))
  have hs := Lib.hid (fsorted_calls w.heap.size mb o (w.alloc (.cells #[.map (some mb)] 95 (0, 0))) (pts m (.cells #[.pointer lb, .map (some mb)] 97 (0, 0)) * S) (ha.perm (show _ = pts w.heap.size (.cells #[.map (some mb)] 95 (0, 0)) * (fMap mb o * (pts m (.cells #[.pointer lb, .map (some mb)] 97 (0, 0)) * S)) by ac_rfl)))
  clear h ha
  go_enter Try.func36, Try.ntmps36
  go_wp2_with fail
  refine Calls.mono (R := fun e w' => e = .returned (.func (.func 61) #[] #[.pointer (some ⟨w.heap.size, 0, none⟩)]) ∧ w' = w.alloc (.cells #[.map (some mb)] 95 (0, 0))) ?_ ?_
  · go_enter Try.func50, Try.ntmps50
    go_wp2_with fail
    go_ret
    exact ⟨rfl, rfl⟩
  rintro e w2 ⟨rfl, rfl⟩
  go_wp2_with fail
  refine hs.out.mono ?_
  rintro e w3 ⟨p, cap, rfl, H3, R3⟩
  have H3 := Lib.hid H3
  have R3 := Lib.hid (Below.trans (Ran.new (Below.refl 0 w) _) R3)
  go_wp2_with fail
  go_ret
  exact ⟨⟨p, cap, rfl⟩, (H3.out.perm (show _ = fArr p cap (fKeys o) * (mbox w.heap.size mb * (pts m (.cells #[.pointer lb, .map (some mb)] 97 (0, 0)) * (fMap mb o * S))) by ac_rfl)).right.right, R3.out⟩
end Go.Proofs.Ytibgpkcklneloaa.Undo
