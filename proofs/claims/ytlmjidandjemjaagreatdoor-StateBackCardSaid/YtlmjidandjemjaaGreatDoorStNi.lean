/- The methods of a state that is not there. (printed by gen_stni.py) -/
import Derived.Test.YtlmjidandjemjaaGreatDoorStGd
namespace Go.Proofs.YtlmjidandjemjaaGreatDoor.State
open Go.RowKit Go.Proofs.YtlmjidandjemjaaGreatDoor Go.Proofs.YtlmjidandjemjaaGreatDoor.Hp Go.Proofs.YtlmjidandjemjaaGreatDoor.Undo
set_option linter.unusedVariables false
attribute [local go_sem] Oper.semAt_some

abbrev nilP : Value := .pointer none
abbrev zV : Value := .agg #[.string ⟨#[]⟩, .bool false, .bool false, .bool false]
set_option maxRecDepth 100000 in
set_option maxHeartbeats 4000000 in
theorem named_nil (k : ByteArray) (w : World) : Calls Tryz.prog 45 #[nilP, .string k] w fun e w' => e = .returned (.int .i64 2) ∧ w = w' := by
  go_enter Tryz.func45, Tryz.ntmps45
  go_wp2_with fail
  go_ret
  exact ⟨rfl, rfl⟩
set_option maxRecDepth 100000 in
set_option maxHeartbeats 4000000 in
theorem Names_nil (w : World) : Calls Tryz.prog 66 #[nilP] w fun e w' => e = .returned (.slice none 0 0) ∧ w = w' := by
  go_enter Tryz.func66, Tryz.ntmps66
  go_wp2_with fail
  go_ret
  exact ⟨rfl, rfl⟩
set_option maxRecDepth 100000 in
set_option maxHeartbeats 4000000 in
theorem Aliases_nil (w : World) : Calls Tryz.prog 67 #[nilP] w fun e w' => e = .returned (.slice none 0 0) ∧ w = w' := by
  go_enter Tryz.func67, Tryz.ntmps67
  go_wp2_with fail
  go_ret
  exact ⟨rfl, rfl⟩
set_option maxRecDepth 100000 in
set_option maxHeartbeats 4000000 in
theorem Options_nil (w : World) : Calls Tryz.prog 65 #[nilP] w fun e w' => e = .returned (.string ⟨#[]⟩) ∧ w = w' := by
  go_enter Tryz.func65, Tryz.ntmps65
  go_wp2_with fail
  go_ret
  exact ⟨rfl, rfl⟩
set_option maxRecDepth 100000 in
set_option maxHeartbeats 4000000 in
theorem Alias_nil (k : ByteArray) (w : World) : Calls Tryz.prog 68 #[nilP, .string k] w fun e w' => e = .returned (.tuple #[.string ⟨#[]⟩, .bool false]) ∧ w = w' := by
  go_enter Tryz.func68, Tryz.ntmps68
  go_wp2_with fail
  go_ret2
  exact ⟨rfl, rfl⟩
set_option maxRecDepth 100000 in
set_option maxHeartbeats 4000000 in
theorem Trap_nil (k : ByteArray) (w : World) : Calls Tryz.prog 39 #[nilP, .string k] w fun e w' => e = .returned (.tuple #[.string ⟨#[]⟩, .bool false]) ∧ w = w' := by
  go_enter Tryz.func39, Tryz.ntmps39
  go_wp2_with fail
  go_ret2
  exact ⟨rfl, rfl⟩
set_option maxRecDepth 100000 in
set_option maxHeartbeats 4000000 in
theorem Status_nil (w : World) : Calls Tryz.prog 25 #[nilP] w fun e w' => e = .returned (.int .i64 0) ∧ w = w' := by
  go_enter Tryz.func25, Tryz.ntmps25
  go_wp2_with fail
  go_ret
  exact ⟨rfl, rfl⟩
set_option maxRecDepth 100000 in
set_option maxHeartbeats 4000000 in
theorem SetAlias_nil (k t : ByteArray) (w : World) : Calls Tryz.prog 53 #[nilP, .string k, .string t] w fun e w' => e = .returned (.int .i64 2) ∧ w = w' := by
  go_enter Tryz.func53, Tryz.ntmps53
  go_wp2_with fail
  go_ret
  exact ⟨rfl, rfl⟩
set_option maxRecDepth 100000 in
set_option maxHeartbeats 4000000 in
theorem Unalias_nil (k : ByteArray) (w : World) : Calls Tryz.prog 54 #[nilP, .string k] w fun e w' => e = .returned (.int .i64 2) ∧ w = w' := by
  go_enter Tryz.func54, Tryz.ntmps54
  go_wp2_with fail
  go_ret
  exact ⟨rfl, rfl⟩
set_option maxRecDepth 100000 in
set_option maxHeartbeats 4000000 in
theorem SetTrap_nil (k t : ByteArray) (w : World) : Calls Tryz.prog 37 #[nilP, .string k, .string t] w fun e w' => e = .returned (.int .i64 2) ∧ w = w' := by
  go_enter Tryz.func37, Tryz.ntmps37
  go_wp2_with fail
  go_ret
  exact ⟨rfl, rfl⟩
set_option maxRecDepth 100000 in
set_option maxHeartbeats 4000000 in
theorem Untrap_nil (k : ByteArray) (w : World) : Calls Tryz.prog 55 #[nilP, .string k] w fun e w' => e = .returned (.int .i64 2) ∧ w = w' := by
  go_enter Tryz.func55, Tryz.ntmps55
  go_wp2_with fail
  go_ret
  exact ⟨rfl, rfl⟩
set_option maxRecDepth 100000 in
set_option maxHeartbeats 4000000 in
theorem Enter_nil (w : World) : Calls Tryz.prog 38 #[nilP] w fun e w' => e = .returned (.int .i64 2) ∧ w = w' := by
  go_enter Tryz.func38, Tryz.ntmps38
  go_wp2_with fail
  go_ret
  exact ⟨rfl, rfl⟩
set_option maxRecDepth 100000 in
set_option maxHeartbeats 4000000 in
theorem SetOption_nil (b : UInt8) (on : Bool) (w : World) : Calls Tryz.prog 34 #[nilP, .int .u8 ((b.toNat : Nat) : Int), .bool on] w fun e w' => e = .returned (.int .i64 2) ∧ w = w' := by
  go_enter Tryz.func34, Tryz.ntmps34
  go_wp2_with fail
  go_ret
  exact ⟨rfl, rfl⟩
set_option maxRecDepth 100000 in
set_option maxHeartbeats 4000000 in
theorem SetArgs_nil (p : Option Addr) (n c : Nat) (w : World) : Calls Tryz.prog 10 #[nilP, .slice p n c] w fun e w' => e = .returned (.int .i64 2) ∧ w = w' := by
  go_enter Tryz.func10, Tryz.ntmps10
  go_wp2_with fail
  go_ret
  exact ⟨rfl, rfl⟩
set_option maxRecDepth 100000 in
set_option maxHeartbeats 4000000 in
theorem SetCursor_nil (a i : Int) (w : World) : Calls Tryz.prog 57 #[nilP, .int .i64 a, .int .i64 i] w fun e w' => e = .returned (.int .i64 2) ∧ w = w' := by
  go_enter Tryz.func57, Tryz.ntmps57
  go_wp2_with fail
  go_ret
  exact ⟨rfl, rfl⟩
set_option maxRecDepth 100000 in
set_option maxHeartbeats 4000000 in
theorem New_nil (w : World) : Calls Tryz.prog 21 #[nilP] w fun e w' => e = .returned (.tuple #[nilP, .int .i64 2]) ∧ w = w' := by
  go_enter Tryz.func21, Tryz.ntmps21
  go_wp2_with fail
  go_ret2
  exact ⟨rfl, rfl⟩
set_option maxRecDepth 100000 in
set_option maxHeartbeats 4000000 in
theorem LMark_nil (w : World) : Calls Tryz.prog 27 #[nilP] w fun e w' => e = .returned (.tuple #[.int .i64 0, .int .i64 2]) ∧ w = w' := by
  go_enter Tryz.func27, Tryz.ntmps27
  go_wp2_with fail
  go_ret2
  exact ⟨rfl, rfl⟩
set_option maxRecDepth 100000 in
set_option maxHeartbeats 4000000 in
theorem LUndo_nil (w : World) : Calls Tryz.prog 28 #[nilP] w fun e w' => e = .returned (.int .i64 2) ∧ w = w' := by
  go_enter Tryz.func28, Tryz.ntmps28
  go_wp2_with fail
  go_ret
  exact ⟨rfl, rfl⟩
set_option maxRecDepth 100000 in
set_option maxHeartbeats 4000000 in
theorem UnsetF_nil (k : ByteArray) (w : World) : Calls Tryz.prog 52 #[nilP, .string k] w fun e w' => e = .returned (.int .i64 2) ∧ w = w' := by
  have HN := Lib.hid (fun w => named_nil k w)
  go_enter Tryz.func52, Tryz.ntmps52
  go_wp2_with fail
  refine (HN.out w).mono ?_
  rintro e w1 ⟨rfl, rfl⟩
  clear HN
  go_wp2_with fail
  go_ret
  exact ⟨rfl, rfl⟩
set_option maxRecDepth 100000 in
set_option maxHeartbeats 4000000 in
theorem Unset_nil (k : ByteArray) (w : World) : Calls Tryz.prog 17 #[nilP, .string k] w fun e w' => e = .returned (.int .i64 2) ∧ w = w' := by
  have HN := Lib.hid (fun w => named_nil k w)
  go_enter Tryz.func17, Tryz.ntmps17
  go_wp2_with fail
  refine (HN.out w).mono ?_
  rintro e w1 ⟨rfl, rfl⟩
  clear HN
  go_wp2_with fail
  go_ret
  exact ⟨rfl, rfl⟩
set_option maxRecDepth 100000 in
set_option maxHeartbeats 4000000 in
theorem Mark_nil (k : ByteArray) (ex fx : Bool) (w : World) : Calls Tryz.prog 16 #[nilP, .string k, .bool ex, .bool fx] w fun e w' => e = .returned (.int .i64 2) ∧ w = w' := by
  have HN := Lib.hid (fun w => named_nil k w)
  go_enter Tryz.func16, Tryz.ntmps16
  go_wp2_with fail
  refine (HN.out w).mono ?_
  rintro e w1 ⟨rfl, rfl⟩
  clear HN
  go_wp2_with fail
  go_ret
  exact ⟨rfl, rfl⟩
set_option maxRecDepth 100000 in
set_option maxHeartbeats 4000000 in
theorem SetF_nil (k t : ByteArray) (w : World) : Calls Tryz.prog 50 #[nilP, .string k, .agg #[.int .i64 6, .bool false, .string t, .bool false, .slice none 0 0, .slice none 0 0, .slice none 0 0, .slice none 0 0, .slice none 0 0]] w fun e w' => e = .returned (.int .i64 2) ∧ Below w.heap.size w w' := by
  have HN := Lib.hid (fun w => named_nil k w)
  go_enter Tryz.func50, Tryz.ntmps50
  go_wp2_with fail
  refine (HN.out _).mono ?_
  rintro e w1 ⟨rfl, rfl⟩
  clear HN
  go_wp2_with fail
  go_ret
  exact ⟨rfl, (Below.refl _ w).alloc (Nat.le_refl _) _⟩
set_option maxRecDepth 100000 in
set_option maxHeartbeats 4000000 in
theorem Var_nil (k : ByteArray) (w : World) : Calls Tryz.prog 20 #[nilP, .string k] w fun e w' => e = .returned zV ∧ Below w.heap.size w w' := by
  go_enter Tryz.func20, Tryz.ntmps20
  go_wp2_with fail
  refine bodyPost_ret (v := zV) (by simp [results, Tryz.results20, go_sem]) rfl ⟨rfl, (Below.refl _ w).alloc (Nat.le_refl _) _⟩
set_option maxRecDepth 100000 in
set_option maxHeartbeats 4000000 in
theorem Set_nil (k t : ByteArray) (w : World) : Calls Tryz.prog 14 #[nilP, .string k, .string t] w fun e w' => e = .returned (.int .i64 2) ∧ Below w.heap.size w w' := by
  have HV := Lib.hid (Var_nil k w)
  have HN := Lib.hid (fun w => named_nil k w)
  go_enter Tryz.func14, Tryz.ntmps14
  go_wp2_with fail
  refine HV.out.mono ?_
  rintro e w1 ⟨rfl, hB⟩
  have HB := Lib.hid hB
  clear HV hB
  go_wp2_with fail
  refine (HN.out _).mono ?_
  rintro e w2 ⟨rfl, rfl⟩
  clear HN
  go_wp2_with fail
  go_ret
  exact ⟨rfl, HB.out.alloc HB.out.size _⟩
set_option maxRecDepth 100000 in
set_option maxHeartbeats 4000000 in
theorem given_nil (w : World) : Calls Tryz.prog 44 #[nilP] w fun e w' => e = .returned (.agg #[.slice none 0 0, .int .i64 0, .int .i64 0]) ∧ Below w.heap.size w w' := by
  go_enter Tryz.func44, Tryz.ntmps44
  go_wp2_with fail
  exact bodyPost_ret (v := .agg #[.slice none 0 0, .int .i64 0, .int .i64 0]) (by simp [results, Tryz.results44, go_sem]) rfl ⟨rfl, (Below.refl _ w).alloc (Nat.le_refl _) _⟩
set_option maxRecDepth 100000 in
set_option maxHeartbeats 4000000 in
theorem Func_nil (k : ByteArray) (w : World) : Calls Tryz.prog 69 #[nilP, .string k] w fun e w' => e = .returned (.tuple #[.agg #[.int .i64 0, .bool false, .string ⟨#[]⟩, .bool false, .slice none 0 0, .slice none 0 0, .slice none 0 0, .slice none 0 0, .slice none 0 0], .bool false]) ∧ Below w.heap.size w w' := by
  go_enter Tryz.func69, Tryz.ntmps69
  go_wp2_with fail
  exact bodyPost_ret (v := .tuple #[.agg #[.int .i64 0, .bool false, .string ⟨#[]⟩, .bool false, .slice none 0 0, .slice none 0 0, .slice none 0 0, .slice none 0 0, .slice none 0 0], .bool false]) (by simp [results, Tryz.results69, go_sem]) rfl ⟨rfl, (Below.refl _ w).alloc (Nat.le_refl _) _⟩
set_option maxRecDepth 100000 in
set_option maxHeartbeats 4000000 in
theorem Shift_nil (k : Int) (w : World) : Calls Tryz.prog 36 #[nilP, .int .i64 k] w fun e w' => e = .returned (.int .i64 2) ∧ Below w.heap.size w w' := by
  have HV := Lib.hid (given_nil w)
  go_enter Tryz.func36, Tryz.ntmps36
  go_wp2_with fail
  refine HV.out.mono ?_
  rintro e w1 ⟨rfl, hB⟩
  have HB := Lib.hid (hB.alloc hB.size (.cells #[.slice none 0 0, .int .i64 0, .int .i64 0] 83 (0, 0)))
  clear HV hB
  go_wp2_with fail
  go_ret
  exact ⟨rfl, HB.out⟩
set_option maxRecDepth 100000 in
set_option maxHeartbeats 4000000 in
theorem Cursor_nil (w : World) : Calls Tryz.prog 22 #[nilP] w fun e w' => e = .returned (.tuple #[.int .i64 0, .int .i64 0]) ∧ Below w.heap.size w w' := by
  have HV := Lib.hid (given_nil w)
  go_enter Tryz.func22, Tryz.ntmps22
  go_wp2_with fail
  refine HV.out.mono ?_
  rintro e w1 ⟨rfl, hB⟩
  have HB := Lib.hid (hB.alloc hB.size (.cells #[.slice none 0 0, .int .i64 0, .int .i64 0] 83 (0, 0)))
  clear HV hB
  go_wp2_with fail
  go_quiet (fail)
  go_wp2_with fail
  go_ret2
  exact ⟨rfl, HB.out.trans ⟨rfl, rfl, rfl, Nat.le_refl _, fun _ _ => rfl⟩⟩
set_option maxRecDepth 100000 in
set_option maxHeartbeats 4000000 in
theorem SetStatus_nil (k : Int) (w : World) : Calls Tryz.prog 58 #[nilP, .int .i64 k] w fun e w' => e = .returned (.tuple #[]) ∧ w = w' := by
  go_enter Tryz.func58, Tryz.ntmps58
  go_wp2_with fail
  go_end0
  exact ⟨rfl, rfl⟩
set_option maxRecDepth 100000 in
set_option maxHeartbeats 4000000 in
theorem Environ_nil (w : World) : Calls Tryz.prog 35 #[nilP] w fun e w' => e = .returned (.slice none 0 0) ∧ w = w' := by
  have HN := Lib.hid (fun w => Names_nil w)
  go_enter Tryz.func35, Tryz.ntmps35
  go_wp2_with fail
  refine (HN.out _).mono ?_
  rintro e w2 ⟨rfl, rfl⟩
  clear HN
  go_wp2_with fail
  go_loopg [3, 5, 6, 10] 0 (fun g v3 v5 v6 v10 wr => v3 = .slice none 0 0 ∧ v10 = .int .i64 0 ∧ w = wr)
  case atStart => exact ⟨rfl, rfl, rfl⟩
  case round =>
    obtain ⟨rfl, rfl, rfl⟩ := hrel
    go_wp2_with fail
    go_ret
    exact ⟨rfl, rfl⟩
set_option maxRecDepth 100000 in
set_option maxHeartbeats 4000000 in
theorem Args_nil (w : World) : Calls Tryz.prog 11 #[nilP] w fun e w' => e = .returned (.slice none 0 0) ∧ Below w.heap.size w w' := by
  have HV := Lib.hid (given_nil w)
  have hfd := field_l
  have HC := Lib.hid (fun w => Tryz.slices_Clone_string_nil 0 0 w)
  go_enter Tryz.func11, Tryz.ntmps11
  go_wp2_with fail
  refine HV.out.mono ?_
  rintro e w1 ⟨rfl, hB⟩
  have HB := Lib.hid hB
  clear HV hB
  go_wp2_with fail
  refine (HC.out _).mono ?_
  rintro e w2 ⟨rfl, rfl⟩
  go_wp2_with fail
  go_ret
  exact ⟨rfl, HB.out⟩
end Go.Proofs.YtlmjidandjemjaaGreatDoor.State
