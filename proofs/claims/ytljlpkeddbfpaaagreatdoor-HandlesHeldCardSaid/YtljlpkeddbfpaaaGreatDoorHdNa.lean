/- The table's methods at nil walked. -/
import Derived.Test.YtljlpkeddbfpaaaGreatDoorHdAA
namespace Go.Proofs.YtljlpkeddbfpaaaGreatDoor.Hd
open Go.RowKit Go.Maps Go.Proofs.YtljlpkeddbfpaaaGreatDoor Go.Proofs.YtljlpkeddbfpaaaGreatDoor.Hp
set_option linter.unusedVariables false
attribute [local go_sem] Oper.semAt_some

abbrev nilP : Value := .pointer none
set_option maxRecDepth 100000 in
theorem get_nil (id : Int) (w : World) : Calls Tryz.prog 38 #[nilP, .int .i64 id] w fun e w' => e = .returned (.tuple #[nilP, .int .i64 2]) ∧ w = w' := by
  go_enter Tryz.func38, Tryz.ntmps38
  go_wp2_with fail
  go_ret2
  exact ⟨rfl, rfl⟩
set_option maxRecDepth 100000 in
theorem Text_nil (s : ByteArray) (w : World) : Calls Tryz.prog 15 #[nilP, .string s] w fun e w' => e = .returned (.tuple #[.int .i64 0, .int .i64 2]) ∧ w = w' := by
  go_enter Tryz.func15, Tryz.ntmps15
  go_wp2_with fail
  go_ret2
  exact ⟨rfl, rfl⟩
set_option maxRecDepth 100000 in
theorem Sink_nil (n : Int) (w : World) : Calls Tryz.prog 17 #[nilP, .int .i64 n] w fun e w' => e = .returned (.tuple #[.int .i64 0, .int .i64 2]) ∧ w = w' := by
  go_enter Tryz.func17, Tryz.ntmps17
  go_wp2_with fail
  go_ret2
  exact ⟨rfl, rfl⟩
set_option maxRecDepth 100000 in
theorem Pipe_nil (w : World) : Calls Tryz.prog 16 #[nilP] w fun e w' => e = .returned (.tuple #[.int .i64 0, .int .i64 0, .int .i64 2]) ∧ w = w' := by
  go_enter Tryz.func16, Tryz.ntmps16
  go_wp2_with fail
  exact bodyPost_ret (v := .tuple #[.int .i64 0, .int .i64 0, .int .i64 2]) (by simp [results, Tryz.results16, go_sem]) rfl ⟨rfl, rfl⟩
set_option maxRecDepth 100000 in
theorem Ref_nil (id : Int) (w : World) : Calls Tryz.prog 18 #[nilP, .int .i64 id] w fun e w' => e = .returned (.int .i64 2) ∧ w = w' := by
  have HG := Lib.hid (get_nil id w)
  go_enter Tryz.func18, Tryz.ntmps18
  go_wp2_with fail
  refine HG.out.mono ?_
  rintro e w1 ⟨rfl, rfl⟩
  go_wp2_with fail
  go_ret
  exact ⟨rfl, rfl⟩
set_option maxRecDepth 100000 in
theorem Unref_nil (id : Int) (w : World) : Calls Tryz.prog 27 #[nilP, .int .i64 id] w fun e w' => e = .returned (.int .i64 2) ∧ w = w' := by
  have HG := Lib.hid (get_nil id w)
  go_enter Tryz.func27, Tryz.ntmps27
  go_wp2_with fail
  refine HG.out.mono ?_
  rintro e w1 ⟨rfl, rfl⟩
  go_wp2_with fail
  go_ret
  exact ⟨rfl, rfl⟩
set_option maxRecDepth 100000 in
theorem Read_nil (id n : Int) (w : World) : Calls Tryz.prog 19 #[nilP, .int .i64 id, .int .i64 n] w fun e w' => e = .returned (.tuple #[.string ⟨#[]⟩, .int .i64 2]) ∧ w = w' := by
  have HG := Lib.hid (get_nil id w)
  go_enter Tryz.func19, Tryz.ntmps19
  go_wp2_with fail
  refine HG.out.mono ?_
  rintro e w1 ⟨rfl, rfl⟩
  go_wp2_with fail
  go_ret2
  exact ⟨rfl, rfl⟩
set_option maxRecDepth 100000 in
theorem Write_nil (id : Int) (s : ByteArray) (w : World) : Calls Tryz.prog 11 #[nilP, .int .i64 id, .string s] w fun e w' => e = .returned (.int .i64 2) ∧ w = w' := by
  have HG := Lib.hid (get_nil id w)
  go_enter Tryz.func11, Tryz.ntmps11
  go_wp2_with fail
  refine HG.out.mono ?_
  rintro e w1 ⟨rfl, rfl⟩
  go_wp2_with fail
  go_ret
  exact ⟨rfl, rfl⟩
set_option maxRecDepth 100000 in
theorem Seen_nil (id : Int) (w : World) : Calls Tryz.prog 20 #[nilP, .int .i64 id] w fun e w' => e = .returned (.tuple #[.string ⟨#[]⟩, .int .i64 2]) ∧ w = w' := by
  have HG := Lib.hid (get_nil id w)
  go_enter Tryz.func20, Tryz.ntmps20
  go_wp2_with fail
  refine HG.out.mono ?_
  rintro e w1 ⟨rfl, rfl⟩
  go_wp2_with fail
  go_ret2
  exact ⟨rfl, rfl⟩
set_option maxRecDepth 100000 in
theorem All_nil (w : World) : Calls Tryz.prog 23 #[nilP] w fun e w' => e = .returned (.slice none 0 0) ∧ w = w' := by
  go_enter Tryz.func23, Tryz.ntmps23
  go_wp2_with fail
  go_ret
  exact ⟨rfl, rfl⟩
set_option maxRecDepth 100000 in
theorem HNew_nil (fb : Nat) (w : World) : Calls Tryz.prog 30 #[pp fb, nilP] w fun e w' => e = .returned (.tuple #[nilP, .int .i64 2]) ∧ w = w' := by
  go_enter Tryz.func30, Tryz.ntmps30
  go_wp2_with fail
  go_ret2
  exact ⟨rfl, rfl⟩
set_option maxRecDepth 100000 in
theorem File_nil (k : Int) (m : Md) (w : World) : Calls Tryz.prog 10 #[nilP, .int .i64 k, mdV m] w fun e w' => e = .returned (.tuple #[.int .i64 0, .int .i64 2]) ∧ Below w.heap.size w w' := by
  have HB := Lib.hid ((Below.refl w.heap.size w).alloc (Nat.le_refl _) (mdO m))
  obtain ⟨mr, mw, mm⟩ := m
  go_enter Tryz.func10, Tryz.ntmps10
  go_wp2_with fail
  go_ret2
  exact ⟨rfl, HB.out⟩
set_option maxRecDepth 100000 in
theorem TStat_nil (id : Int) (w : World) : Calls Tryz.prog 24 #[nilP, .int .i64 id] w fun e w' => e = .returned (.tuple #[inV 0 0 0 0 ⟨false, false, false⟩, .int .i64 2]) ∧ Below w.heap.size w w' := by
  have HG := Lib.hid (get_nil id (w.alloc (inO 0 0 0 0 ⟨false, false, false⟩)))
  have HB := Lib.hid ((Below.refl w.heap.size w).alloc (Nat.le_refl _) (inO 0 0 0 0 ⟨false, false, false⟩))
  obtain ⟨r0, r1, r2, r3, r4, r5, r6⟩ := in_cells ((Sat.start w).alloc (inO 0 0 0 0 ⟨false, false, false⟩))
  go_enter Tryz.func24, Tryz.ntmps24
  go_wp2_with fail
  refine HG.out.mono ?_
  rintro e w1 ⟨rfl, rfl⟩
  go_wp2_with fail
  exact bodyPost_ret (v := .tuple #[inV 0 0 0 0 ⟨false, false, false⟩, .int .i64 2]) (by simp [results, Tryz.results24, go_sem, r0, r1, r2, r3, r4, r5, r6]) rfl ⟨rfl, HB.out⟩
end Go.Proofs.YtljlpkeddbfpaaaGreatDoor.Hd
