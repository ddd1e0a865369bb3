/- does of a state that is not there. (printed by gen_stnj.py) -/
import Derived.Test.YtlmjidandjemjaaGreatDoorStNi
namespace Go.Proofs.YtlmjidandjemjaaGreatDoor.State
open Go.RowKit Go.Proofs.YtlmjidandjemjaaGreatDoor Go.Proofs.YtlmjidandjemjaaGreatDoor.Hp Go.Proofs.YtlmjidandjemjaaGreatDoor.Undo
set_option linter.unusedVariables false
attribute [local go_sem] Oper.semAt_some

abbrev NilPost (w : World) (q : Int) (e : Ending) (w' : World) : Prop := e = .returned (.int .i64 q) ∧ Below w.heap.size w w'
set_option maxRecDepth 100000 in
set_option maxHeartbeats 8000000 in
theorem dn_0 (o : Opr) (w : World) (ha : askI o = 0) (hask : I64 o.ask) (ht : o.t.size ≤ 5000) (hn : I64 o.n) :
    Calls Tryz.prog 19 #[nilP, nilP, opA o] w (NilPost w 2) := by
  have S1 := (Sat.start w).alloc (opO o)
  have HAk := ask_calls o (w.alloc (opO o)) hask
  rw [ha] at HAk
  have RR : Below w.heap.size w (w.alloc (opO o)) := (Below.refl _ w).alloc (Nat.le_refl _) _
  obtain ⟨w2, hw2⟩ : ∃ w2, w2 = w.alloc (opO o) := ⟨_, rfl⟩
  obtain ⟨xb, hxb⟩ : ∃ b, b = w.heap.size := ⟨_, rfl⟩
  rw [← hw2, ← hxb] at S1
  rw [← hw2] at HAk RR
  obtain ⟨e0, e1, e2, e3, e4⟩ := op_cells S1
  have S2 := Lib.hid S1
  have HAk := Lib.hid HAk
  have RR := Lib.hid RR
  have Ht := Lib.hid ht
  have Hn := Lib.hid hn
  clear ha S1 hask ht
  go_enter Tryz.func19, Tryz.ntmps19
  go_upto_region 1 with fail
  rw [← hw2, ← hxb]
  clear hw2 hxb
  go_wp2_with fail
  refine HAk.out.mono ?_
  rintro e w3 ⟨rfl, hB⟩
  have S3 := S2.out.below hB
  have R3 := Lib.hid (RR.out.trans (hB.mono RR.out.size))
  clear e0 e1 e2 e3 e4
  obtain ⟨e0, e1, e2, e3, e4⟩ := op_cells S3
  have HC := Lib.hid (Set_nil o.k o.t w3)
  clear S3 S2 HAk RR hB hn
  go_wp2_with fail
  refine HC.out.mono ?_
  rintro e w4 ⟨rfl, hB4⟩
  have R4 := Lib.hid (R3.out.trans (hB4.mono R3.out.size))
  clear HC hB4
  go_wp2_with fail
  go_ret
  exact ⟨rfl, R4.out⟩
set_option maxRecDepth 100000 in
set_option maxHeartbeats 8000000 in
theorem dn_1 (o : Opr) (w : World) (ha : askI o = 1) (hask : I64 o.ask) (ht : o.t.size ≤ 5000) (hn : I64 o.n) :
    Calls Tryz.prog 19 #[nilP, nilP, opA o] w (NilPost w 2) := by
  have S1 := (Sat.start w).alloc (opO o)
  have HAk := ask_calls o (w.alloc (opO o)) hask
  rw [ha] at HAk
  have RR : Below w.heap.size w (w.alloc (opO o)) := (Below.refl _ w).alloc (Nat.le_refl _) _
  obtain ⟨w2, hw2⟩ : ∃ w2, w2 = w.alloc (opO o) := ⟨_, rfl⟩
  obtain ⟨xb, hxb⟩ : ∃ b, b = w.heap.size := ⟨_, rfl⟩
  rw [← hw2, ← hxb] at S1
  rw [← hw2] at HAk RR
  obtain ⟨e0, e1, e2, e3, e4⟩ := op_cells S1
  have S2 := Lib.hid S1
  have HAk := Lib.hid HAk
  have RR := Lib.hid RR
  have Ht := Lib.hid ht
  have Hn := Lib.hid hn
  clear ha S1 hask ht
  go_enter Tryz.func19, Tryz.ntmps19
  go_upto_region 1 with fail
  rw [← hw2, ← hxb]
  clear hw2 hxb
  go_wp2_with fail
  refine HAk.out.mono ?_
  rintro e w3 ⟨rfl, hB⟩
  have S3 := S2.out.below hB
  have R3 := Lib.hid (RR.out.trans (hB.mono RR.out.size))
  clear e0 e1 e2 e3 e4
  obtain ⟨e0, e1, e2, e3, e4⟩ := op_cells S3
  have HC := Lib.hid (Unset_nil o.k w3)
  clear S3 S2 HAk RR hB hn
  go_wp2_with fail
  refine HC.out.mono ?_
  rintro e w4 ⟨rfl, rfl⟩
  have R4 := R3
  clear HC
  go_wp2_with fail
  go_ret
  exact ⟨rfl, R4.out⟩
set_option maxRecDepth 100000 in
set_option maxHeartbeats 8000000 in
theorem dn_2 (o : Opr) (w : World) (ha : askI o = 2) (hask : I64 o.ask) (ht : o.t.size ≤ 5000) (hn : I64 o.n) :
    Calls Tryz.prog 19 #[nilP, nilP, opA o] w (NilPost w 2) := by
  have S1 := (Sat.start w).alloc (opO o)
  have HAk := ask_calls o (w.alloc (opO o)) hask
  rw [ha] at HAk
  have RR : Below w.heap.size w (w.alloc (opO o)) := (Below.refl _ w).alloc (Nat.le_refl _) _
  obtain ⟨w2, hw2⟩ : ∃ w2, w2 = w.alloc (opO o) := ⟨_, rfl⟩
  obtain ⟨xb, hxb⟩ : ∃ b, b = w.heap.size := ⟨_, rfl⟩
  rw [← hw2, ← hxb] at S1
  rw [← hw2] at HAk RR
  obtain ⟨e0, e1, e2, e3, e4⟩ := op_cells S1
  have S2 := Lib.hid S1
  have HAk := Lib.hid HAk
  have RR := Lib.hid RR
  have Ht := Lib.hid ht
  have Hn := Lib.hid hn
  clear ha S1 hask ht
  go_enter Tryz.func19, Tryz.ntmps19
  go_upto_region 1 with fail
  rw [← hw2, ← hxb]
  clear hw2 hxb
  go_wp2_with fail
  refine HAk.out.mono ?_
  rintro e w3 ⟨rfl, hB⟩
  have S3 := S2.out.below hB
  have R3 := Lib.hid (RR.out.trans (hB.mono RR.out.size))
  clear e0 e1 e2 e3 e4
  obtain ⟨e0, e1, e2, e3, e4⟩ := op_cells S3
  have hr2 : -2 < o.n.tmod 2 ∧ o.n.tmod 2 < 2 := by
    have h1 := Int.tmod_lt_of_pos o.n (show (0 : Int) < 2 by decide)
    have h2 := Int.tmod_lt_of_pos (-o.n) (show (0 : Int) < 2 by decide)
    rw [Int.neg_tmod] at h2; omega
  have hr3 : -3 < o.n.tmod 3 ∧ o.n.tmod 3 < 3 := by
    have h1 := Int.tmod_lt_of_pos o.n (show (0 : Int) < 3 by decide)
    have h2 := Int.tmod_lt_of_pos (-o.n) (show (0 : Int) < 3 by decide)
    rw [Int.neg_tmod] at h2; omega
  have wr2 : IntKind.i64.wrap (o.n.tmod 2) = o.n.tmod 2 := IntWalk.i64_in _ (by omega)
  have wr3 : IntKind.i64.wrap (o.n.tmod 3) = o.n.tmod 3 := IntWalk.i64_in _ (by omega)
  clear hr2 hr3
  have HC := Lib.hid (Mark_nil o.k (exB o) (fxB o) w3)
  clear S3 S2 HAk RR hB hn
  go_wp2_with fail
  refine HC.out.mono ?_
  rintro e w4 ⟨rfl, rfl⟩
  have R4 := R3
  clear HC
  go_wp2_with fail
  go_ret
  exact ⟨rfl, R4.out⟩
set_option maxRecDepth 100000 in
set_option maxHeartbeats 8000000 in
theorem dn_3 (o : Opr) (w : World) (ha : askI o = 3) (hask : I64 o.ask) (ht : o.t.size ≤ 5000) (hn : I64 o.n) :
    Calls Tryz.prog 19 #[nilP, nilP, opA o] w (NilPost w 2) := by
  have S1 := (Sat.start w).alloc (opO o)
  have HAk := ask_calls o (w.alloc (opO o)) hask
  rw [ha] at HAk
  have RR : Below w.heap.size w (w.alloc (opO o)) := (Below.refl _ w).alloc (Nat.le_refl _) _
  obtain ⟨w2, hw2⟩ : ∃ w2, w2 = w.alloc (opO o) := ⟨_, rfl⟩
  obtain ⟨xb, hxb⟩ : ∃ b, b = w.heap.size := ⟨_, rfl⟩
  rw [← hw2, ← hxb] at S1
  rw [← hw2] at HAk RR
  obtain ⟨e0, e1, e2, e3, e4⟩ := op_cells S1
  have S2 := Lib.hid S1
  have HAk := Lib.hid HAk
  have RR := Lib.hid RR
  have Ht := Lib.hid ht
  have Hn := Lib.hid hn
  clear ha S1 hask ht
  go_enter Tryz.func19, Tryz.ntmps19
  go_upto_region 1 with fail
  rw [← hw2, ← hxb]
  clear hw2 hxb
  go_wp2_with fail
  refine HAk.out.mono ?_
  rintro e w3 ⟨rfl, hB⟩
  have S3 := S2.out.below hB
  have R3 := Lib.hid (RR.out.trans (hB.mono RR.out.size))
  clear e0 e1 e2 e3 e4
  obtain ⟨e0, e1, e2, e3, e4⟩ := op_cells S3
  have S3d := Lib.hid S3.drew
  have R3d := Lib.hid (Below.drew R3.out)
  have HNd := Lib.hid (node_calls o.t w3.drew)
  clear S3 S2 HAk RR hB hn
  go_wp2_with fail
  refine Go.Proofs.YtlmjidandjemjaaGreatDoor.region_plan (S := (fun w' => w'.cell? ⟨xb, 1, none⟩ = some (.string o.k) ∧ w'.cell? ⟨xb, 2, none⟩ = some (.string o.t))) [(0, true), (1, true), (2, true), (3, true), (4, true), (5, false), (6, false), (7, true)] (by kernel_rfl) (by kernel_rfl) (by kernel_rfl) ?_ ?_
  · ((try dsimp only); (first | done | (first | exact ⟨e1, e2⟩ | exact ⟨hz1, hz2⟩ | exact ⟨hy1, hy2⟩)))
  simp only [Go.Proofs.YtlmjidandjemjaaGreatDoor.planOps, List.map_cons, List.map_nil, List.getElem?_toArray, List.getElem?_cons_zero, List.getElem?_cons_succ]
  repeat (first
    | ((refine Go.Proofs.YtlmjidandjemjaaGreatDoor.plan_yes (v := ?_) (by rfl) ?_ ?_); rotate_left; (focus (intro w hSw; (try dsimp only at hSw); go_simp; try (with_reducible rfl))); (try simp only [Act.put, List.setIfInBounds_toArray, List.set_cons_zero, List.set_cons_succ]))
    | ((refine Go.Proofs.YtlmjidandjemjaaGreatDoor.plan_no (by rfl) ?_); (try simp only [Act.put, List.setIfInBounds_toArray, List.set_cons_zero, List.set_cons_succ]))
    | ((refine Go.Proofs.YtlmjidandjemjaaGreatDoor.plan_step (fun K hK => ?_)); (first | (first | (go_at_call 51; refine HNd.out.mono ?_; rintro e w4 ⟨rfl, hB4⟩; have S4 := S3d.out.below hB4; obtain ⟨-, hz1, hz2, -⟩ := op_cells S4; have S4 := Lib.hid S4; have HC := Lib.hid (SetF_nil o.k o.t w4); have R4 := Lib.hid (R3d.out.trans (hB4.mono R3d.out.size)); clear hB4) | (go_at_call 50; refine HC.out.mono ?_; rintro e w5 ⟨rfl, hB5⟩; obtain ⟨-, hy1, hy2, -⟩ := op_cells (S4.out.below hB5); have R5 := Lib.hid (R4.out.trans (hB5.mono R4.out.size)); clear hB5)) | (go_simp; (first | (go_at_call 51; refine HNd.out.mono ?_; rintro e w4 ⟨rfl, hB4⟩; have S4 := S3d.out.below hB4; obtain ⟨-, hz1, hz2, -⟩ := op_cells S4; have S4 := Lib.hid S4; have HC := Lib.hid (SetF_nil o.k o.t w4); have R4 := Lib.hid (R3d.out.trans (hB4.mono R3d.out.size)); clear hB4) | (go_at_call 50; refine HC.out.mono ?_; rintro e w5 ⟨rfl, hB5⟩; obtain ⟨-, hy1, hy2, -⟩ := op_cells (S4.out.below hB5); have R5 := Lib.hid (R4.out.trans (hB5.mono R4.out.size)); clear hB5)); (try go_wp2_with fail)) | go_simp); (refine hK.out _ _ ?_ (fun hHeld => ?_)); (focus ((try dsimp only); (first | done | (first | exact ⟨e1, e2⟩ | exact ⟨hz1, hz2⟩ | exact ⟨hy1, hy2⟩)))); clear hK K; (try simp only [Act.put, List.setIfInBounds_toArray, List.set_cons_zero, List.set_cons_succ])))
  refine Go.Proofs.YtlmjidandjemjaaGreatDoor.plan_done ?_
  go_wp2_with fail
  go_ret
  exact ⟨rfl, R5.out⟩
set_option maxRecDepth 100000 in
set_option maxHeartbeats 8000000 in
theorem dn_4 (o : Opr) (w : World) (ha : askI o = 4) (hask : I64 o.ask) (ht : o.t.size ≤ 5000) (hn : I64 o.n) :
    Calls Tryz.prog 19 #[nilP, nilP, opA o] w (NilPost w 2) := by
  have S1 := (Sat.start w).alloc (opO o)
  have HAk := ask_calls o (w.alloc (opO o)) hask
  rw [ha] at HAk
  have RR : Below w.heap.size w (w.alloc (opO o)) := (Below.refl _ w).alloc (Nat.le_refl _) _
  obtain ⟨w2, hw2⟩ : ∃ w2, w2 = w.alloc (opO o) := ⟨_, rfl⟩
  obtain ⟨xb, hxb⟩ : ∃ b, b = w.heap.size := ⟨_, rfl⟩
  rw [← hw2, ← hxb] at S1
  rw [← hw2] at HAk RR
  obtain ⟨e0, e1, e2, e3, e4⟩ := op_cells S1
  have S2 := Lib.hid S1
  have HAk := Lib.hid HAk
  have RR := Lib.hid RR
  have Ht := Lib.hid ht
  have Hn := Lib.hid hn
  clear ha S1 hask ht
  go_enter Tryz.func19, Tryz.ntmps19
  go_upto_region 1 with fail
  rw [← hw2, ← hxb]
  clear hw2 hxb
  go_wp2_with fail
  refine HAk.out.mono ?_
  rintro e w3 ⟨rfl, hB⟩
  have S3 := S2.out.below hB
  have R3 := Lib.hid (RR.out.trans (hB.mono RR.out.size))
  clear e0 e1 e2 e3 e4
  obtain ⟨e0, e1, e2, e3, e4⟩ := op_cells S3
  have HC := Lib.hid (UnsetF_nil o.k w3)
  clear S3 S2 HAk RR hB hn
  go_wp2_with fail
  refine HC.out.mono ?_
  rintro e w4 ⟨rfl, rfl⟩
  have R4 := R3
  clear HC
  go_wp2_with fail
  go_ret
  exact ⟨rfl, R4.out⟩
set_option maxRecDepth 100000 in
set_option maxHeartbeats 8000000 in
theorem dn_5 (o : Opr) (w : World) (ha : askI o = 5) (hask : I64 o.ask) (ht : o.t.size ≤ 5000) (hn : I64 o.n) :
    Calls Tryz.prog 19 #[nilP, nilP, opA o] w (NilPost w 2) := by
  have S1 := (Sat.start w).alloc (opO o)
  have HAk := ask_calls o (w.alloc (opO o)) hask
  rw [ha] at HAk
  have RR : Below w.heap.size w (w.alloc (opO o)) := (Below.refl _ w).alloc (Nat.le_refl _) _
  obtain ⟨w2, hw2⟩ : ∃ w2, w2 = w.alloc (opO o) := ⟨_, rfl⟩
  obtain ⟨xb, hxb⟩ : ∃ b, b = w.heap.size := ⟨_, rfl⟩
  rw [← hw2, ← hxb] at S1
  rw [← hw2] at HAk RR
  obtain ⟨e0, e1, e2, e3, e4⟩ := op_cells S1
  have S2 := Lib.hid S1
  have HAk := Lib.hid HAk
  have RR := Lib.hid RR
  have Ht := Lib.hid ht
  have Hn := Lib.hid hn
  clear ha S1 hask ht
  go_enter Tryz.func19, Tryz.ntmps19
  go_upto_region 1 with fail
  rw [← hw2, ← hxb]
  clear hw2 hxb
  go_wp2_with fail
  refine HAk.out.mono ?_
  rintro e w3 ⟨rfl, hB⟩
  have S3 := S2.out.below hB
  have R3 := Lib.hid (RR.out.trans (hB.mono RR.out.size))
  clear e0 e1 e2 e3 e4
  obtain ⟨e0, e1, e2, e3, e4⟩ := op_cells S3
  have HC := Lib.hid (SetAlias_nil o.k o.t w3)
  clear S3 S2 HAk RR hB hn
  go_wp2_with fail
  refine HC.out.mono ?_
  rintro e w4 ⟨rfl, rfl⟩
  have R4 := R3
  clear HC
  go_wp2_with fail
  go_ret
  exact ⟨rfl, R4.out⟩
set_option maxRecDepth 100000 in
set_option maxHeartbeats 8000000 in
theorem dn_6 (o : Opr) (w : World) (ha : askI o = 6) (hask : I64 o.ask) (ht : o.t.size ≤ 5000) (hn : I64 o.n) :
    Calls Tryz.prog 19 #[nilP, nilP, opA o] w (NilPost w 2) := by
  have S1 := (Sat.start w).alloc (opO o)
  have HAk := ask_calls o (w.alloc (opO o)) hask
  rw [ha] at HAk
  have RR : Below w.heap.size w (w.alloc (opO o)) := (Below.refl _ w).alloc (Nat.le_refl _) _
  obtain ⟨w2, hw2⟩ : ∃ w2, w2 = w.alloc (opO o) := ⟨_, rfl⟩
  obtain ⟨xb, hxb⟩ : ∃ b, b = w.heap.size := ⟨_, rfl⟩
  rw [← hw2, ← hxb] at S1
  rw [← hw2] at HAk RR
  obtain ⟨e0, e1, e2, e3, e4⟩ := op_cells S1
  have S2 := Lib.hid S1
  have HAk := Lib.hid HAk
  have RR := Lib.hid RR
  have Ht := Lib.hid ht
  have Hn := Lib.hid hn
  clear ha S1 hask ht
  go_enter Tryz.func19, Tryz.ntmps19
  go_upto_region 1 with fail
  rw [← hw2, ← hxb]
  clear hw2 hxb
  go_wp2_with fail
  refine HAk.out.mono ?_
  rintro e w3 ⟨rfl, hB⟩
  have S3 := S2.out.below hB
  have R3 := Lib.hid (RR.out.trans (hB.mono RR.out.size))
  clear e0 e1 e2 e3 e4
  obtain ⟨e0, e1, e2, e3, e4⟩ := op_cells S3
  have HC := Lib.hid (Unalias_nil o.k w3)
  clear S3 S2 HAk RR hB hn
  go_wp2_with fail
  refine HC.out.mono ?_
  rintro e w4 ⟨rfl, rfl⟩
  have R4 := R3
  clear HC
  go_wp2_with fail
  go_ret
  exact ⟨rfl, R4.out⟩
set_option maxRecDepth 100000 in
set_option maxHeartbeats 8000000 in
theorem dn_7 (o : Opr) (w : World) (ha : askI o = 7) (hask : I64 o.ask) (ht : o.t.size ≤ 5000) (hn : I64 o.n) :
    Calls Tryz.prog 19 #[nilP, nilP, opA o] w (NilPost w 2) := by
  have S1 := (Sat.start w).alloc (opO o)
  have HAk := ask_calls o (w.alloc (opO o)) hask
  rw [ha] at HAk
  have RR : Below w.heap.size w (w.alloc (opO o)) := (Below.refl _ w).alloc (Nat.le_refl _) _
  obtain ⟨w2, hw2⟩ : ∃ w2, w2 = w.alloc (opO o) := ⟨_, rfl⟩
  obtain ⟨xb, hxb⟩ : ∃ b, b = w.heap.size := ⟨_, rfl⟩
  rw [← hw2, ← hxb] at S1
  rw [← hw2] at HAk RR
  obtain ⟨e0, e1, e2, e3, e4⟩ := op_cells S1
  have S2 := Lib.hid S1
  have HAk := Lib.hid HAk
  have RR := Lib.hid RR
  have Ht := Lib.hid ht
  have Hn := Lib.hid hn
  clear ha S1 hask ht
  go_enter Tryz.func19, Tryz.ntmps19
  go_upto_region 1 with fail
  rw [← hw2, ← hxb]
  clear hw2 hxb
  go_wp2_with fail
  refine HAk.out.mono ?_
  rintro e w3 ⟨rfl, hB⟩
  have S3 := S2.out.below hB
  have R3 := Lib.hid (RR.out.trans (hB.mono RR.out.size))
  clear e0 e1 e2 e3 e4
  obtain ⟨e0, e1, e2, e3, e4⟩ := op_cells S3
  have HC := Lib.hid (SetTrap_nil o.k o.t w3)
  clear S3 S2 HAk RR hB hn
  go_wp2_with fail
  refine HC.out.mono ?_
  rintro e w4 ⟨rfl, rfl⟩
  have R4 := R3
  clear HC
  go_wp2_with fail
  go_ret
  exact ⟨rfl, R4.out⟩
set_option maxRecDepth 100000 in
set_option maxHeartbeats 8000000 in
theorem dn_8 (o : Opr) (w : World) (ha : askI o = 8) (hask : I64 o.ask) (ht : o.t.size ≤ 5000) (hn : I64 o.n) :
    Calls Tryz.prog 19 #[nilP, nilP, opA o] w (NilPost w 2) := by
  have S1 := (Sat.start w).alloc (opO o)
  have HAk := ask_calls o (w.alloc (opO o)) hask
  rw [ha] at HAk
  have RR : Below w.heap.size w (w.alloc (opO o)) := (Below.refl _ w).alloc (Nat.le_refl _) _
  obtain ⟨w2, hw2⟩ : ∃ w2, w2 = w.alloc (opO o) := ⟨_, rfl⟩
  obtain ⟨xb, hxb⟩ : ∃ b, b = w.heap.size := ⟨_, rfl⟩
  rw [← hw2, ← hxb] at S1
  rw [← hw2] at HAk RR
  obtain ⟨e0, e1, e2, e3, e4⟩ := op_cells S1
  have S2 := Lib.hid S1
  have HAk := Lib.hid HAk
  have RR := Lib.hid RR
  have Ht := Lib.hid ht
  have Hn := Lib.hid hn
  clear ha S1 hask ht
  go_enter Tryz.func19, Tryz.ntmps19
  go_upto_region 1 with fail
  rw [← hw2, ← hxb]
  clear hw2 hxb
  go_wp2_with fail
  refine HAk.out.mono ?_
  rintro e w3 ⟨rfl, hB⟩
  have S3 := S2.out.below hB
  have R3 := Lib.hid (RR.out.trans (hB.mono RR.out.size))
  clear e0 e1 e2 e3 e4
  obtain ⟨e0, e1, e2, e3, e4⟩ := op_cells S3
  have HC := Lib.hid (Untrap_nil o.k w3)
  clear S3 S2 HAk RR hB hn
  go_wp2_with fail
  refine HC.out.mono ?_
  rintro e w4 ⟨rfl, rfl⟩
  have R4 := R3
  clear HC
  go_wp2_with fail
  go_ret
  exact ⟨rfl, R4.out⟩
set_option maxRecDepth 100000 in
set_option maxHeartbeats 8000000 in
theorem dn_9 (o : Opr) (w : World) (ha : askI o = 9) (hask : I64 o.ask) (ht : o.t.size ≤ 5000) (hn : I64 o.n) :
    Calls Tryz.prog 19 #[nilP, nilP, opA o] w (NilPost w 2) := by
  have S1 := (Sat.start w).alloc (opO o)
  have HAk := ask_calls o (w.alloc (opO o)) hask
  rw [ha] at HAk
  have RR : Below w.heap.size w (w.alloc (opO o)) := (Below.refl _ w).alloc (Nat.le_refl _) _
  obtain ⟨w2, hw2⟩ : ∃ w2, w2 = w.alloc (opO o) := ⟨_, rfl⟩
  obtain ⟨xb, hxb⟩ : ∃ b, b = w.heap.size := ⟨_, rfl⟩
  rw [← hw2, ← hxb] at S1
  rw [← hw2] at HAk RR
  obtain ⟨e0, e1, e2, e3, e4⟩ := op_cells S1
  have S2 := Lib.hid S1
  have HAk := Lib.hid HAk
  have RR := Lib.hid RR
  have Ht := Lib.hid ht
  have Hn := Lib.hid hn
  clear ha S1 hask ht
  go_enter Tryz.func19, Tryz.ntmps19
  go_upto_region 1 with fail
  rw [← hw2, ← hxb]
  clear hw2 hxb
  go_wp2_with fail
  refine HAk.out.mono ?_
  rintro e w3 ⟨rfl, hB⟩
  have S3 := S2.out.below hB
  have R3 := Lib.hid (RR.out.trans (hB.mono RR.out.size))
  clear e0 e1 e2 e3 e4
  obtain ⟨e0, e1, e2, e3, e4⟩ := op_cells S3
  have HC := Lib.hid (Enter_nil w3)
  clear S3 S2 HAk RR hB hn
  go_wp2_with fail
  refine HC.out.mono ?_
  rintro e w4 ⟨rfl, rfl⟩
  have R4 := R3
  clear HC
  go_wp2_with fail
  go_ret
  exact ⟨rfl, R4.out⟩
set_option maxRecDepth 100000 in
set_option maxHeartbeats 8000000 in
theorem dn_10 (o : Opr) (w : World) (ha : askI o = 10) (hask : I64 o.ask) (ht : o.t.size ≤ 5000) (hn : I64 o.n) :
    Calls Tryz.prog 19 #[nilP, nilP, opA o] w (NilPost w 2) := by
  have S1 := (Sat.start w).alloc (opO o)
  have HAk := ask_calls o (w.alloc (opO o)) hask
  rw [ha] at HAk
  have RR : Below w.heap.size w (w.alloc (opO o)) := (Below.refl _ w).alloc (Nat.le_refl _) _
  obtain ⟨w2, hw2⟩ : ∃ w2, w2 = w.alloc (opO o) := ⟨_, rfl⟩
  obtain ⟨xb, hxb⟩ : ∃ b, b = w.heap.size := ⟨_, rfl⟩
  rw [← hw2, ← hxb] at S1
  rw [← hw2] at HAk RR
  obtain ⟨e0, e1, e2, e3, e4⟩ := op_cells S1
  have S2 := Lib.hid S1
  have HAk := Lib.hid HAk
  have RR := Lib.hid RR
  have Ht := Lib.hid ht
  have Hn := Lib.hid hn
  clear ha S1 hask ht
  go_enter Tryz.func19, Tryz.ntmps19
  go_upto_region 1 with fail
  rw [← hw2, ← hxb]
  clear hw2 hxb
  go_wp2_with fail
  refine HAk.out.mono ?_
  rintro e w3 ⟨rfl, hB⟩
  have S3 := S2.out.below hB
  have R3 := Lib.hid (RR.out.trans (hB.mono RR.out.size))
  clear e0 e1 e2 e3 e4
  obtain ⟨e0, e1, e2, e3, e4⟩ := op_cells S3
  have hr2 : -2 < o.n.tmod 2 ∧ o.n.tmod 2 < 2 := by
    have h1 := Int.tmod_lt_of_pos o.n (show (0 : Int) < 2 by decide)
    have h2 := Int.tmod_lt_of_pos (-o.n) (show (0 : Int) < 2 by decide)
    rw [Int.neg_tmod] at h2; omega
  have wr2 : IntKind.i64.wrap (o.n.tmod 2) = o.n.tmod 2 := IntWalk.i64_in _ (by omega)
  have HFi := Lib.hid (first_calls o.t w3.drew (by have := Ht.out; unfold maxLen; omega))
  have HC := Lib.hid (SetOption_nil (firstB o.t) (exB o) w3.drew)
  obtain ⟨-, -, hy2, hy3, -⟩ := op_cells S3.drew
  have R3d := Lib.hid (Below.drew R3.out)
  clear S3 S2 HAk RR hB hn hr2
  go_wp2_with fail
  refine Go.Proofs.YtlmjidandjemjaaGreatDoor.region_plan (S := (fun w' => w'.cell? ⟨xb, 2, none⟩ = some (.string o.t) ∧ w'.cell? ⟨xb, 3, none⟩ = some (.int .i64 o.n))) [(0, true), (1, true), (2, true), (4, true), (5, true), (6, true), (7, true), (3, false), (8, false), (9, true)] (by kernel_rfl) (by kernel_rfl) (by kernel_rfl) ?_ ?_
  · ((try dsimp only); (first | done | (first | exact ⟨e2, e3⟩ | exact ⟨hy2, hy3⟩)))
  simp only [Go.Proofs.YtlmjidandjemjaaGreatDoor.planOps, List.map_cons, List.map_nil, List.getElem?_toArray, List.getElem?_cons_zero, List.getElem?_cons_succ]
  repeat (first
    | ((refine Go.Proofs.YtlmjidandjemjaaGreatDoor.plan_yes (v := ?_) (by rfl) ?_ ?_); rotate_left; (focus (intro w hSw; (try dsimp only at hSw); go_simp; try (with_reducible rfl))); (try simp only [Act.put, List.setIfInBounds_toArray, List.set_cons_zero, List.set_cons_succ]))
    | ((refine Go.Proofs.YtlmjidandjemjaaGreatDoor.plan_no (by rfl) ?_); (try simp only [Act.put, List.setIfInBounds_toArray, List.set_cons_zero, List.set_cons_succ]))
    | ((refine Go.Proofs.YtlmjidandjemjaaGreatDoor.plan_step (fun K hK => ?_)); (first | (first | (go_at_call 56; refine HFi.out.mono ?_; rintro e w4 ⟨rfl, rfl⟩) | (go_at_call 34; refine HC.out.mono ?_; rintro e w5 ⟨rfl, rfl⟩)) | (go_simp; (first | (go_at_call 56; refine HFi.out.mono ?_; rintro e w4 ⟨rfl, rfl⟩) | (go_at_call 34; refine HC.out.mono ?_; rintro e w5 ⟨rfl, rfl⟩)); (try go_wp2_with fail)) | go_simp); (refine hK.out _ _ ?_ (fun hHeld => ?_)); (focus ((try dsimp only); (first | done | (first | exact ⟨e2, e3⟩ | exact ⟨hy2, hy3⟩)))); clear hK K; (try simp only [Act.put, List.setIfInBounds_toArray, List.set_cons_zero, List.set_cons_succ])))
  refine Go.Proofs.YtlmjidandjemjaaGreatDoor.plan_done ?_
  go_wp2_with fail
  go_ret
  exact ⟨rfl, R3d.out⟩
set_option maxRecDepth 100000 in
set_option maxHeartbeats 8000000 in
theorem dn_11 (o : Opr) (w : World) (ha : askI o = 11) (hask : I64 o.ask) (ht : o.t.size ≤ 5000) (hn : I64 o.n) :
    Calls Tryz.prog 19 #[nilP, nilP, opA o] w (NilPost w 2) := by
  have S1 := (Sat.start w).alloc (opO o)
  have HAk := ask_calls o (w.alloc (opO o)) hask
  rw [ha] at HAk
  have RR : Below w.heap.size w (w.alloc (opO o)) := (Below.refl _ w).alloc (Nat.le_refl _) _
  obtain ⟨w2, hw2⟩ : ∃ w2, w2 = w.alloc (opO o) := ⟨_, rfl⟩
  obtain ⟨xb, hxb⟩ : ∃ b, b = w.heap.size := ⟨_, rfl⟩
  rw [← hw2, ← hxb] at S1
  rw [← hw2] at HAk RR
  obtain ⟨e0, e1, e2, e3, e4⟩ := op_cells S1
  have S2 := Lib.hid S1
  have HAk := Lib.hid HAk
  have RR := Lib.hid RR
  have Ht := Lib.hid ht
  have Hn := Lib.hid hn
  clear ha S1 hask ht
  go_enter Tryz.func19, Tryz.ntmps19
  go_upto_region 1 with fail
  rw [← hw2, ← hxb]
  clear hw2 hxb
  go_wp2_with fail
  refine HAk.out.mono ?_
  rintro e w3 ⟨rfl, hB⟩
  have S3 := S2.out.below hB
  have R3 := Lib.hid (RR.out.trans (hB.mono RR.out.size))
  clear e0 e1 e2 e3 e4
  obtain ⟨e0, e1, e2, e3, e4⟩ := op_cells S3
  have hr2 : -2 < o.n.tmod 2 ∧ o.n.tmod 2 < 2 := by
    have h1 := Int.tmod_lt_of_pos o.n (show (0 : Int) < 2 by decide)
    have h2 := Int.tmod_lt_of_pos (-o.n) (show (0 : Int) < 2 by decide)
    rw [Int.neg_tmod] at h2; omega
  have wr2 : IntKind.i64.wrap (o.n.tmod 2) = o.n.tmod 2 := IntWalk.i64_in _ (by omega)
  have HFi := Lib.hid (first_calls o.t w3.drew (by have := Ht.out; unfold maxLen; omega))
  have HC := Lib.hid (SetOption_nil (firstB o.t) (exB o) w3.drew)
  obtain ⟨-, -, hy2, hy3, -⟩ := op_cells S3.drew
  have R3d := Lib.hid (Below.drew R3.out)
  clear S3 S2 HAk RR hB hn hr2
  go_wp2_with fail
  refine Go.Proofs.YtlmjidandjemjaaGreatDoor.region_plan (S := (fun w' => w'.cell? ⟨xb, 2, none⟩ = some (.string o.t) ∧ w'.cell? ⟨xb, 3, none⟩ = some (.int .i64 o.n))) [(0, true), (1, true), (2, true), (4, true), (5, true), (6, true), (7, true), (3, false), (8, false), (9, true)] (by kernel_rfl) (by kernel_rfl) (by kernel_rfl) ?_ ?_
  · ((try dsimp only); (first | done | (first | exact ⟨e2, e3⟩ | exact ⟨hy2, hy3⟩)))
  simp only [Go.Proofs.YtlmjidandjemjaaGreatDoor.planOps, List.map_cons, List.map_nil, List.getElem?_toArray, List.getElem?_cons_zero, List.getElem?_cons_succ]
  repeat (first
    | ((refine Go.Proofs.YtlmjidandjemjaaGreatDoor.plan_yes (v := ?_) (by rfl) ?_ ?_); rotate_left; (focus (intro w hSw; (try dsimp only at hSw); go_simp; try (with_reducible rfl))); (try simp only [Act.put, List.setIfInBounds_toArray, List.set_cons_zero, List.set_cons_succ]))
    | ((refine Go.Proofs.YtlmjidandjemjaaGreatDoor.plan_no (by rfl) ?_); (try simp only [Act.put, List.setIfInBounds_toArray, List.set_cons_zero, List.set_cons_succ]))
    | ((refine Go.Proofs.YtlmjidandjemjaaGreatDoor.plan_step (fun K hK => ?_)); (first | (first | (go_at_call 56; refine HFi.out.mono ?_; rintro e w4 ⟨rfl, rfl⟩) | (go_at_call 34; refine HC.out.mono ?_; rintro e w5 ⟨rfl, rfl⟩)) | (go_simp; (first | (go_at_call 56; refine HFi.out.mono ?_; rintro e w4 ⟨rfl, rfl⟩) | (go_at_call 34; refine HC.out.mono ?_; rintro e w5 ⟨rfl, rfl⟩)); (try go_wp2_with fail)) | go_simp); (refine hK.out _ _ ?_ (fun hHeld => ?_)); (focus ((try dsimp only); (first | done | (first | exact ⟨e2, e3⟩ | exact ⟨hy2, hy3⟩)))); clear hK K; (try simp only [Act.put, List.setIfInBounds_toArray, List.set_cons_zero, List.set_cons_succ])))
  refine Go.Proofs.YtlmjidandjemjaaGreatDoor.plan_done ?_
  go_wp2_with fail
  go_ret
  exact ⟨rfl, R3d.out⟩
set_option maxRecDepth 100000 in
set_option maxHeartbeats 8000000 in
theorem dn_12 (o : Opr) (w : World) (ha : askI o = 12) (hask : I64 o.ask) (ht : o.t.size ≤ 5000) (hn : I64 o.n) :
    Calls Tryz.prog 19 #[nilP, nilP, opA o] w (NilPost w 2) := by
  have S1 := (Sat.start w).alloc (opO o)
  have HAk := ask_calls o (w.alloc (opO o)) hask
  rw [ha] at HAk
  have RR : Below w.heap.size w (w.alloc (opO o)) := (Below.refl _ w).alloc (Nat.le_refl _) _
  obtain ⟨w2, hw2⟩ : ∃ w2, w2 = w.alloc (opO o) := ⟨_, rfl⟩
  obtain ⟨xb, hxb⟩ : ∃ b, b = w.heap.size := ⟨_, rfl⟩
  rw [← hw2, ← hxb] at S1
  rw [← hw2] at HAk RR
  obtain ⟨e0, e1, e2, e3, e4⟩ := op_cells S1
  have S2 := Lib.hid S1
  have HAk := Lib.hid HAk
  have RR := Lib.hid RR
  have Ht := Lib.hid ht
  have Hn := Lib.hid hn
  clear ha S1 hask ht
  go_enter Tryz.func19, Tryz.ntmps19
  go_upto_region 1 with fail
  rw [← hw2, ← hxb]
  clear hw2 hxb
  go_wp2_with fail
  refine HAk.out.mono ?_
  rintro e w3 ⟨rfl, hB⟩
  have S3 := S2.out.below hB
  have R3 := Lib.hid (RR.out.trans (hB.mono RR.out.size))
  clear e0 e1 e2 e3 e4
  obtain ⟨e0, e1, e2, e3, e4⟩ := op_cells S3
  have HC := Lib.hid (SetArgs_nil o.p o.L.length o.c w3)
  clear S3 S2 HAk RR hB hn
  go_wp2_with fail
  refine HC.out.mono ?_
  rintro e w4 ⟨rfl, rfl⟩
  have R4 := R3
  clear HC
  go_wp2_with fail
  go_ret
  exact ⟨rfl, R4.out⟩
set_option maxRecDepth 100000 in
set_option maxHeartbeats 8000000 in
theorem dn_13 (o : Opr) (w : World) (ha : askI o = 13) (hask : I64 o.ask) (ht : o.t.size ≤ 5000) (hn : I64 o.n) :
    Calls Tryz.prog 19 #[nilP, nilP, opA o] w (NilPost w 2) := by
  have S1 := (Sat.start w).alloc (opO o)
  have HAk := ask_calls o (w.alloc (opO o)) hask
  rw [ha] at HAk
  have RR : Below w.heap.size w (w.alloc (opO o)) := (Below.refl _ w).alloc (Nat.le_refl _) _
  obtain ⟨w2, hw2⟩ : ∃ w2, w2 = w.alloc (opO o) := ⟨_, rfl⟩
  obtain ⟨xb, hxb⟩ : ∃ b, b = w.heap.size := ⟨_, rfl⟩
  rw [← hw2, ← hxb] at S1
  rw [← hw2] at HAk RR
  obtain ⟨e0, e1, e2, e3, e4⟩ := op_cells S1
  have S2 := Lib.hid S1
  have HAk := Lib.hid HAk
  have RR := Lib.hid RR
  have Ht := Lib.hid ht
  have Hn := Lib.hid hn
  clear ha S1 hask ht
  go_enter Tryz.func19, Tryz.ntmps19
  go_upto_region 1 with fail
  rw [← hw2, ← hxb]
  clear hw2 hxb
  go_wp2_with fail
  refine HAk.out.mono ?_
  rintro e w3 ⟨rfl, hB⟩
  have S3 := S2.out.below hB
  have R3 := Lib.hid (RR.out.trans (hB.mono RR.out.size))
  clear e0 e1 e2 e3 e4
  obtain ⟨e0, e1, e2, e3, e4⟩ := op_cells S3
  have HC := Lib.hid (Shift_nil o.n w3)
  clear S3 S2 HAk RR hB hn
  go_wp2_with fail
  refine HC.out.mono ?_
  rintro e w4 ⟨rfl, hB4⟩
  have R4 := Lib.hid (R3.out.trans (hB4.mono R3.out.size))
  clear HC hB4
  go_wp2_with fail
  go_ret
  exact ⟨rfl, R4.out⟩
set_option maxRecDepth 100000 in
set_option maxHeartbeats 8000000 in
theorem dn_14 (o : Opr) (w : World) (ha : askI o = 14) (hask : I64 o.ask) (ht : o.t.size ≤ 5000) (hn : I64 o.n) :
    Calls Tryz.prog 19 #[nilP, nilP, opA o] w (NilPost w 2) := by
  have S1 := (Sat.start w).alloc (opO o)
  have HAk := ask_calls o (w.alloc (opO o)) hask
  rw [ha] at HAk
  have RR : Below w.heap.size w (w.alloc (opO o)) := (Below.refl _ w).alloc (Nat.le_refl _) _
  obtain ⟨w2, hw2⟩ : ∃ w2, w2 = w.alloc (opO o) := ⟨_, rfl⟩
  obtain ⟨xb, hxb⟩ : ∃ b, b = w.heap.size := ⟨_, rfl⟩
  rw [← hw2, ← hxb] at S1
  rw [← hw2] at HAk RR
  obtain ⟨e0, e1, e2, e3, e4⟩ := op_cells S1
  have S2 := Lib.hid S1
  have HAk := Lib.hid HAk
  have RR := Lib.hid RR
  have Ht := Lib.hid ht
  have Hn := Lib.hid hn
  clear ha S1 hask ht
  go_enter Tryz.func19, Tryz.ntmps19
  go_upto_region 1 with fail
  rw [← hw2, ← hxb]
  clear hw2 hxb
  go_wp2_with fail
  refine HAk.out.mono ?_
  rintro e w3 ⟨rfl, hB⟩
  have S3 := S2.out.below hB
  have R3 := Lib.hid (RR.out.trans (hB.mono RR.out.size))
  clear e0 e1 e2 e3 e4
  obtain ⟨e0, e1, e2, e3, e4⟩ := op_cells S3
  have HC := Lib.hid (SetCursor_nil o.n (o.L.length : Int) w3)
  clear S3 S2 HAk RR hB hn
  go_wp2_with fail
  refine HC.out.mono ?_
  rintro e w4 ⟨rfl, rfl⟩
  have R4 := R3
  clear HC
  go_wp2_with fail
  go_ret
  exact ⟨rfl, R4.out⟩
set_option maxRecDepth 100000 in
set_option maxHeartbeats 8000000 in
theorem dn_15 (o : Opr) (w : World) (ha : askI o = 15) (hask : I64 o.ask) (ht : o.t.size ≤ 5000) (hn : I64 o.n) :
    Calls Tryz.prog 19 #[nilP, nilP, opA o] w (NilPost w 0) := by
  have S1 := (Sat.start w).alloc (opO o)
  have HAk := ask_calls o (w.alloc (opO o)) hask
  rw [ha] at HAk
  have RR : Below w.heap.size w (w.alloc (opO o)) := (Below.refl _ w).alloc (Nat.le_refl _) _
  obtain ⟨w2, hw2⟩ : ∃ w2, w2 = w.alloc (opO o) := ⟨_, rfl⟩
  obtain ⟨xb, hxb⟩ : ∃ b, b = w.heap.size := ⟨_, rfl⟩
  rw [← hw2, ← hxb] at S1
  rw [← hw2] at HAk RR
  obtain ⟨e0, e1, e2, e3, e4⟩ := op_cells S1
  have S2 := Lib.hid S1
  have HAk := Lib.hid HAk
  have RR := Lib.hid RR
  have Ht := Lib.hid ht
  have Hn := Lib.hid hn
  clear ha S1 hask ht
  go_enter Tryz.func19, Tryz.ntmps19
  go_upto_region 1 with fail
  rw [← hw2, ← hxb]
  clear hw2 hxb
  go_wp2_with fail
  refine HAk.out.mono ?_
  rintro e w3 ⟨rfl, hB⟩
  have S3 := S2.out.below hB
  have R3 := Lib.hid (RR.out.trans (hB.mono RR.out.size))
  clear e0 e1 e2 e3 e4
  obtain ⟨e0, e1, e2, e3, e4⟩ := op_cells S3
  have HC := Lib.hid (SetStatus_nil o.n w3)
  clear S3 S2 HAk RR hB hn
  go_wp2_with fail
  refine HC.out.mono ?_
  rintro e w4 ⟨rfl, rfl⟩
  have R4 := R3
  clear HC
  go_wp2_with fail
  go_ret
  exact ⟨rfl, R4.out⟩
set_option maxRecDepth 100000 in
set_option maxHeartbeats 8000000 in
theorem dn_16 (o : Opr) (w : World) (ha : askI o = 16) (hask : I64 o.ask) (ht : o.t.size ≤ 5000) (hn : I64 o.n) :
    Calls Tryz.prog 19 #[nilP, nilP, opA o] w (NilPost w 2) := by
  have S1 := (Sat.start w).alloc (opO o)
  have HAk := ask_calls o (w.alloc (opO o)) hask
  rw [ha] at HAk
  have RR : Below w.heap.size w (w.alloc (opO o)) := (Below.refl _ w).alloc (Nat.le_refl _) _
  obtain ⟨w2, hw2⟩ : ∃ w2, w2 = w.alloc (opO o) := ⟨_, rfl⟩
  obtain ⟨xb, hxb⟩ : ∃ b, b = w.heap.size := ⟨_, rfl⟩
  rw [← hw2, ← hxb] at S1
  rw [← hw2] at HAk RR
  obtain ⟨e0, e1, e2, e3, e4⟩ := op_cells S1
  have S2 := Lib.hid S1
  have HAk := Lib.hid HAk
  have RR := Lib.hid RR
  have Ht := Lib.hid ht
  have Hn := Lib.hid hn
  clear ha S1 hask ht
  go_enter Tryz.func19, Tryz.ntmps19
  go_upto_region 1 with fail
  rw [← hw2, ← hxb]
  clear hw2 hxb
  go_wp2_with fail
  refine HAk.out.mono ?_
  rintro e w3 ⟨rfl, hB⟩
  have S3 := S2.out.below hB
  have R3 := Lib.hid (RR.out.trans (hB.mono RR.out.size))
  clear e0 e1 e2 e3 e4
  obtain ⟨e0, e1, e2, e3, e4⟩ := op_cells S3
  have HC := Lib.hid (LMark_nil w3)
  clear S3 S2 HAk RR hB hn
  go_wp2_with fail
  refine HC.out.mono ?_
  rintro e w4 ⟨rfl, rfl⟩
  have R4 := R3
  clear HC
  go_wp2_with fail
  go_ret
  exact ⟨rfl, R4.out⟩
set_option maxRecDepth 100000 in
set_option maxHeartbeats 8000000 in
theorem dn_17 (o : Opr) (w : World) (ha : askI o = 17) (hask : I64 o.ask) (ht : o.t.size ≤ 5000) (hn : I64 o.n) :
    Calls Tryz.prog 19 #[nilP, nilP, opA o] w (NilPost w 2) := by
  have S1 := (Sat.start w).alloc (opO o)
  have HAk := ask_calls o (w.alloc (opO o)) hask
  rw [ha] at HAk
  have RR : Below w.heap.size w (w.alloc (opO o)) := (Below.refl _ w).alloc (Nat.le_refl _) _
  obtain ⟨w2, hw2⟩ : ∃ w2, w2 = w.alloc (opO o) := ⟨_, rfl⟩
  obtain ⟨xb, hxb⟩ : ∃ b, b = w.heap.size := ⟨_, rfl⟩
  rw [← hw2, ← hxb] at S1
  rw [← hw2] at HAk RR
  obtain ⟨e0, e1, e2, e3, e4⟩ := op_cells S1
  have S2 := Lib.hid S1
  have HAk := Lib.hid HAk
  have RR := Lib.hid RR
  have Ht := Lib.hid ht
  have Hn := Lib.hid hn
  clear ha S1 hask ht
  go_enter Tryz.func19, Tryz.ntmps19
  go_upto_region 1 with fail
  rw [← hw2, ← hxb]
  clear hw2 hxb
  go_wp2_with fail
  refine HAk.out.mono ?_
  rintro e w3 ⟨rfl, hB⟩
  have S3 := S2.out.below hB
  have R3 := Lib.hid (RR.out.trans (hB.mono RR.out.size))
  clear e0 e1 e2 e3 e4
  obtain ⟨e0, e1, e2, e3, e4⟩ := op_cells S3
  have HC := Lib.hid (LMark_nil w3)
  clear S3 S2 HAk RR hB hn
  go_wp2_with fail
  refine HC.out.mono ?_
  rintro e w4 ⟨rfl, rfl⟩
  have R4 := R3
  clear HC
  go_wp2_with fail
  go_ret
  exact ⟨rfl, R4.out⟩
set_option maxRecDepth 100000 in
set_option maxHeartbeats 8000000 in
theorem dn_18 (o : Opr) (w : World) (ha : askI o = 18) (hask : I64 o.ask) (ht : o.t.size ≤ 5000) (hn : I64 o.n) :
    Calls Tryz.prog 19 #[nilP, nilP, opA o] w (NilPost w 2) := by
  have S1 := (Sat.start w).alloc (opO o)
  have HAk := ask_calls o (w.alloc (opO o)) hask
  rw [ha] at HAk
  have RR : Below w.heap.size w (w.alloc (opO o)) := (Below.refl _ w).alloc (Nat.le_refl _) _
  obtain ⟨w2, hw2⟩ : ∃ w2, w2 = w.alloc (opO o) := ⟨_, rfl⟩
  obtain ⟨xb, hxb⟩ : ∃ b, b = w.heap.size := ⟨_, rfl⟩
  rw [← hw2, ← hxb] at S1
  rw [← hw2] at HAk RR
  obtain ⟨e0, e1, e2, e3, e4⟩ := op_cells S1
  have S2 := Lib.hid S1
  have HAk := Lib.hid HAk
  have RR := Lib.hid RR
  have Ht := Lib.hid ht
  have Hn := Lib.hid hn
  clear ha S1 hask ht
  go_enter Tryz.func19, Tryz.ntmps19
  go_upto_region 1 with fail
  rw [← hw2, ← hxb]
  clear hw2 hxb
  go_wp2_with fail
  refine HAk.out.mono ?_
  rintro e w3 ⟨rfl, hB⟩
  have S3 := S2.out.below hB
  have R3 := Lib.hid (RR.out.trans (hB.mono RR.out.size))
  clear e0 e1 e2 e3 e4
  obtain ⟨e0, e1, e2, e3, e4⟩ := op_cells S3
  have HC := Lib.hid (LUndo_nil w3)
  clear S3 S2 HAk RR hB hn
  go_wp2_with fail
  refine HC.out.mono ?_
  rintro e w4 ⟨rfl, rfl⟩
  have R4 := R3
  clear HC
  go_wp2_with fail
  go_ret
  exact ⟨rfl, R4.out⟩
set_option maxRecDepth 100000 in
set_option maxHeartbeats 8000000 in
theorem dn_19 (o : Opr) (w : World) (ha : askI o = 19) (hask : I64 o.ask) (ht : o.t.size ≤ 5000) (hn : I64 o.n) :
    Calls Tryz.prog 19 #[nilP, nilP, opA o] w (NilPost w 2) := by
  have S1 := (Sat.start w).alloc (opO o)
  have HAk := ask_calls o (w.alloc (opO o)) hask
  rw [ha] at HAk
  have RR : Below w.heap.size w (w.alloc (opO o)) := (Below.refl _ w).alloc (Nat.le_refl _) _
  obtain ⟨w2, hw2⟩ : ∃ w2, w2 = w.alloc (opO o) := ⟨_, rfl⟩
  obtain ⟨xb, hxb⟩ : ∃ b, b = w.heap.size := ⟨_, rfl⟩
  rw [← hw2, ← hxb] at S1
  rw [← hw2] at HAk RR
  obtain ⟨e0, e1, e2, e3, e4⟩ := op_cells S1
  have S2 := Lib.hid S1
  have HAk := Lib.hid HAk
  have RR := Lib.hid RR
  have Ht := Lib.hid ht
  have Hn := Lib.hid hn
  clear ha S1 hask ht
  go_enter Tryz.func19, Tryz.ntmps19
  go_upto_region 1 with fail
  rw [← hw2, ← hxb]
  clear hw2 hxb
  go_wp2_with fail
  refine HAk.out.mono ?_
  rintro e w3 ⟨rfl, hB⟩
  have S3 := S2.out.below hB
  have R3 := Lib.hid (RR.out.trans (hB.mono RR.out.size))
  clear e0 e1 e2 e3 e4
  obtain ⟨e0, e1, e2, e3, e4⟩ := op_cells S3
  have HC := Lib.hid (LUndo_nil w3)
  clear S3 S2 HAk RR hB hn
  go_wp2_with fail
  refine HC.out.mono ?_
  rintro e w4 ⟨rfl, rfl⟩
  have R4 := R3
  clear HC
  go_wp2_with fail
  go_ret
  exact ⟨rfl, R4.out⟩
def nilE (o : Opr) : Int := if askI o = 15 then 0 else 2
theorem does_nil (o : Opr) (w : World) (hask : I64 o.ask) (ht : o.t.size ≤ 5000) (hn : I64 o.n) :
    Calls Tryz.prog 19 #[nilP, nilP, opA o] w (NilPost w (nilE o)) := by
  unfold nilE
  rcases askI_cases o with ha | ha | ha | ha | ha | ha | ha | ha | ha | ha | ha | ha | ha | ha | ha | ha | ha | ha | ha | ha
  · rw [if_neg (by rw [ha]; decide)]; exact dn_0 o w ha hask ht hn
  · rw [if_neg (by rw [ha]; decide)]; exact dn_1 o w ha hask ht hn
  · rw [if_neg (by rw [ha]; decide)]; exact dn_2 o w ha hask ht hn
  · rw [if_neg (by rw [ha]; decide)]; exact dn_3 o w ha hask ht hn
  · rw [if_neg (by rw [ha]; decide)]; exact dn_4 o w ha hask ht hn
  · rw [if_neg (by rw [ha]; decide)]; exact dn_5 o w ha hask ht hn
  · rw [if_neg (by rw [ha]; decide)]; exact dn_6 o w ha hask ht hn
  · rw [if_neg (by rw [ha]; decide)]; exact dn_7 o w ha hask ht hn
  · rw [if_neg (by rw [ha]; decide)]; exact dn_8 o w ha hask ht hn
  · rw [if_neg (by rw [ha]; decide)]; exact dn_9 o w ha hask ht hn
  · rw [if_neg (by rw [ha]; decide)]; exact dn_10 o w ha hask ht hn
  · rw [if_neg (by rw [ha]; decide)]; exact dn_11 o w ha hask ht hn
  · rw [if_neg (by rw [ha]; decide)]; exact dn_12 o w ha hask ht hn
  · rw [if_neg (by rw [ha]; decide)]; exact dn_13 o w ha hask ht hn
  · rw [if_neg (by rw [ha]; decide)]; exact dn_14 o w ha hask ht hn
  · rw [if_pos ha]; exact dn_15 o w ha hask ht hn
  · rw [if_neg (by rw [ha]; decide)]; exact dn_16 o w ha hask ht hn
  · rw [if_neg (by rw [ha]; decide)]; exact dn_17 o w ha hask ht hn
  · rw [if_neg (by rw [ha]; decide)]; exact dn_18 o w ha hask ht hn
  · rw [if_neg (by rw [ha]; decide)]; exact dn_19 o w ha hask ht hn
end Go.Proofs.YtlmjidandjemjaaGreatDoor.State
