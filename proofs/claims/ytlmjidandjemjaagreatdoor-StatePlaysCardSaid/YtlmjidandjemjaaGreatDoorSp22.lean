/- HandlesPlays, part 22 of 29: the texts StDp, joined by a program. -/
import Derived.Test.YtlmjidandjemjaaGreatDoorSp20
import Derived.Test.YtlmjidandjemjaaGreatDoorSp21
namespace Go.Proofs.YtlmjidandjemjaaGreatDoor.State
open Go.RowKit Go.Proofs.YtlmjidandjemjaaGreatDoor Go.Proofs.YtlmjidandjemjaaGreatDoor.Hp Go.Proofs.YtlmjidandjemjaaGreatDoor.Undo
set_option linter.unusedVariables false
attribute [local go_sem] Oper.semAt_some

def exB (o : Opr) : Bool := !(o.n.tmod 2 == 0)
def fxB (o : Opr) : Bool := o.n.tmod 3 == 0
/-- What is asked of a call that is done. -/
structure Fit (K : Ctx) (n : Now) (o : Opr) (w : World) (R : Hp) : Prop where
  ask : I64 o.ask
  num : I64 o.n
  k : o.k.size ≤ 5000
  t : o.t.size ≤ 5000
  L : o.L.length ≤ 1100
  p : StrsAt w o.p o.L
  N : n.N ≤ 900000
  ms : n.ms.length ≤ 1000
  nest : (n.ms.length : Int) ≤ K.nest
  o : OOk n.s.o
  T : ∀ ks, KeysOf n.s.T ks → ks.length ≤ 1000 ∧ ∀ k ∈ ks, k.size ≤ 1000000
  l : n.s.l.length ≤ 1000000
  g : Glob R
def OutR (K : Ctx) (w : World) (R : Hp) (rel : Int → Now → Prop) (e : Ending) (w' : World) : Prop := (∃ en m, e = .returned (.int .i64 en) ∧ rel en m ∧ SAt K w' m R) ∧ Ran w w'
set_option maxRecDepth 100000 in
set_option maxHeartbeats 8000000 in
theorem does_0 (K : Ctx) (n : Now) (o : Opr) (w : World) (R : Hp) (ha : askI o = 0) (hf : Fit K n o w R) (h : SAt K w n R) :
    Calls Tryz.prog 19 #[pp K.sb, pp K.lb, opA o] w (OutR K w R fun en m => (en, m) = n.setP K.most o.k o.t) := by
  have S1 := h.alloc (opO o)
  have HAk := ask_calls o (w.alloc (opO o)) hf.ask
  rw [ha] at HAk
  have RR : Ran w (w.alloc (opO o)) := Ran.new (Below.refl 0 w) _
  have hp1 := hf.p.below ((Below.refl _ w).alloc (Nat.le_refl _) (opO o))
  obtain ⟨w2, hw2⟩ : ∃ w2, w2 = w.alloc (opO o) := ⟨_, rfl⟩
  obtain ⟨xb, hxb⟩ : ∃ b, b = w.heap.size := ⟨_, rfl⟩
  rw [← hw2, ← hxb] at S1
  rw [← hw2] at HAk RR hp1
  obtain ⟨e0, e1, e2, e3, e4⟩ := op_cells S1.rest
  have S2 := Lib.hid S1
  have HAk := Lib.hid HAk
  have RR := Lib.hid RR
  have HF := Lib.hid hf
  have HP := Lib.hid hp1
  clear h ha S1 hf hp1
  go_enter Tryz.func19, Tryz.ntmps19
  go_upto_region 1 with fail
  rw [← hw2, ← hxb]
  clear hw2 hxb
  go_wp2_with fail
  refine HAk.out.mono ?_
  rintro e w3 ⟨rfl, hB⟩
  have S3 := S2.out.below hB
  have R3 := Lib.hid (Below.trans RR.out (hB.mono (Nat.zero_le _)))
  have HP3 := Lib.hid (HP.out.below hB)
  clear e0 e1 e2 e3 e4
  obtain ⟨e0, e1, e2, e3, e4⟩ := op_cells S3.rest
  have G3 : Glob (pts xb (opO o) * R) := HF.out.g.more
  have HC := Lib.hid (Set_calls K n o.k o.t w3 _ (by have := HF.out.k; unfold maxLen; omega) (by have := HF.out.t; unfold maxLen; omega) (by have := HF.out.N; omega) (by have := HF.out.ms; omega) S3)
  clear S3 S2 HAk RR hB HP G3
  go_wp2_with fail
  refine HC.out.mono ?_
  rintro e w4 ⟨⟨rfl, S4⟩, R4⟩
  have S4 := Lib.hid S4
  have R4 := Lib.hid (Below.trans R3.out R4)
  clear HC
  go_wp2_with fail
  go_ret
  exact ⟨⟨_, _, rfl, rfl, S4.out.right⟩, R4.out⟩
set_option maxRecDepth 100000 in
set_option maxHeartbeats 8000000 in
theorem does_1 (K : Ctx) (n : Now) (o : Opr) (w : World) (R : Hp) (ha : askI o = 1) (hf : Fit K n o w R) (h : SAt K w n R) :
    Calls Tryz.prog 19 #[pp K.sb, pp K.lb, opA o] w (OutR K w R fun en m => (en, m) = n.unsetP K.most o.k) := by
  have S1 := h.alloc (opO o)
  have HAk := ask_calls o (w.alloc (opO o)) hf.ask
  rw [ha] at HAk
  have RR : Ran w (w.alloc (opO o)) := Ran.new (Below.refl 0 w) _
  have hp1 := hf.p.below ((Below.refl _ w).alloc (Nat.le_refl _) (opO o))
  obtain ⟨w2, hw2⟩ : ∃ w2, w2 = w.alloc (opO o) := ⟨_, rfl⟩
  obtain ⟨xb, hxb⟩ : ∃ b, b = w.heap.size := ⟨_, rfl⟩
  rw [← hw2, ← hxb] at S1
  rw [← hw2] at HAk RR hp1
  obtain ⟨e0, e1, e2, e3, e4⟩ := op_cells S1.rest
  have S2 := Lib.hid S1
  have HAk := Lib.hid HAk
  have RR := Lib.hid RR
  have HF := Lib.hid hf
  have HP := Lib.hid hp1
  clear h ha S1 hf hp1
  go_enter Tryz.func19, Tryz.ntmps19
  go_upto_region 1 with fail
  rw [← hw2, ← hxb]
  clear hw2 hxb
  go_wp2_with fail
  refine HAk.out.mono ?_
  rintro e w3 ⟨rfl, hB⟩
  have S3 := S2.out.below hB
  have R3 := Lib.hid (Below.trans RR.out (hB.mono (Nat.zero_le _)))
  have HP3 := Lib.hid (HP.out.below hB)
  clear e0 e1 e2 e3 e4
  obtain ⟨e0, e1, e2, e3, e4⟩ := op_cells S3.rest
  have G3 : Glob (pts xb (opO o) * R) := HF.out.g.more
  have HC := Lib.hid (Unset_calls K n o.k w3 _ (by have := HF.out.k; unfold maxLen; omega) (by have := HF.out.N; omega) (by have := HF.out.ms; omega) S3)
  clear S3 S2 HAk RR hB HP G3
  go_wp2_with fail
  refine HC.out.mono ?_
  rintro e w4 ⟨⟨rfl, S4⟩, R4⟩
  have S4 := Lib.hid S4
  have R4 := Lib.hid (Below.trans R3.out R4)
  clear HC
  go_wp2_with fail
  go_ret
  exact ⟨⟨_, _, rfl, rfl, S4.out.right⟩, R4.out⟩
set_option maxRecDepth 100000 in
set_option maxHeartbeats 8000000 in
theorem does_2 (K : Ctx) (n : Now) (o : Opr) (w : World) (R : Hp) (ha : askI o = 2) (hf : Fit K n o w R) (h : SAt K w n R) :
    Calls Tryz.prog 19 #[pp K.sb, pp K.lb, opA o] w (OutR K w R fun en m => (en, m) = n.markP K.most o.k (exB o) (fxB o)) := by
  have S1 := h.alloc (opO o)
  have HAk := ask_calls o (w.alloc (opO o)) hf.ask
  rw [ha] at HAk
  have RR : Ran w (w.alloc (opO o)) := Ran.new (Below.refl 0 w) _
  have hp1 := hf.p.below ((Below.refl _ w).alloc (Nat.le_refl _) (opO o))
  obtain ⟨w2, hw2⟩ : ∃ w2, w2 = w.alloc (opO o) := ⟨_, rfl⟩
  obtain ⟨xb, hxb⟩ : ∃ b, b = w.heap.size := ⟨_, rfl⟩
  rw [← hw2, ← hxb] at S1
  rw [← hw2] at HAk RR hp1
  obtain ⟨e0, e1, e2, e3, e4⟩ := op_cells S1.rest
  have S2 := Lib.hid S1
  have HAk := Lib.hid HAk
  have RR := Lib.hid RR
  have HF := Lib.hid hf
  have HP := Lib.hid hp1
  clear h ha S1 hf hp1
  go_enter Tryz.func19, Tryz.ntmps19
  go_upto_region 1 with fail
  rw [← hw2, ← hxb]
  clear hw2 hxb
  go_wp2_with fail
  refine HAk.out.mono ?_
  rintro e w3 ⟨rfl, hB⟩
  have S3 := S2.out.below hB
  have R3 := Lib.hid (Below.trans RR.out (hB.mono (Nat.zero_le _)))
  have HP3 := Lib.hid (HP.out.below hB)
  clear e0 e1 e2 e3 e4
  obtain ⟨e0, e1, e2, e3, e4⟩ := op_cells S3.rest
  have G3 : Glob (pts xb (opO o) * R) := HF.out.g.more
  have hr2 : -2 < o.n.tmod 2 ∧ o.n.tmod 2 < 2 := by
    have h1 := Int.tmod_lt_of_pos o.n (show (0 : Int) < 2 by decide)
    have h2 := Int.tmod_lt_of_pos (-o.n) (show (0 : Int) < 2 by decide)
    rw [Int.neg_tmod] at h2; omega
  have hr3 : -3 < o.n.tmod 3 ∧ o.n.tmod 3 < 3 := by
    have h1 := Int.tmod_lt_of_pos o.n (show (0 : Int) < 3 by decide)
    have h2 := Int.tmod_lt_of_pos (-o.n) (show (0 : Int) < 3 by decide)
    rw [Int.neg_tmod] at h2; omega
  have wr2 : IntKind.i64.wrap (o.n.tmod 2) = o.n.tmod 2 := IntWalk.i64_in _ (by omega)
  have wr3 : IntKind.i64.wrap (o.n.tmod 3) = o.n.tmod 3 := IntWalk.i64_in _ (by omega)
  have HC := Lib.hid (Mark_calls K n o.k (exB o) (fxB o) w3 _ (by have := HF.out.k; unfold maxLen; omega) (by have := HF.out.N; omega) (by have := HF.out.ms; omega) S3)
  clear S3 S2 HAk RR hB HP G3 hr2 hr3
  go_wp2_with fail
  refine HC.out.mono ?_
  rintro e w4 ⟨⟨rfl, S4⟩, R4⟩
  have S4 := Lib.hid S4
  have R4 := Lib.hid (Below.trans R3.out R4)
  clear HC
  go_wp2_with fail
  go_ret
  exact ⟨⟨_, _, rfl, rfl, S4.out.right⟩, R4.out⟩
set_option maxRecDepth 100000 in
set_option maxHeartbeats 8000000 in
theorem does_3 (K : Ctx) (n : Now) (o : Opr) (w : World) (R : Hp) (ha : askI o = 3) (hf : Fit K n o w R) (h : SAt K w n R) :
    Calls Tryz.prog 19 #[pp K.sb, pp K.lb, opA o] w (OutR K w R fun en m => (en, m) = n.setF K.most o.k ⟨6, o.t⟩) := by
  have S1 := h.alloc (opO o)
  have HAk := ask_calls o (w.alloc (opO o)) hf.ask
  rw [ha] at HAk
  have RR : Ran w (w.alloc (opO o)) := Ran.new (Below.refl 0 w) _
  have hp1 := hf.p.below ((Below.refl _ w).alloc (Nat.le_refl _) (opO o))
  obtain ⟨w2, hw2⟩ : ∃ w2, w2 = w.alloc (opO o) := ⟨_, rfl⟩
  obtain ⟨xb, hxb⟩ : ∃ b, b = w.heap.size := ⟨_, rfl⟩
  rw [← hw2, ← hxb] at S1
  rw [← hw2] at HAk RR hp1
  obtain ⟨e0, e1, e2, e3, e4⟩ := op_cells S1.rest
  have S2 := Lib.hid S1
  have HAk := Lib.hid HAk
  have RR := Lib.hid RR
  have HF := Lib.hid hf
  have HP := Lib.hid hp1
  clear h ha S1 hf hp1
  go_enter Tryz.func19, Tryz.ntmps19
  go_upto_region 1 with fail
  rw [← hw2, ← hxb]
  clear hw2 hxb
  go_wp2_with fail
  refine HAk.out.mono ?_
  rintro e w3 ⟨rfl, hB⟩
  have S3 := S2.out.below hB
  have R3 := Lib.hid (Below.trans RR.out (hB.mono (Nat.zero_le _)))
  have HP3 := Lib.hid (HP.out.below hB)
  clear e0 e1 e2 e3 e4
  obtain ⟨e0, e1, e2, e3, e4⟩ := op_cells S3.rest
  have G3 : Glob (pts xb (opO o) * R) := HF.out.g.more
  have S3d := Lib.hid S3.drew
  have HNd := Lib.hid (node_calls o.t w3.drew)
  have HSF : Hid (∀ W, SAt K W n (pts xb (opO o) * R) → Calls Tryz.prog 50 #[pp K.sb, .string o.k, .agg #[.int .i64 6, .bool false, .string o.t, .bool false, .slice none 0 0, .slice none 0 0, .slice none 0 0, .slice none 0 0, .slice none 0 0]] W (Lays K W (pts xb (opO o) * R) (n.setF K.most o.k ⟨6, o.t⟩))) := Lib.hid fun W hW => SetFunc_calls K n o.k ⟨6, o.t⟩ W _ (by have := HF.out.k; unfold maxLen; omega) (by have := HF.out.N; omega) (by have := HF.out.ms; omega) hW
  clear S3 S2 HAk RR hB HP G3
  go_wp2_with fail
  refine region_plan (S := (fun w' => w'.cell? ⟨xb, 1, none⟩ = some (.string o.k) ∧ w'.cell? ⟨xb, 2, none⟩ = some (.string o.t))) [(0, true), (1, true), (2, true), (3, true), (4, true), (5, false), (6, false), (7, true)] (by kernel_rfl) (by kernel_rfl) (by kernel_rfl) ?_ ?_
  · ((try dsimp only); (first | done | (first | exact ⟨e1, e2⟩ | exact ⟨hz1, hz2⟩ | exact ⟨hy1, hy2⟩)))
  simp only [planOps, List.map_cons, List.map_nil, List.getElem?_toArray, List.getElem?_cons_zero, List.getElem?_cons_succ]
  repeat (first
    | ((refine plan_yes (v := ?_) (by rfl) ?_ ?_); rotate_left; (focus (intro w hSw; (try dsimp only at hSw); go_simp; try (with_reducible rfl))); (try simp only [Act.put, List.setIfInBounds_toArray, List.set_cons_zero, List.set_cons_succ]))
    | ((refine plan_no (by rfl) ?_); (try simp only [Act.put, List.setIfInBounds_toArray, List.set_cons_zero, List.set_cons_succ]))
    | ((refine plan_step (fun K hK => ?_)); (first | (go_simp; (first | (go_at_call 51; refine HNd.out.mono ?_; rintro e w4 ⟨rfl, hB4⟩; have S4 := S3d.out.below hB4; obtain ⟨-, hz1, hz2, -⟩ := op_cells S4.rest; have HC := Lib.hid (HSF.out w4 S4); have R4 := Lib.hid (hB4.mono (Nat.zero_le _) : Ran _ w4); clear S4 hB4) | (go_at_call 50; refine HC.out.mono ?_; rintro e w5 ⟨⟨rfl, S5⟩, R5⟩; obtain ⟨-, hy1, hy2, -⟩ := op_cells S5.rest; have S5 := Lib.hid S5; have R5 := Lib.hid R5)); (try go_wp2_with fail)) | go_simp); (refine hK.out _ _ ?_ (fun hHeld => ?_)); (focus ((try dsimp only); (first | done | (first | exact ⟨e1, e2⟩ | exact ⟨hz1, hz2⟩ | exact ⟨hy1, hy2⟩)))); clear hK K; (try simp only [Act.put, List.setIfInBounds_toArray, List.set_cons_zero, List.set_cons_succ])))
  refine plan_done ?_
  go_wp2_with fail
  go_ret
  exact ⟨⟨_, _, rfl, rfl, S5.out.right⟩, Below.trans (Below.trans (Below.drew R3.out) R4.out) R5.out⟩
set_option maxRecDepth 100000 in
set_option maxHeartbeats 8000000 in
theorem does_4 (K : Ctx) (n : Now) (o : Opr) (w : World) (R : Hp) (ha : askI o = 4) (hf : Fit K n o w R) (h : SAt K w n R) :
    Calls Tryz.prog 19 #[pp K.sb, pp K.lb, opA o] w (OutR K w R fun en m => (en, m) = n.unsetF K.most o.k) := by
  have S1 := h.alloc (opO o)
  have HAk := ask_calls o (w.alloc (opO o)) hf.ask
  rw [ha] at HAk
  have RR : Ran w (w.alloc (opO o)) := Ran.new (Below.refl 0 w) _
  have hp1 := hf.p.below ((Below.refl _ w).alloc (Nat.le_refl _) (opO o))
  obtain ⟨w2, hw2⟩ : ∃ w2, w2 = w.alloc (opO o) := ⟨_, rfl⟩
  obtain ⟨xb, hxb⟩ : ∃ b, b = w.heap.size := ⟨_, rfl⟩
  rw [← hw2, ← hxb] at S1
  rw [← hw2] at HAk RR hp1
  obtain ⟨e0, e1, e2, e3, e4⟩ := op_cells S1.rest
  have S2 := Lib.hid S1
  have HAk := Lib.hid HAk
  have RR := Lib.hid RR
  have HF := Lib.hid hf
  have HP := Lib.hid hp1
  clear h ha S1 hf hp1
  go_enter Tryz.func19, Tryz.ntmps19
  go_upto_region 1 with fail
  rw [← hw2, ← hxb]
  clear hw2 hxb
  go_wp2_with fail
  refine HAk.out.mono ?_
  rintro e w3 ⟨rfl, hB⟩
  have S3 := S2.out.below hB
  have R3 := Lib.hid (Below.trans RR.out (hB.mono (Nat.zero_le _)))
  have HP3 := Lib.hid (HP.out.below hB)
  clear e0 e1 e2 e3 e4
  obtain ⟨e0, e1, e2, e3, e4⟩ := op_cells S3.rest
  have G3 : Glob (pts xb (opO o) * R) := HF.out.g.more
  have HC := Lib.hid (UnsetFunc_calls K n o.k w3 _ (by have := HF.out.k; unfold maxLen; omega) (by have := HF.out.N; omega) (by have := HF.out.ms; omega) S3)
  clear S3 S2 HAk RR hB HP G3
  go_wp2_with fail
  refine HC.out.mono ?_
  rintro e w4 ⟨⟨rfl, S4⟩, R4⟩
  have S4 := Lib.hid S4
  have R4 := Lib.hid (Below.trans R3.out R4)
  clear HC
  go_wp2_with fail
  go_ret
  exact ⟨⟨_, _, rfl, rfl, S4.out.right⟩, R4.out⟩
set_option maxRecDepth 100000 in
set_option maxHeartbeats 8000000 in
theorem does_5 (K : Ctx) (n : Now) (o : Opr) (w : World) (R : Hp) (ha : askI o = 5) (hf : Fit K n o w R) (h : SAt K w n R) :
    Calls Tryz.prog 19 #[pp K.sb, pp K.lb, opA o] w (OutR K w R fun en m => (en, m) = n.setA K.most o.k o.t) := by
  have S1 := h.alloc (opO o)
  have HAk := ask_calls o (w.alloc (opO o)) hf.ask
  rw [ha] at HAk
  have RR : Ran w (w.alloc (opO o)) := Ran.new (Below.refl 0 w) _
  have hp1 := hf.p.below ((Below.refl _ w).alloc (Nat.le_refl _) (opO o))
  obtain ⟨w2, hw2⟩ : ∃ w2, w2 = w.alloc (opO o) := ⟨_, rfl⟩
  obtain ⟨xb, hxb⟩ : ∃ b, b = w.heap.size := ⟨_, rfl⟩
  rw [← hw2, ← hxb] at S1
  rw [← hw2] at HAk RR hp1
  obtain ⟨e0, e1, e2, e3, e4⟩ := op_cells S1.rest
  have S2 := Lib.hid S1
  have HAk := Lib.hid HAk
  have RR := Lib.hid RR
  have HF := Lib.hid hf
  have HP := Lib.hid hp1
  clear h ha S1 hf hp1
  go_enter Tryz.func19, Tryz.ntmps19
  go_upto_region 1 with fail
  rw [← hw2, ← hxb]
  clear hw2 hxb
  go_wp2_with fail
  refine HAk.out.mono ?_
  rintro e w3 ⟨rfl, hB⟩
  have S3 := S2.out.below hB
  have R3 := Lib.hid (Below.trans RR.out (hB.mono (Nat.zero_le _)))
  have HP3 := Lib.hid (HP.out.below hB)
  clear e0 e1 e2 e3 e4
  obtain ⟨e0, e1, e2, e3, e4⟩ := op_cells S3.rest
  have G3 : Glob (pts xb (opO o) * R) := HF.out.g.more
  have HC := Lib.hid (SetAlias_calls K n o.k o.t (by have := HF.out.t; unfold maxLen; omega) w3 _ (by have := HF.out.k; unfold maxLen; omega) (by have := HF.out.N; omega) (by have := HF.out.ms; omega) S3)
  clear S3 S2 HAk RR hB HP G3
  go_wp2_with fail
  refine HC.out.mono ?_
  rintro e w4 ⟨⟨rfl, S4⟩, R4⟩
  have S4 := Lib.hid S4
  have R4 := Lib.hid (Below.trans R3.out R4)
  clear HC
  go_wp2_with fail
  go_ret
  exact ⟨⟨_, _, rfl, rfl, S4.out.right⟩, R4.out⟩
set_option maxRecDepth 100000 in
set_option maxHeartbeats 8000000 in
theorem does_6 (K : Ctx) (n : Now) (o : Opr) (w : World) (R : Hp) (ha : askI o = 6) (hf : Fit K n o w R) (h : SAt K w n R) :
    Calls Tryz.prog 19 #[pp K.sb, pp K.lb, opA o] w (OutR K w R fun en m => (en, m) = n.unA K.most o.k) := by
  have S1 := h.alloc (opO o)
  have HAk := ask_calls o (w.alloc (opO o)) hf.ask
  rw [ha] at HAk
  have RR : Ran w (w.alloc (opO o)) := Ran.new (Below.refl 0 w) _
  have hp1 := hf.p.below ((Below.refl _ w).alloc (Nat.le_refl _) (opO o))
  obtain ⟨w2, hw2⟩ : ∃ w2, w2 = w.alloc (opO o) := ⟨_, rfl⟩
  obtain ⟨xb, hxb⟩ : ∃ b, b = w.heap.size := ⟨_, rfl⟩
  rw [← hw2, ← hxb] at S1
  rw [← hw2] at HAk RR hp1
  obtain ⟨e0, e1, e2, e3, e4⟩ := op_cells S1.rest
  have S2 := Lib.hid S1
  have HAk := Lib.hid HAk
  have RR := Lib.hid RR
  have HF := Lib.hid hf
  have HP := Lib.hid hp1
  clear h ha S1 hf hp1
  go_enter Tryz.func19, Tryz.ntmps19
  go_upto_region 1 with fail
  rw [← hw2, ← hxb]
  clear hw2 hxb
  go_wp2_with fail
  refine HAk.out.mono ?_
  rintro e w3 ⟨rfl, hB⟩
  have S3 := S2.out.below hB
  have R3 := Lib.hid (Below.trans RR.out (hB.mono (Nat.zero_le _)))
  have HP3 := Lib.hid (HP.out.below hB)
  clear e0 e1 e2 e3 e4
  obtain ⟨e0, e1, e2, e3, e4⟩ := op_cells S3.rest
  have G3 : Glob (pts xb (opO o) * R) := HF.out.g.more
  have HC := Lib.hid (Unalias_calls K n o.k w3 _ (by have := HF.out.k; unfold maxLen; omega) (by have := HF.out.N; omega) (by have := HF.out.ms; omega) S3)
  clear S3 S2 HAk RR hB HP G3
  go_wp2_with fail
  refine HC.out.mono ?_
  rintro e w4 ⟨⟨rfl, S4⟩, R4⟩
  have S4 := Lib.hid S4
  have R4 := Lib.hid (Below.trans R3.out R4)
  clear HC
  go_wp2_with fail
  go_ret
  exact ⟨⟨_, _, rfl, rfl, S4.out.right⟩, R4.out⟩
set_option maxRecDepth 100000 in
set_option maxHeartbeats 8000000 in
theorem does_7 (K : Ctx) (n : Now) (o : Opr) (w : World) (R : Hp) (ha : askI o = 7) (hf : Fit K n o w R) (h : SAt K w n R) :
    Calls Tryz.prog 19 #[pp K.sb, pp K.lb, opA o] w (OutR K w R fun en m => (en, m) = n.setT K.most o.k o.t) := by
  have S1 := h.alloc (opO o)
  have HAk := ask_calls o (w.alloc (opO o)) hf.ask
  rw [ha] at HAk
  have RR : Ran w (w.alloc (opO o)) := Ran.new (Below.refl 0 w) _
  have hp1 := hf.p.below ((Below.refl _ w).alloc (Nat.le_refl _) (opO o))
  obtain ⟨w2, hw2⟩ : ∃ w2, w2 = w.alloc (opO o) := ⟨_, rfl⟩
  obtain ⟨xb, hxb⟩ : ∃ b, b = w.heap.size := ⟨_, rfl⟩
  rw [← hw2, ← hxb] at S1
  rw [← hw2] at HAk RR hp1
  obtain ⟨e0, e1, e2, e3, e4⟩ := op_cells S1.rest
  have S2 := Lib.hid S1
  have HAk := Lib.hid HAk
  have RR := Lib.hid RR
  have HF := Lib.hid hf
  have HP := Lib.hid hp1
  clear h ha S1 hf hp1
  go_enter Tryz.func19, Tryz.ntmps19
  go_upto_region 1 with fail
  rw [← hw2, ← hxb]
  clear hw2 hxb
  go_wp2_with fail
  refine HAk.out.mono ?_
  rintro e w3 ⟨rfl, hB⟩
  have S3 := S2.out.below hB
  have R3 := Lib.hid (Below.trans RR.out (hB.mono (Nat.zero_le _)))
  have HP3 := Lib.hid (HP.out.below hB)
  clear e0 e1 e2 e3 e4
  obtain ⟨e0, e1, e2, e3, e4⟩ := op_cells S3.rest
  have G3 : Glob (pts xb (opO o) * R) := HF.out.g.more
  have HC := Lib.hid (SetTrap_calls K n o.k o.t (by have := HF.out.t; unfold maxLen; omega) w3 _ (by have := HF.out.k; unfold maxLen; omega) (by have := HF.out.N; omega) (by have := HF.out.ms; omega) S3)
  clear S3 S2 HAk RR hB HP G3
  go_wp2_with fail
  refine HC.out.mono ?_
  rintro e w4 ⟨⟨rfl, S4⟩, R4⟩
  have S4 := Lib.hid S4
  have R4 := Lib.hid (Below.trans R3.out R4)
  clear HC
  go_wp2_with fail
  go_ret
  exact ⟨⟨_, _, rfl, rfl, S4.out.right⟩, R4.out⟩
set_option maxRecDepth 100000 in
set_option maxHeartbeats 8000000 in
theorem does_8 (K : Ctx) (n : Now) (o : Opr) (w : World) (R : Hp) (ha : askI o = 8) (hf : Fit K n o w R) (h : SAt K w n R) :
    Calls Tryz.prog 19 #[pp K.sb, pp K.lb, opA o] w (OutR K w R fun en m => (en, m) = n.unT K.most o.k) := by
  have S1 := h.alloc (opO o)
  have HAk := ask_calls o (w.alloc (opO o)) hf.ask
  rw [ha] at HAk
  have RR : Ran w (w.alloc (opO o)) := Ran.new (Below.refl 0 w) _
  have hp1 := hf.p.below ((Below.refl _ w).alloc (Nat.le_refl _) (opO o))
  obtain ⟨w2, hw2⟩ : ∃ w2, w2 = w.alloc (opO o) := ⟨_, rfl⟩
  obtain ⟨xb, hxb⟩ : ∃ b, b = w.heap.size := ⟨_, rfl⟩
  rw [← hw2, ← hxb] at S1
  rw [← hw2] at HAk RR hp1
  obtain ⟨e0, e1, e2, e3, e4⟩ := op_cells S1.rest
  have S2 := Lib.hid S1
  have HAk := Lib.hid HAk
  have RR := Lib.hid RR
  have HF := Lib.hid hf
  have HP := Lib.hid hp1
  clear h ha S1 hf hp1
  go_enter Tryz.func19, Tryz.ntmps19
  go_upto_region 1 with fail
  rw [← hw2, ← hxb]
  clear hw2 hxb
  go_wp2_with fail
  refine HAk.out.mono ?_
  rintro e w3 ⟨rfl, hB⟩
  have S3 := S2.out.below hB
  have R3 := Lib.hid (Below.trans RR.out (hB.mono (Nat.zero_le _)))
  have HP3 := Lib.hid (HP.out.below hB)
  clear e0 e1 e2 e3 e4
  obtain ⟨e0, e1, e2, e3, e4⟩ := op_cells S3.rest
  have G3 : Glob (pts xb (opO o) * R) := HF.out.g.more
  have HC := Lib.hid (Untrap_calls K n o.k w3 _ (by have := HF.out.k; unfold maxLen; omega) (by have := HF.out.N; omega) (by have := HF.out.ms; omega) S3)
  clear S3 S2 HAk RR hB HP G3
  go_wp2_with fail
  refine HC.out.mono ?_
  rintro e w4 ⟨⟨rfl, S4⟩, R4⟩
  have S4 := Lib.hid S4
  have R4 := Lib.hid (Below.trans R3.out R4)
  clear HC
  go_wp2_with fail
  go_ret
  exact ⟨⟨_, _, rfl, rfl, S4.out.right⟩, R4.out⟩
set_option maxRecDepth 100000 in
set_option maxHeartbeats 8000000 in
theorem does_9 (K : Ctx) (n : Now) (o : Opr) (w : World) (R : Hp) (ha : askI o = 9) (hf : Fit K n o w R) (h : SAt K w n R) :
    Calls Tryz.prog 19 #[pp K.sb, pp K.lb, opA o] w (OutR K w R fun en m => ∃ ks, KeysOf n.s.T ks ∧ (en, m) = Now.enterL K.most ks n) := by
  have S1 := h.alloc (opO o)
  have HAk := ask_calls o (w.alloc (opO o)) hf.ask
  rw [ha] at HAk
  have RR : Ran w (w.alloc (opO o)) := Ran.new (Below.refl 0 w) _
  have hp1 := hf.p.below ((Below.refl _ w).alloc (Nat.le_refl _) (opO o))
  obtain ⟨w2, hw2⟩ : ∃ w2, w2 = w.alloc (opO o) := ⟨_, rfl⟩
  obtain ⟨xb, hxb⟩ : ∃ b, b = w.heap.size := ⟨_, rfl⟩
  rw [← hw2, ← hxb] at S1
  rw [← hw2] at HAk RR hp1
  obtain ⟨e0, e1, e2, e3, e4⟩ := op_cells S1.rest
  have S2 := Lib.hid S1
  have HAk := Lib.hid HAk
  have RR := Lib.hid RR
  have HF := Lib.hid hf
  have HP := Lib.hid hp1
  clear h ha S1 hf hp1
  go_enter Tryz.func19, Tryz.ntmps19
  go_upto_region 1 with fail
  rw [← hw2, ← hxb]
  clear hw2 hxb
  go_wp2_with fail
  refine HAk.out.mono ?_
  rintro e w3 ⟨rfl, hB⟩
  have S3 := S2.out.below hB
  have R3 := Lib.hid (Below.trans RR.out (hB.mono (Nat.zero_le _)))
  have HP3 := Lib.hid (HP.out.below hB)
  clear e0 e1 e2 e3 e4
  obtain ⟨e0, e1, e2, e3, e4⟩ := op_cells S3.rest
  have G3 : Glob (pts xb (opO o) * R) := HF.out.g.more
  have HC := Lib.hid (Enter_calls K n w3 _ HF.out.N (by have := HF.out.ms; omega) HF.out.T S3)
  clear S3 S2 HAk RR hB HP G3
  go_wp2_with fail
  refine HC.out.mono ?_
  rintro e w4 ⟨⟨ks, hk, rfl, S4⟩, R4⟩
  have S4 := Lib.hid S4
  have R4 := Lib.hid (Below.trans R3.out R4)
  have Hk := Lib.hid hk
  clear HC hk
  go_wp2_with fail
  go_ret
  exact ⟨⟨_, _, rfl, ⟨ks, Hk.out, rfl⟩, S4.out.right⟩, R4.out⟩
set_option maxRecDepth 100000 in
set_option maxHeartbeats 8000000 in
theorem does_10 (K : Ctx) (n : Now) (o : Opr) (w : World) (R : Hp) (ha : askI o = 10) (hf : Fit K n o w R) (h : SAt K w n R) :
    Calls Tryz.prog 19 #[pp K.sb, pp K.lb, opA o] w (OutR K w R fun en m => (en, m) = n.setO K.most (firstB o.t) (exB o)) := by
  have S1 := h.alloc (opO o)
  have HAk := ask_calls o (w.alloc (opO o)) hf.ask
  rw [ha] at HAk
  have RR : Ran w (w.alloc (opO o)) := Ran.new (Below.refl 0 w) _
  have hp1 := hf.p.below ((Below.refl _ w).alloc (Nat.le_refl _) (opO o))
  obtain ⟨w2, hw2⟩ : ∃ w2, w2 = w.alloc (opO o) := ⟨_, rfl⟩
  obtain ⟨xb, hxb⟩ : ∃ b, b = w.heap.size := ⟨_, rfl⟩
  rw [← hw2, ← hxb] at S1
  rw [← hw2] at HAk RR hp1
  obtain ⟨e0, e1, e2, e3, e4⟩ := op_cells S1.rest
  have S2 := Lib.hid S1
  have HAk := Lib.hid HAk
  have RR := Lib.hid RR
  have HF := Lib.hid hf
  have HP := Lib.hid hp1
  clear h ha S1 hf hp1
  go_enter Tryz.func19, Tryz.ntmps19
  go_upto_region 1 with fail
  rw [← hw2, ← hxb]
  clear hw2 hxb
  go_wp2_with fail
  refine HAk.out.mono ?_
  rintro e w3 ⟨rfl, hB⟩
  have S3 := S2.out.below hB
  have R3 := Lib.hid (Below.trans RR.out (hB.mono (Nat.zero_le _)))
  have HP3 := Lib.hid (HP.out.below hB)
  clear e0 e1 e2 e3 e4
  obtain ⟨e0, e1, e2, e3, e4⟩ := op_cells S3.rest
  have G3 : Glob (pts xb (opO o) * R) := HF.out.g.more
  have hr2 : -2 < o.n.tmod 2 ∧ o.n.tmod 2 < 2 := by
    have h1 := Int.tmod_lt_of_pos o.n (show (0 : Int) < 2 by decide)
    have h2 := Int.tmod_lt_of_pos (-o.n) (show (0 : Int) < 2 by decide)
    rw [Int.neg_tmod] at h2; omega
  have wr2 : IntKind.i64.wrap (o.n.tmod 2) = o.n.tmod 2 := IntWalk.i64_in _ (by omega)
  have HFi := Lib.hid (first_calls o.t w3.drew (by have := HF.out.t; unfold maxLen; omega))
  have HC := Lib.hid (SetOption_calls K n (firstB o.t) (exB o) w3.drew _ HF.out.o G3 (by have := HF.out.N; omega) (by have := HF.out.ms; omega) S3.drew)
  clear S3 S2 HAk RR hB HP G3 hr2
  go_wp2_with fail
  refine region_plan (S := (fun w' => w'.cell? ⟨xb, 2, none⟩ = some (.string o.t) ∧ w'.cell? ⟨xb, 3, none⟩ = some (.int .i64 o.n))) [(0, true), (1, true), (2, true), (4, true), (5, true), (6, true), (7, true), (3, false), (8, false), (9, true)] (by kernel_rfl) (by kernel_rfl) (by kernel_rfl) ?_ ?_
  · ((try dsimp only); (first | done | (first | exact ⟨e2, e3⟩ | exact ⟨hy2, hy3⟩)))
  simp only [planOps, List.map_cons, List.map_nil, List.getElem?_toArray, List.getElem?_cons_zero, List.getElem?_cons_succ]
  repeat (first
    | ((refine plan_yes (v := ?_) (by rfl) ?_ ?_); rotate_left; (focus (intro w hSw; (try dsimp only at hSw); go_simp; try (with_reducible rfl))); (try simp only [Act.put, List.setIfInBounds_toArray, List.set_cons_zero, List.set_cons_succ]))
    | ((refine plan_no (by rfl) ?_); (try simp only [Act.put, List.setIfInBounds_toArray, List.set_cons_zero, List.set_cons_succ]))
    | ((refine plan_step (fun K hK => ?_)); (first | (go_simp; (first | (go_at_call 56; refine HFi.out.mono ?_; rintro e w4 ⟨rfl, rfl⟩) | (go_at_call 34; refine HC.out.mono ?_; rintro e w5 ⟨⟨rfl, S5⟩, R5⟩; obtain ⟨-, -, hy2, hy3, -⟩ := op_cells S5.rest; have S5 := Lib.hid S5; have R5 := Lib.hid R5)); (try go_wp2_with fail)) | go_simp); (refine hK.out _ _ ?_ (fun hHeld => ?_)); (focus ((try dsimp only); (first | done | (first | exact ⟨e2, e3⟩ | exact ⟨hy2, hy3⟩)))); clear hK K; (try simp only [Act.put, List.setIfInBounds_toArray, List.set_cons_zero, List.set_cons_succ])))
  refine plan_done ?_
  go_wp2_with fail
  go_ret
  exact ⟨⟨_, _, rfl, rfl, S5.out.right⟩, Below.trans (Below.drew R3.out) R5.out⟩
set_option maxRecDepth 100000 in
set_option maxHeartbeats 8000000 in
theorem does_11 (K : Ctx) (n : Now) (o : Opr) (w : World) (R : Hp) (ha : askI o = 11) (hf : Fit K n o w R) (h : SAt K w n R) :
    Calls Tryz.prog 19 #[pp K.sb, pp K.lb, opA o] w (OutR K w R fun en m => (en, m) = n.setO K.most (firstB o.t) (exB o)) := by
  have S1 := h.alloc (opO o)
  have HAk := ask_calls o (w.alloc (opO o)) hf.ask
  rw [ha] at HAk
  have RR : Ran w (w.alloc (opO o)) := Ran.new (Below.refl 0 w) _
  have hp1 := hf.p.below ((Below.refl _ w).alloc (Nat.le_refl _) (opO o))
  obtain ⟨w2, hw2⟩ : ∃ w2, w2 = w.alloc (opO o) := ⟨_, rfl⟩
  obtain ⟨xb, hxb⟩ : ∃ b, b = w.heap.size := ⟨_, rfl⟩
  rw [← hw2, ← hxb] at S1
  rw [← hw2] at HAk RR hp1
  obtain ⟨e0, e1, e2, e3, e4⟩ := op_cells S1.rest
  have S2 := Lib.hid S1
  have HAk := Lib.hid HAk
  have RR := Lib.hid RR
  have HF := Lib.hid hf
  have HP := Lib.hid hp1
  clear h ha S1 hf hp1
  go_enter Tryz.func19, Tryz.ntmps19
  go_upto_region 1 with fail
  rw [← hw2, ← hxb]
  clear hw2 hxb
  go_wp2_with fail
  refine HAk.out.mono ?_
  rintro e w3 ⟨rfl, hB⟩
  have S3 := S2.out.below hB
  have R3 := Lib.hid (Below.trans RR.out (hB.mono (Nat.zero_le _)))
  have HP3 := Lib.hid (HP.out.below hB)
  clear e0 e1 e2 e3 e4
  obtain ⟨e0, e1, e2, e3, e4⟩ := op_cells S3.rest
  have G3 : Glob (pts xb (opO o) * R) := HF.out.g.more
  have hr2 : -2 < o.n.tmod 2 ∧ o.n.tmod 2 < 2 := by
    have h1 := Int.tmod_lt_of_pos o.n (show (0 : Int) < 2 by decide)
    have h2 := Int.tmod_lt_of_pos (-o.n) (show (0 : Int) < 2 by decide)
    rw [Int.neg_tmod] at h2; omega
  have wr2 : IntKind.i64.wrap (o.n.tmod 2) = o.n.tmod 2 := IntWalk.i64_in _ (by omega)
  have HFi := Lib.hid (first_calls o.t w3.drew (by have := HF.out.t; unfold maxLen; omega))
  have HC := Lib.hid (SetOption_calls K n (firstB o.t) (exB o) w3.drew _ HF.out.o G3 (by have := HF.out.N; omega) (by have := HF.out.ms; omega) S3.drew)
  clear S3 S2 HAk RR hB HP G3 hr2
  go_wp2_with fail
  refine region_plan (S := (fun w' => w'.cell? ⟨xb, 2, none⟩ = some (.string o.t) ∧ w'.cell? ⟨xb, 3, none⟩ = some (.int .i64 o.n))) [(0, true), (1, true), (2, true), (4, true), (5, true), (6, true), (7, true), (3, false), (8, false), (9, true)] (by kernel_rfl) (by kernel_rfl) (by kernel_rfl) ?_ ?_
  · ((try dsimp only); (first | done | (first | exact ⟨e2, e3⟩ | exact ⟨hy2, hy3⟩)))
  simp only [planOps, List.map_cons, List.map_nil, List.getElem?_toArray, List.getElem?_cons_zero, List.getElem?_cons_succ]
  repeat (first
    | ((refine plan_yes (v := ?_) (by rfl) ?_ ?_); rotate_left; (focus (intro w hSw; (try dsimp only at hSw); go_simp; try (with_reducible rfl))); (try simp only [Act.put, List.setIfInBounds_toArray, List.set_cons_zero, List.set_cons_succ]))
    | ((refine plan_no (by rfl) ?_); (try simp only [Act.put, List.setIfInBounds_toArray, List.set_cons_zero, List.set_cons_succ]))
    | ((refine plan_step (fun K hK => ?_)); (first | (go_simp; (first | (go_at_call 56; refine HFi.out.mono ?_; rintro e w4 ⟨rfl, rfl⟩) | (go_at_call 34; refine HC.out.mono ?_; rintro e w5 ⟨⟨rfl, S5⟩, R5⟩; obtain ⟨-, -, hy2, hy3, -⟩ := op_cells S5.rest; have S5 := Lib.hid S5; have R5 := Lib.hid R5)); (try go_wp2_with fail)) | go_simp); (refine hK.out _ _ ?_ (fun hHeld => ?_)); (focus ((try dsimp only); (first | done | (first | exact ⟨e2, e3⟩ | exact ⟨hy2, hy3⟩)))); clear hK K; (try simp only [Act.put, List.setIfInBounds_toArray, List.set_cons_zero, List.set_cons_succ])))
  refine plan_done ?_
  go_wp2_with fail
  go_ret
  exact ⟨⟨_, _, rfl, rfl, S5.out.right⟩, Below.trans (Below.drew R3.out) R5.out⟩
set_option maxRecDepth 100000 in
set_option maxHeartbeats 8000000 in
theorem does_12 (K : Ctx) (n : Now) (o : Opr) (w : World) (R : Hp) (ha : askI o = 12) (hf : Fit K n o w R) (h : SAt K w n R) :
    Calls Tryz.prog 19 #[pp K.sb, pp K.lb, opA o] w (OutR K w R fun en m => (en, m) = n.setG K.most o.L) := by
  have S1 := h.alloc (opO o)
  have HAk := ask_calls o (w.alloc (opO o)) hf.ask
  rw [ha] at HAk
  have RR : Ran w (w.alloc (opO o)) := Ran.new (Below.refl 0 w) _
  have hp1 := hf.p.below ((Below.refl _ w).alloc (Nat.le_refl _) (opO o))
  obtain ⟨w2, hw2⟩ : ∃ w2, w2 = w.alloc (opO o) := ⟨_, rfl⟩
  obtain ⟨xb, hxb⟩ : ∃ b, b = w.heap.size := ⟨_, rfl⟩
  rw [← hw2, ← hxb] at S1
  rw [← hw2] at HAk RR hp1
  obtain ⟨e0, e1, e2, e3, e4⟩ := op_cells S1.rest
  have S2 := Lib.hid S1
  have HAk := Lib.hid HAk
  have RR := Lib.hid RR
  have HF := Lib.hid hf
  have HP := Lib.hid hp1
  clear h ha S1 hf hp1
  go_enter Tryz.func19, Tryz.ntmps19
  go_upto_region 1 with fail
  rw [← hw2, ← hxb]
  clear hw2 hxb
  go_wp2_with fail
  refine HAk.out.mono ?_
  rintro e w3 ⟨rfl, hB⟩
  have S3 := S2.out.below hB
  have R3 := Lib.hid (Below.trans RR.out (hB.mono (Nat.zero_le _)))
  have HP3 := Lib.hid (HP.out.below hB)
  clear e0 e1 e2 e3 e4
  obtain ⟨e0, e1, e2, e3, e4⟩ := op_cells S3.rest
  have G3 : Glob (pts xb (opO o) * R) := HF.out.g.more
  have HC := Lib.hid (SetArgs_calls K n o.L o.p o.c w3 _ (by have := HF.out.L; omega) HP3.out (by have := HF.out.N; omega) (by have := HF.out.ms; omega) S3)
  clear S3 S2 HAk RR hB HP G3
  go_wp2_with fail
  refine HC.out.mono ?_
  rintro e w4 ⟨⟨rfl, S4⟩, R4⟩
  have S4 := Lib.hid S4
  have R4 := Lib.hid (Below.trans R3.out R4)
  clear HC
  go_wp2_with fail
  go_ret
  exact ⟨⟨_, _, rfl, rfl, S4.out.right⟩, R4.out⟩
set_option maxRecDepth 100000 in
set_option maxHeartbeats 8000000 in
theorem does_13 (K : Ctx) (n : Now) (o : Opr) (w : World) (R : Hp) (ha : askI o = 13) (hf : Fit K n o w R) (h : SAt K w n R) :
    Calls Tryz.prog 19 #[pp K.sb, pp K.lb, opA o] w (OutR K w R fun en m => (en, m) = n.shiftP K.most o.n) := by
  have S1 := h.alloc (opO o)
  have HAk := ask_calls o (w.alloc (opO o)) hf.ask
  rw [ha] at HAk
  have RR : Ran w (w.alloc (opO o)) := Ran.new (Below.refl 0 w) _
  have hp1 := hf.p.below ((Below.refl _ w).alloc (Nat.le_refl _) (opO o))
  obtain ⟨w2, hw2⟩ : ∃ w2, w2 = w.alloc (opO o) := ⟨_, rfl⟩
  obtain ⟨xb, hxb⟩ : ∃ b, b = w.heap.size := ⟨_, rfl⟩
  rw [← hw2, ← hxb] at S1
  rw [← hw2] at HAk RR hp1
  obtain ⟨e0, e1, e2, e3, e4⟩ := op_cells S1.rest
  have S2 := Lib.hid S1
  have HAk := Lib.hid HAk
  have RR := Lib.hid RR
  have HF := Lib.hid hf
  have HP := Lib.hid hp1
  clear h ha S1 hf hp1
  go_enter Tryz.func19, Tryz.ntmps19
  go_upto_region 1 with fail
  rw [← hw2, ← hxb]
  clear hw2 hxb
  go_wp2_with fail
  refine HAk.out.mono ?_
  rintro e w3 ⟨rfl, hB⟩
  have S3 := S2.out.below hB
  have R3 := Lib.hid (Below.trans RR.out (hB.mono (Nat.zero_le _)))
  have HP3 := Lib.hid (HP.out.below hB)
  clear e0 e1 e2 e3 e4
  obtain ⟨e0, e1, e2, e3, e4⟩ := op_cells S3.rest
  have G3 : Glob (pts xb (opO o) * R) := HF.out.g.more
  have HC := Lib.hid (Shift_calls K n o.n w3 _ HF.out.l (by have := HF.out.N; omega) (by have := HF.out.ms; omega) S3)
  clear S3 S2 HAk RR hB HP G3
  go_wp2_with fail
  refine HC.out.mono ?_
  rintro e w4 ⟨⟨rfl, S4⟩, R4⟩
  have S4 := Lib.hid S4
  have R4 := Lib.hid (Below.trans R3.out R4)
  clear HC
  go_wp2_with fail
  go_ret
  exact ⟨⟨_, _, rfl, rfl, S4.out.right⟩, R4.out⟩
set_option maxRecDepth 100000 in
set_option maxHeartbeats 8000000 in
theorem does_14 (K : Ctx) (n : Now) (o : Opr) (w : World) (R : Hp) (ha : askI o = 14) (hf : Fit K n o w R) (h : SAt K w n R) :
    Calls Tryz.prog 19 #[pp K.sb, pp K.lb, opA o] w (OutR K w R fun en m => (en, m) = n.setC K.most o.n (o.L.length : Int)) := by
  have S1 := h.alloc (opO o)
  have HAk := ask_calls o (w.alloc (opO o)) hf.ask
  rw [ha] at HAk
  have RR : Ran w (w.alloc (opO o)) := Ran.new (Below.refl 0 w) _
  have hp1 := hf.p.below ((Below.refl _ w).alloc (Nat.le_refl _) (opO o))
  obtain ⟨w2, hw2⟩ : ∃ w2, w2 = w.alloc (opO o) := ⟨_, rfl⟩
  obtain ⟨xb, hxb⟩ : ∃ b, b = w.heap.size := ⟨_, rfl⟩
  rw [← hw2, ← hxb] at S1
  rw [← hw2] at HAk RR hp1
  obtain ⟨e0, e1, e2, e3, e4⟩ := op_cells S1.rest
  have S2 := Lib.hid S1
  have HAk := Lib.hid HAk
  have RR := Lib.hid RR
  have HF := Lib.hid hf
  have HP := Lib.hid hp1
  clear h ha S1 hf hp1
  go_enter Tryz.func19, Tryz.ntmps19
  go_upto_region 1 with fail
  rw [← hw2, ← hxb]
  clear hw2 hxb
  go_wp2_with fail
  refine HAk.out.mono ?_
  rintro e w3 ⟨rfl, hB⟩
  have S3 := S2.out.below hB
  have R3 := Lib.hid (Below.trans RR.out (hB.mono (Nat.zero_le _)))
  have HP3 := Lib.hid (HP.out.below hB)
  clear e0 e1 e2 e3 e4
  obtain ⟨e0, e1, e2, e3, e4⟩ := op_cells S3.rest
  have G3 : Glob (pts xb (opO o) * R) := HF.out.g.more
  have HC := Lib.hid (SetCursor_calls K n o.n (o.L.length : Int) w3 _ (by have := HF.out.N; omega) (by have := HF.out.ms; omega) S3)
  clear S3 S2 HAk RR hB HP G3
  go_wp2_with fail
  refine HC.out.mono ?_
  rintro e w4 ⟨⟨rfl, S4⟩, R4⟩
  have S4 := Lib.hid S4
  have R4 := Lib.hid (Below.trans R3.out R4)
  clear HC
  go_wp2_with fail
  go_ret
  exact ⟨⟨_, _, rfl, rfl, S4.out.right⟩, R4.out⟩
set_option maxRecDepth 100000 in
set_option maxHeartbeats 8000000 in
theorem does_15 (K : Ctx) (n : Now) (o : Opr) (w : World) (R : Hp) (ha : askI o = 15) (hf : Fit K n o w R) (h : SAt K w n R) :
    Calls Tryz.prog 19 #[pp K.sb, pp K.lb, opA o] w (OutR K w R fun en m => (en, m) = n.setQ o.n) := by
  have S1 := h.alloc (opO o)
  have HAk := ask_calls o (w.alloc (opO o)) hf.ask
  rw [ha] at HAk
  have RR : Ran w (w.alloc (opO o)) := Ran.new (Below.refl 0 w) _
  have hp1 := hf.p.below ((Below.refl _ w).alloc (Nat.le_refl _) (opO o))
  obtain ⟨w2, hw2⟩ : ∃ w2, w2 = w.alloc (opO o) := ⟨_, rfl⟩
  obtain ⟨xb, hxb⟩ : ∃ b, b = w.heap.size := ⟨_, rfl⟩
  rw [← hw2, ← hxb] at S1
  rw [← hw2] at HAk RR hp1
  obtain ⟨e0, e1, e2, e3, e4⟩ := op_cells S1.rest
  have S2 := Lib.hid S1
  have HAk := Lib.hid HAk
  have RR := Lib.hid RR
  have HF := Lib.hid hf
  have HP := Lib.hid hp1
  clear h ha S1 hf hp1
  go_enter Tryz.func19, Tryz.ntmps19
  go_upto_region 1 with fail
  rw [← hw2, ← hxb]
  clear hw2 hxb
  go_wp2_with fail
  refine HAk.out.mono ?_
  rintro e w3 ⟨rfl, hB⟩
  have S3 := S2.out.below hB
  have R3 := Lib.hid (Below.trans RR.out (hB.mono (Nat.zero_le _)))
  have HP3 := Lib.hid (HP.out.below hB)
  clear e0 e1 e2 e3 e4
  obtain ⟨e0, e1, e2, e3, e4⟩ := op_cells S3.rest
  have G3 : Glob (pts xb (opO o) * R) := HF.out.g.more
  have HC := Lib.hid (SetStatus_calls K n o.n w3 _ S3)
  clear S3 S2 HAk RR hB HP G3
  go_wp2_with fail
  refine HC.out.mono ?_
  rintro e w4 ⟨⟨rfl, S4⟩, R4⟩
  have S4 := Lib.hid S4
  have R4 := Lib.hid (Below.trans R3.out R4)
  clear HC
  go_wp2_with fail
  go_ret
  exact ⟨⟨_, _, rfl, rfl, S4.out.right⟩, R4.out⟩
set_option maxRecDepth 100000 in
set_option maxHeartbeats 8000000 in
theorem does_16 (K : Ctx) (n : Now) (o : Opr) (w : World) (R : Hp) (ha : askI o = 16) (hf : Fit K n o w R) (h : SAt K w n R) :
    Calls Tryz.prog 19 #[pp K.sb, pp K.lb, opA o] w (OutR K w R fun en m => (en, m) = n.markM K.nest) := by
  have S1 := h.alloc (opO o)
  have HAk := ask_calls o (w.alloc (opO o)) hf.ask
  rw [ha] at HAk
  have RR : Ran w (w.alloc (opO o)) := Ran.new (Below.refl 0 w) _
  have hp1 := hf.p.below ((Below.refl _ w).alloc (Nat.le_refl _) (opO o))
  obtain ⟨w2, hw2⟩ : ∃ w2, w2 = w.alloc (opO o) := ⟨_, rfl⟩
  obtain ⟨xb, hxb⟩ : ∃ b, b = w.heap.size := ⟨_, rfl⟩
  rw [← hw2, ← hxb] at S1
  rw [← hw2] at HAk RR hp1
  obtain ⟨e0, e1, e2, e3, e4⟩ := op_cells S1.rest
  have S2 := Lib.hid S1
  have HAk := Lib.hid HAk
  have RR := Lib.hid RR
  have HF := Lib.hid hf
  have HP := Lib.hid hp1
  clear h ha S1 hf hp1
  go_enter Tryz.func19, Tryz.ntmps19
  go_upto_region 1 with fail
  rw [← hw2, ← hxb]
  clear hw2 hxb
  go_wp2_with fail
  refine HAk.out.mono ?_
  rintro e w3 ⟨rfl, hB⟩
  have S3 := S2.out.below hB
  have R3 := Lib.hid (Below.trans RR.out (hB.mono (Nat.zero_le _)))
  have HP3 := Lib.hid (HP.out.below hB)
  clear e0 e1 e2 e3 e4
  obtain ⟨e0, e1, e2, e3, e4⟩ := op_cells S3.rest
  have G3 : Glob (pts xb (opO o) * R) := HF.out.g.more
  have HC := Lib.hid (sMark K n w3 _ HF.out.nest (by have := HF.out.N; omega) (by have := HF.out.ms; omega) S3)
  clear S3 S2 HAk RR hB HP G3
  go_wp2_with fail
  refine HC.out.mono ?_
  rintro e w4 ⟨⟨v, rfl, S4⟩, R4⟩
  have S4 := Lib.hid S4
  have R4 := Lib.hid (Below.trans R3.out R4)
  clear HC
  go_wp2_with fail
  go_ret
  exact ⟨⟨_, _, rfl, rfl, S4.out.right⟩, R4.out⟩
set_option maxRecDepth 100000 in
set_option maxHeartbeats 8000000 in
theorem does_17 (K : Ctx) (n : Now) (o : Opr) (w : World) (R : Hp) (ha : askI o = 17) (hf : Fit K n o w R) (h : SAt K w n R) :
    Calls Tryz.prog 19 #[pp K.sb, pp K.lb, opA o] w (OutR K w R fun en m => (en, m) = n.markM K.nest) := by
  have S1 := h.alloc (opO o)
  have HAk := ask_calls o (w.alloc (opO o)) hf.ask
  rw [ha] at HAk
  have RR : Ran w (w.alloc (opO o)) := Ran.new (Below.refl 0 w) _
  have hp1 := hf.p.below ((Below.refl _ w).alloc (Nat.le_refl _) (opO o))
  obtain ⟨w2, hw2⟩ : ∃ w2, w2 = w.alloc (opO o) := ⟨_, rfl⟩
  obtain ⟨xb, hxb⟩ : ∃ b, b = w.heap.size := ⟨_, rfl⟩
  rw [← hw2, ← hxb] at S1
  rw [← hw2] at HAk RR hp1
  obtain ⟨e0, e1, e2, e3, e4⟩ := op_cells S1.rest
  have S2 := Lib.hid S1
  have HAk := Lib.hid HAk
  have RR := Lib.hid RR
  have HF := Lib.hid hf
  have HP := Lib.hid hp1
  clear h ha S1 hf hp1
  go_enter Tryz.func19, Tryz.ntmps19
  go_upto_region 1 with fail
  rw [← hw2, ← hxb]
  clear hw2 hxb
  go_wp2_with fail
  refine HAk.out.mono ?_
  rintro e w3 ⟨rfl, hB⟩
  have S3 := S2.out.below hB
  have R3 := Lib.hid (Below.trans RR.out (hB.mono (Nat.zero_le _)))
  have HP3 := Lib.hid (HP.out.below hB)
  clear e0 e1 e2 e3 e4
  obtain ⟨e0, e1, e2, e3, e4⟩ := op_cells S3.rest
  have G3 : Glob (pts xb (opO o) * R) := HF.out.g.more
  have HC := Lib.hid (sMark K n w3 _ HF.out.nest (by have := HF.out.N; omega) (by have := HF.out.ms; omega) S3)
  clear S3 S2 HAk RR hB HP G3
  go_wp2_with fail
  refine HC.out.mono ?_
  rintro e w4 ⟨⟨v, rfl, S4⟩, R4⟩
  have S4 := Lib.hid S4
  have R4 := Lib.hid (Below.trans R3.out R4)
  clear HC
  go_wp2_with fail
  go_ret
  exact ⟨⟨_, _, rfl, rfl, S4.out.right⟩, R4.out⟩
set_option maxRecDepth 100000 in
set_option maxHeartbeats 8000000 in
theorem does_18 (K : Ctx) (n : Now) (o : Opr) (w : World) (R : Hp) (ha : askI o = 18) (hf : Fit K n o w R) (h : SAt K w n R) :
    Calls Tryz.prog 19 #[pp K.sb, pp K.lb, opA o] w (OutR K w R fun en m => (en, m) = n.undoM) := by
  have S1 := h.alloc (opO o)
  have HAk := ask_calls o (w.alloc (opO o)) hf.ask
  rw [ha] at HAk
  have RR : Ran w (w.alloc (opO o)) := Ran.new (Below.refl 0 w) _
  have hp1 := hf.p.below ((Below.refl _ w).alloc (Nat.le_refl _) (opO o))
  obtain ⟨w2, hw2⟩ : ∃ w2, w2 = w.alloc (opO o) := ⟨_, rfl⟩
  obtain ⟨xb, hxb⟩ : ∃ b, b = w.heap.size := ⟨_, rfl⟩
  rw [← hw2, ← hxb] at S1
  rw [← hw2] at HAk RR hp1
  obtain ⟨e0, e1, e2, e3, e4⟩ := op_cells S1.rest
  have S2 := Lib.hid S1
  have HAk := Lib.hid HAk
  have RR := Lib.hid RR
  have HF := Lib.hid hf
  have HP := Lib.hid hp1
  clear h ha S1 hf hp1
  go_enter Tryz.func19, Tryz.ntmps19
  go_upto_region 1 with fail
  rw [← hw2, ← hxb]
  clear hw2 hxb
  go_wp2_with fail
  refine HAk.out.mono ?_
  rintro e w3 ⟨rfl, hB⟩
  have S3 := S2.out.below hB
  have R3 := Lib.hid (Below.trans RR.out (hB.mono (Nat.zero_le _)))
  have HP3 := Lib.hid (HP.out.below hB)
  clear e0 e1 e2 e3 e4
  obtain ⟨e0, e1, e2, e3, e4⟩ := op_cells S3.rest
  have G3 : Glob (pts xb (opO o) * R) := HF.out.g.more
  have HC := Lib.hid (sUndo K n w3 _ (by have := HF.out.N; omega) (by have := HF.out.ms; omega) S3)
  clear S3 S2 HAk RR hB HP G3
  go_wp2_with fail
  refine HC.out.mono ?_
  rintro e w4 ⟨⟨rfl, S4⟩, R4⟩
  have S4 := Lib.hid S4
  have R4 := Lib.hid (Below.trans R3.out R4)
  clear HC
  go_wp2_with fail
  go_ret
  exact ⟨⟨_, _, rfl, rfl, S4.out.right⟩, R4.out⟩
set_option maxRecDepth 100000 in
set_option maxHeartbeats 8000000 in
theorem does_19 (K : Ctx) (n : Now) (o : Opr) (w : World) (R : Hp) (ha : askI o = 19) (hf : Fit K n o w R) (h : SAt K w n R) :
    Calls Tryz.prog 19 #[pp K.sb, pp K.lb, opA o] w (OutR K w R fun en m => (en, m) = n.undoM) := by
  have S1 := h.alloc (opO o)
  have HAk := ask_calls o (w.alloc (opO o)) hf.ask
  rw [ha] at HAk
  have RR : Ran w (w.alloc (opO o)) := Ran.new (Below.refl 0 w) _
  have hp1 := hf.p.below ((Below.refl _ w).alloc (Nat.le_refl _) (opO o))
  obtain ⟨w2, hw2⟩ : ∃ w2, w2 = w.alloc (opO o) := ⟨_, rfl⟩
  obtain ⟨xb, hxb⟩ : ∃ b, b = w.heap.size := ⟨_, rfl⟩
  rw [← hw2, ← hxb] at S1
  rw [← hw2] at HAk RR hp1
  obtain ⟨e0, e1, e2, e3, e4⟩ := op_cells S1.rest
  have S2 := Lib.hid S1
  have HAk := Lib.hid HAk
  have RR := Lib.hid RR
  have HF := Lib.hid hf
  have HP := Lib.hid hp1
  clear h ha S1 hf hp1
  go_enter Tryz.func19, Tryz.ntmps19
  go_upto_region 1 with fail
  rw [← hw2, ← hxb]
  clear hw2 hxb
  go_wp2_with fail
  refine HAk.out.mono ?_
  rintro e w3 ⟨rfl, hB⟩
  have S3 := S2.out.below hB
  have R3 := Lib.hid (Below.trans RR.out (hB.mono (Nat.zero_le _)))
  have HP3 := Lib.hid (HP.out.below hB)
  clear e0 e1 e2 e3 e4
  obtain ⟨e0, e1, e2, e3, e4⟩ := op_cells S3.rest
  have G3 : Glob (pts xb (opO o) * R) := HF.out.g.more
  have HC := Lib.hid (sUndo K n w3 _ (by have := HF.out.N; omega) (by have := HF.out.ms; omega) S3)
  clear S3 S2 HAk RR hB HP G3
  go_wp2_with fail
  refine HC.out.mono ?_
  rintro e w4 ⟨⟨rfl, S4⟩, R4⟩
  have S4 := Lib.hid S4
  have R4 := Lib.hid (Below.trans R3.out R4)
  clear HC
  go_wp2_with fail
  go_ret
  exact ⟨⟨_, _, rfl, rfl, S4.out.right⟩, R4.out⟩
/-- What a call does. -/
inductive DoR (K : Ctx) (n : Now) (o : Opr) (en : Int) (m : Now) : Prop
  | c0 (ha : askI o = 0) (h : (en, m) = n.setP K.most o.k o.t)
  | c1 (ha : askI o = 1) (h : (en, m) = n.unsetP K.most o.k)
  | c2 (ha : askI o = 2) (h : (en, m) = n.markP K.most o.k (exB o) (fxB o))
  | c3 (ha : askI o = 3) (h : (en, m) = n.setF K.most o.k ⟨6, o.t⟩)
  | c4 (ha : askI o = 4) (h : (en, m) = n.unsetF K.most o.k)
  | c5 (ha : askI o = 5) (h : (en, m) = n.setA K.most o.k o.t)
  | c6 (ha : askI o = 6) (h : (en, m) = n.unA K.most o.k)
  | c7 (ha : askI o = 7) (h : (en, m) = n.setT K.most o.k o.t)
  | c8 (ha : askI o = 8) (h : (en, m) = n.unT K.most o.k)
  | c9 (ha : askI o = 9) (h : ∃ ks, KeysOf n.s.T ks ∧ (en, m) = Now.enterL K.most ks n)
  | c10 (ha : askI o = 10) (h : (en, m) = n.setO K.most (firstB o.t) (exB o))
  | c11 (ha : askI o = 11) (h : (en, m) = n.setO K.most (firstB o.t) (exB o))
  | c12 (ha : askI o = 12) (h : (en, m) = n.setG K.most o.L)
  | c13 (ha : askI o = 13) (h : (en, m) = n.shiftP K.most o.n)
  | c14 (ha : askI o = 14) (h : (en, m) = n.setC K.most o.n (o.L.length : Int))
  | c15 (ha : askI o = 15) (h : (en, m) = n.setQ o.n)
  | c16 (ha : askI o = 16) (h : (en, m) = n.markM K.nest)
  | c17 (ha : askI o = 17) (h : (en, m) = n.markM K.nest)
  | c18 (ha : askI o = 18) (h : (en, m) = n.undoM)
  | c19 (ha : askI o = 19) (h : (en, m) = n.undoM)
theorem does_calls (K : Ctx) (n : Now) (o : Opr) (w : World) (R : Hp) (hf : Fit K n o w R) (h : SAt K w n R) :
    Calls Tryz.prog 19 #[pp K.sb, pp K.lb, opA o] w (OutR K w R (DoR K n o)) := by
  rcases askI_cases o with ha | ha | ha | ha | ha | ha | ha | ha | ha | ha | ha | ha | ha | ha | ha | ha | ha | ha | ha | ha
  · exact (does_0 K n o w R ha hf h).mono fun e w' ⟨⟨en, m, h1, h2, h3⟩, hr⟩ => ⟨⟨en, m, h1, .c0 ha h2, h3⟩, hr⟩
  · exact (does_1 K n o w R ha hf h).mono fun e w' ⟨⟨en, m, h1, h2, h3⟩, hr⟩ => ⟨⟨en, m, h1, .c1 ha h2, h3⟩, hr⟩
  · exact (does_2 K n o w R ha hf h).mono fun e w' ⟨⟨en, m, h1, h2, h3⟩, hr⟩ => ⟨⟨en, m, h1, .c2 ha h2, h3⟩, hr⟩
  · exact (does_3 K n o w R ha hf h).mono fun e w' ⟨⟨en, m, h1, h2, h3⟩, hr⟩ => ⟨⟨en, m, h1, .c3 ha h2, h3⟩, hr⟩
  · exact (does_4 K n o w R ha hf h).mono fun e w' ⟨⟨en, m, h1, h2, h3⟩, hr⟩ => ⟨⟨en, m, h1, .c4 ha h2, h3⟩, hr⟩
  · exact (does_5 K n o w R ha hf h).mono fun e w' ⟨⟨en, m, h1, h2, h3⟩, hr⟩ => ⟨⟨en, m, h1, .c5 ha h2, h3⟩, hr⟩
  · exact (does_6 K n o w R ha hf h).mono fun e w' ⟨⟨en, m, h1, h2, h3⟩, hr⟩ => ⟨⟨en, m, h1, .c6 ha h2, h3⟩, hr⟩
  · exact (does_7 K n o w R ha hf h).mono fun e w' ⟨⟨en, m, h1, h2, h3⟩, hr⟩ => ⟨⟨en, m, h1, .c7 ha h2, h3⟩, hr⟩
  · exact (does_8 K n o w R ha hf h).mono fun e w' ⟨⟨en, m, h1, h2, h3⟩, hr⟩ => ⟨⟨en, m, h1, .c8 ha h2, h3⟩, hr⟩
  · exact (does_9 K n o w R ha hf h).mono fun e w' ⟨⟨en, m, h1, h2, h3⟩, hr⟩ => ⟨⟨en, m, h1, .c9 ha h2, h3⟩, hr⟩
  · exact (does_10 K n o w R ha hf h).mono fun e w' ⟨⟨en, m, h1, h2, h3⟩, hr⟩ => ⟨⟨en, m, h1, .c10 ha h2, h3⟩, hr⟩
  · exact (does_11 K n o w R ha hf h).mono fun e w' ⟨⟨en, m, h1, h2, h3⟩, hr⟩ => ⟨⟨en, m, h1, .c11 ha h2, h3⟩, hr⟩
  · exact (does_12 K n o w R ha hf h).mono fun e w' ⟨⟨en, m, h1, h2, h3⟩, hr⟩ => ⟨⟨en, m, h1, .c12 ha h2, h3⟩, hr⟩
  · exact (does_13 K n o w R ha hf h).mono fun e w' ⟨⟨en, m, h1, h2, h3⟩, hr⟩ => ⟨⟨en, m, h1, .c13 ha h2, h3⟩, hr⟩
  · exact (does_14 K n o w R ha hf h).mono fun e w' ⟨⟨en, m, h1, h2, h3⟩, hr⟩ => ⟨⟨en, m, h1, .c14 ha h2, h3⟩, hr⟩
  · exact (does_15 K n o w R ha hf h).mono fun e w' ⟨⟨en, m, h1, h2, h3⟩, hr⟩ => ⟨⟨en, m, h1, .c15 ha h2, h3⟩, hr⟩
  · exact (does_16 K n o w R ha hf h).mono fun e w' ⟨⟨en, m, h1, h2, h3⟩, hr⟩ => ⟨⟨en, m, h1, .c16 ha h2, h3⟩, hr⟩
  · exact (does_17 K n o w R ha hf h).mono fun e w' ⟨⟨en, m, h1, h2, h3⟩, hr⟩ => ⟨⟨en, m, h1, .c17 ha h2, h3⟩, hr⟩
  · exact (does_18 K n o w R ha hf h).mono fun e w' ⟨⟨en, m, h1, h2, h3⟩, hr⟩ => ⟨⟨en, m, h1, .c18 ha h2, h3⟩, hr⟩
  · exact (does_19 K n o w R ha hf h).mono fun e w' ⟨⟨en, m, h1, h2, h3⟩, hr⟩ => ⟨⟨en, m, h1, .c19 ha h2, h3⟩, hr⟩
end Go.Proofs.YtlmjidandjemjaaGreatDoor.State

