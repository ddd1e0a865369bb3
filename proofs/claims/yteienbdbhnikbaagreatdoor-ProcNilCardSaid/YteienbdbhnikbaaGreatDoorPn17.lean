/- HandlesPlays, part 17 of 18: the texts PrDo, joined by a program. -/
import Derived.Test.YteienbdbhnikbaaGreatDoorPn16
namespace Go.Proofs.YteienbdbhnikbaaGreatDoor.Pr
open Go.RowKit Go.Proofs.YteienbdbhnikbaaGreatDoor Go.Proofs.YteienbdbhnikbaaGreatDoor.Hp Go.Proofs.YteienbdbhnikbaaGreatDoor.Hd
set_option linter.unusedVariables false
attribute [local go_sem] Oper.semAt_some

abbrev worldV (f s t l p : Value) : Value := .agg #[f, s, t, l, p]
/-- The world in which the method is called. -/
abbrev W3 (f s t l p : Value) (o : Opr) (w : World) : World := ((w.alloc (woP f s t l p)).alloc (opO o)).alloc (opO o)
theorem w3_facts (f s t l p : Value) (o : Opr) (w : World) : let w3 := W3 f s t l p o w
    (w3.cell? ⟨w.heap.size, 0, none⟩ = some f ∧ w3.cell? ⟨w.heap.size, 1, none⟩ = some s ∧ w3.cell? ⟨w.heap.size, 2, none⟩ = some t ∧ w3.cell? ⟨w.heap.size, 3, none⟩ = some l ∧ w3.cell? ⟨w.heap.size, 4, none⟩ = some p) ∧ OpAt w3 (w.heap.size + 1) 0 o := by
  have S1 := (((Sat.start w).alloc (woP f s t l p)).alloc (opO o)).alloc (opO o)
  rw [World.size_alloc] at S1
  rw [World.size_alloc] at S1
  refine ⟨woP_cells (S1.perm (show _ = pts w.heap.size (woP f s t l p) * (pts (w.heap.size + 1 + 1) (opO o) * (pts (w.heap.size + 1) (opO o) * keep w)) by ac_rfl)), op_cells (S1.perm (show _ = pts (w.heap.size + 1) (opO o) * (pts (w.heap.size + 1 + 1) (opO o) * (pts w.heap.size (woP f s t l p) * keep w)) by ac_rfl))⟩
theorem w2_op (f s t l p : Value) (o : Opr) (w : World) : OpAt ((w.alloc (woP f s t l p)).alloc (opO o)) (w.heap.size + 1) 0 o := by
  have S1 := ((Sat.start w).alloc (woP f s t l p)).alloc (opO o)
  rw [World.size_alloc] at S1
  exact op_cells S1
set_option maxRecDepth 100000 in
set_option maxHeartbeats 8000000 in
theorem does_Open (o : Opr) (f s t l p : Value) (w : World) (Q : Int → ByteArray → Int → World → Prop) (ha : askI o = 0)
    (HC : Calls Tryz.prog 26 #[p, .int .i64 o.fd, .string o.path, .int .i64 o.kind] (W3 f s t l p o w) fun e w' => ∃ er : Int, e = .returned (.int .i64 er) ∧ Q 0 ⟨#[]⟩ er w') :
    Calls Tryz.prog 11 #[worldV f s t l p, opA o] w fun e w' => ∃ (n : Int) (s : ByteArray) (er : Int), e = .returned (.tuple #[.int .i64 n, .string s, .int .i64 er]) ∧ Q n s er w' := by
  obtain ⟨⟨c0, c1, c2, c3, c4⟩, e0, e1, e2, e3, e4, e5, e6⟩ := w3_facts f s t l p o w
  obtain ⟨g0, g1, g2, g3, g4, g5, g6⟩ := w2_op f s t l p o w
  have HA := ask_calls o ((w.alloc (woP f s t l p)).alloc (opO o))
  rw [ha] at HA
  obtain ⟨w2, hw2⟩ : ∃ w2, w2 = (w.alloc (woP f s t l p)).alloc (opO o) := ⟨_, rfl⟩
  obtain ⟨w3, hw3⟩ : ∃ w3, w3 = W3 f s t l p o w := ⟨_, rfl⟩
  have h23 : w2.alloc (opO o) = w3 := by rw [hw3, hw2]
  rw [← hw3] at HC c0 c1 c2 c3 c4 e0 e1 e2 e3 e4 e5 e6
  rw [← hw2, h23] at HA
  rw [← hw2] at g0 g1 g2 g3 g4 g5 g6
  have HA := Lib.hid HA
  have HC := Lib.hid HC
  obtain ⟨oa, ofd, ofr, okd, on, opt, od⟩ := o
  dsimp only at *
  clear ha hw3 h23
  go_enter Tryz.func11, Tryz.ntmps11
  go_upto_region 1 with fail
  rw [← hw2]
  clear hw2
  go_wp2_with fail
  refine HA.out.mono ?_
  rintro e w' ⟨rfl, rfl⟩
  clear HA g0 g1 g2 g3 g4 g5 g6
  go_wp2_with fail
  refine HC.out.mono ?_
  rintro e w3 ⟨er, rfl, hQ⟩
  have hQ := Lib.hid hQ
  clear HC c0 c1 c2 c3 c4 e0 e1 e2 e3 e4 e5 e6
  go_wp2_with fail
  exact bodyPost_ret (v := .tuple #[.int .i64 0, .string ⟨#[]⟩, .int .i64 er]) (by simp [results, Tryz.results11, go_sem]) rfl ⟨0, ⟨#[]⟩, er, rfl, hQ.out⟩
set_option maxRecDepth 100000 in
set_option maxHeartbeats 8000000 in
theorem does_Put (o : Opr) (f s t l p : Value) (w : World) (Q : Int → ByteArray → Int → World → Prop) (ha : askI o = 1)
    (HC : Calls Tryz.prog 38 #[p, .int .i64 o.fd, .int .i64 o.frm] (W3 f s t l p o w) fun e w' => ∃ er : Int, e = .returned (.int .i64 er) ∧ Q 0 ⟨#[]⟩ er w') :
    Calls Tryz.prog 11 #[worldV f s t l p, opA o] w fun e w' => ∃ (n : Int) (s : ByteArray) (er : Int), e = .returned (.tuple #[.int .i64 n, .string s, .int .i64 er]) ∧ Q n s er w' := by
  obtain ⟨⟨c0, c1, c2, c3, c4⟩, e0, e1, e2, e3, e4, e5, e6⟩ := w3_facts f s t l p o w
  obtain ⟨g0, g1, g2, g3, g4, g5, g6⟩ := w2_op f s t l p o w
  have HA := ask_calls o ((w.alloc (woP f s t l p)).alloc (opO o))
  rw [ha] at HA
  obtain ⟨w2, hw2⟩ : ∃ w2, w2 = (w.alloc (woP f s t l p)).alloc (opO o) := ⟨_, rfl⟩
  obtain ⟨w3, hw3⟩ : ∃ w3, w3 = W3 f s t l p o w := ⟨_, rfl⟩
  have h23 : w2.alloc (opO o) = w3 := by rw [hw3, hw2]
  rw [← hw3] at HC c0 c1 c2 c3 c4 e0 e1 e2 e3 e4 e5 e6
  rw [← hw2, h23] at HA
  rw [← hw2] at g0 g1 g2 g3 g4 g5 g6
  have HA := Lib.hid HA
  have HC := Lib.hid HC
  obtain ⟨oa, ofd, ofr, okd, on, opt, od⟩ := o
  dsimp only at *
  clear ha hw3 h23
  go_enter Tryz.func11, Tryz.ntmps11
  go_upto_region 1 with fail
  rw [← hw2]
  clear hw2
  go_wp2_with fail
  refine HA.out.mono ?_
  rintro e w' ⟨rfl, rfl⟩
  clear HA g0 g1 g2 g3 g4 g5 g6
  go_wp2_with fail
  refine HC.out.mono ?_
  rintro e w3 ⟨er, rfl, hQ⟩
  have hQ := Lib.hid hQ
  clear HC c0 c1 c2 c3 c4 e0 e1 e2 e3 e4 e5 e6
  go_wp2_with fail
  exact bodyPost_ret (v := .tuple #[.int .i64 0, .string ⟨#[]⟩, .int .i64 er]) (by simp [results, Tryz.results11, go_sem]) rfl ⟨0, ⟨#[]⟩, er, rfl, hQ.out⟩
set_option maxRecDepth 100000 in
set_option maxHeartbeats 8000000 in
theorem does_Dup (o : Opr) (f s t l p : Value) (w : World) (Q : Int → ByteArray → Int → World → Prop) (ha : askI o = 2)
    (HC : Calls Tryz.prog 39 #[p, .int .i64 o.fd, .int .i64 o.frm] (W3 f s t l p o w) fun e w' => ∃ er : Int, e = .returned (.int .i64 er) ∧ Q 0 ⟨#[]⟩ er w') :
    Calls Tryz.prog 11 #[worldV f s t l p, opA o] w fun e w' => ∃ (n : Int) (s : ByteArray) (er : Int), e = .returned (.tuple #[.int .i64 n, .string s, .int .i64 er]) ∧ Q n s er w' := by
  obtain ⟨⟨c0, c1, c2, c3, c4⟩, e0, e1, e2, e3, e4, e5, e6⟩ := w3_facts f s t l p o w
  obtain ⟨g0, g1, g2, g3, g4, g5, g6⟩ := w2_op f s t l p o w
  have HA := ask_calls o ((w.alloc (woP f s t l p)).alloc (opO o))
  rw [ha] at HA
  obtain ⟨w2, hw2⟩ : ∃ w2, w2 = (w.alloc (woP f s t l p)).alloc (opO o) := ⟨_, rfl⟩
  obtain ⟨w3, hw3⟩ : ∃ w3, w3 = W3 f s t l p o w := ⟨_, rfl⟩
  have h23 : w2.alloc (opO o) = w3 := by rw [hw3, hw2]
  rw [← hw3] at HC c0 c1 c2 c3 c4 e0 e1 e2 e3 e4 e5 e6
  rw [← hw2, h23] at HA
  rw [← hw2] at g0 g1 g2 g3 g4 g5 g6
  have HA := Lib.hid HA
  have HC := Lib.hid HC
  obtain ⟨oa, ofd, ofr, okd, on, opt, od⟩ := o
  dsimp only at *
  clear ha hw3 h23
  go_enter Tryz.func11, Tryz.ntmps11
  go_upto_region 1 with fail
  rw [← hw2]
  clear hw2
  go_wp2_with fail
  refine HA.out.mono ?_
  rintro e w' ⟨rfl, rfl⟩
  clear HA g0 g1 g2 g3 g4 g5 g6
  go_wp2_with fail
  refine HC.out.mono ?_
  rintro e w3 ⟨er, rfl, hQ⟩
  have hQ := Lib.hid hQ
  clear HC c0 c1 c2 c3 c4 e0 e1 e2 e3 e4 e5 e6
  go_wp2_with fail
  exact bodyPost_ret (v := .tuple #[.int .i64 0, .string ⟨#[]⟩, .int .i64 er]) (by simp [results, Tryz.results11, go_sem]) rfl ⟨0, ⟨#[]⟩, er, rfl, hQ.out⟩
set_option maxRecDepth 100000 in
set_option maxHeartbeats 8000000 in
theorem does_Close (o : Opr) (f s t l p : Value) (w : World) (Q : Int → ByteArray → Int → World → Prop) (ha : askI o = 3)
    (HC : Calls Tryz.prog 19 #[p, .int .i64 o.fd] (W3 f s t l p o w) fun e w' => ∃ er : Int, e = .returned (.int .i64 er) ∧ Q 0 ⟨#[]⟩ er w') :
    Calls Tryz.prog 11 #[worldV f s t l p, opA o] w fun e w' => ∃ (n : Int) (s : ByteArray) (er : Int), e = .returned (.tuple #[.int .i64 n, .string s, .int .i64 er]) ∧ Q n s er w' := by
  obtain ⟨⟨c0, c1, c2, c3, c4⟩, e0, e1, e2, e3, e4, e5, e6⟩ := w3_facts f s t l p o w
  obtain ⟨g0, g1, g2, g3, g4, g5, g6⟩ := w2_op f s t l p o w
  have HA := ask_calls o ((w.alloc (woP f s t l p)).alloc (opO o))
  rw [ha] at HA
  obtain ⟨w2, hw2⟩ : ∃ w2, w2 = (w.alloc (woP f s t l p)).alloc (opO o) := ⟨_, rfl⟩
  obtain ⟨w3, hw3⟩ : ∃ w3, w3 = W3 f s t l p o w := ⟨_, rfl⟩
  have h23 : w2.alloc (opO o) = w3 := by rw [hw3, hw2]
  rw [← hw3] at HC c0 c1 c2 c3 c4 e0 e1 e2 e3 e4 e5 e6
  rw [← hw2, h23] at HA
  rw [← hw2] at g0 g1 g2 g3 g4 g5 g6
  have HA := Lib.hid HA
  have HC := Lib.hid HC
  obtain ⟨oa, ofd, ofr, okd, on, opt, od⟩ := o
  dsimp only at *
  clear ha hw3 h23
  go_enter Tryz.func11, Tryz.ntmps11
  go_upto_region 1 with fail
  rw [← hw2]
  clear hw2
  go_wp2_with fail
  refine HA.out.mono ?_
  rintro e w' ⟨rfl, rfl⟩
  clear HA g0 g1 g2 g3 g4 g5 g6
  go_wp2_with fail
  refine HC.out.mono ?_
  rintro e w3 ⟨er, rfl, hQ⟩
  have hQ := Lib.hid hQ
  clear HC c0 c1 c2 c3 c4 e0 e1 e2 e3 e4 e5 e6
  go_wp2_with fail
  exact bodyPost_ret (v := .tuple #[.int .i64 0, .string ⟨#[]⟩, .int .i64 er]) (by simp [results, Tryz.results11, go_sem]) rfl ⟨0, ⟨#[]⟩, er, rfl, hQ.out⟩
set_option maxRecDepth 100000 in
set_option maxHeartbeats 8000000 in
theorem does_Read (o : Opr) (f s t l p : Value) (w : World) (Q : Int → ByteArray → Int → World → Prop) (ha : askI o = 4)
    (HC : Calls Tryz.prog 40 #[p, .int .i64 o.fd, .int .i64 o.n] (W3 f s t l p o w) fun e w' => ∃ (s : ByteArray) (er : Int), e = .returned (.tuple #[.string s, .int .i64 er]) ∧ Q 0 s er w') :
    Calls Tryz.prog 11 #[worldV f s t l p, opA o] w fun e w' => ∃ (n : Int) (s : ByteArray) (er : Int), e = .returned (.tuple #[.int .i64 n, .string s, .int .i64 er]) ∧ Q n s er w' := by
  obtain ⟨⟨c0, c1, c2, c3, c4⟩, e0, e1, e2, e3, e4, e5, e6⟩ := w3_facts f s t l p o w
  obtain ⟨g0, g1, g2, g3, g4, g5, g6⟩ := w2_op f s t l p o w
  have HA := ask_calls o ((w.alloc (woP f s t l p)).alloc (opO o))
  rw [ha] at HA
  obtain ⟨w2, hw2⟩ : ∃ w2, w2 = (w.alloc (woP f s t l p)).alloc (opO o) := ⟨_, rfl⟩
  obtain ⟨w3, hw3⟩ : ∃ w3, w3 = W3 f s t l p o w := ⟨_, rfl⟩
  have h23 : w2.alloc (opO o) = w3 := by rw [hw3, hw2]
  rw [← hw3] at HC c0 c1 c2 c3 c4 e0 e1 e2 e3 e4 e5 e6
  rw [← hw2, h23] at HA
  rw [← hw2] at g0 g1 g2 g3 g4 g5 g6
  have HA := Lib.hid HA
  have HC := Lib.hid HC
  obtain ⟨oa, ofd, ofr, okd, on, opt, od⟩ := o
  dsimp only at *
  clear ha hw3 h23
  go_enter Tryz.func11, Tryz.ntmps11
  go_upto_region 1 with fail
  rw [← hw2]
  clear hw2
  go_wp2_with fail
  refine HA.out.mono ?_
  rintro e w' ⟨rfl, rfl⟩
  clear HA g0 g1 g2 g3 g4 g5 g6
  go_wp2_with fail
  refine HC.out.mono ?_
  rintro e w3 ⟨s, er, rfl, hQ⟩
  have hQ := Lib.hid hQ
  clear HC c0 c1 c2 c3 c4 e0 e1 e2 e3 e4 e5 e6
  go_wp2_with fail
  exact bodyPost_ret (v := .tuple #[.int .i64 0, .string s, .int .i64 er]) (by simp [results, Tryz.results11, go_sem]) rfl ⟨0, s, er, rfl, hQ.out⟩
set_option maxRecDepth 100000 in
set_option maxHeartbeats 8000000 in
theorem does_Write (o : Opr) (f s t l p : Value) (w : World) (Q : Int → ByteArray → Int → World → Prop) (ha : askI o = 5)
    (HC : Calls Tryz.prog 27 #[p, .int .i64 o.fd, .string o.data] (W3 f s t l p o w) fun e w' => ∃ er : Int, e = .returned (.int .i64 er) ∧ Q 0 ⟨#[]⟩ er w') :
    Calls Tryz.prog 11 #[worldV f s t l p, opA o] w fun e w' => ∃ (n : Int) (s : ByteArray) (er : Int), e = .returned (.tuple #[.int .i64 n, .string s, .int .i64 er]) ∧ Q n s er w' := by
  obtain ⟨⟨c0, c1, c2, c3, c4⟩, e0, e1, e2, e3, e4, e5, e6⟩ := w3_facts f s t l p o w
  obtain ⟨g0, g1, g2, g3, g4, g5, g6⟩ := w2_op f s t l p o w
  have HA := ask_calls o ((w.alloc (woP f s t l p)).alloc (opO o))
  rw [ha] at HA
  obtain ⟨w2, hw2⟩ : ∃ w2, w2 = (w.alloc (woP f s t l p)).alloc (opO o) := ⟨_, rfl⟩
  obtain ⟨w3, hw3⟩ : ∃ w3, w3 = W3 f s t l p o w := ⟨_, rfl⟩
  have h23 : w2.alloc (opO o) = w3 := by rw [hw3, hw2]
  rw [← hw3] at HC c0 c1 c2 c3 c4 e0 e1 e2 e3 e4 e5 e6
  rw [← hw2, h23] at HA
  rw [← hw2] at g0 g1 g2 g3 g4 g5 g6
  have HA := Lib.hid HA
  have HC := Lib.hid HC
  obtain ⟨oa, ofd, ofr, okd, on, opt, od⟩ := o
  dsimp only at *
  clear ha hw3 h23
  go_enter Tryz.func11, Tryz.ntmps11
  go_upto_region 1 with fail
  rw [← hw2]
  clear hw2
  go_wp2_with fail
  refine HA.out.mono ?_
  rintro e w' ⟨rfl, rfl⟩
  clear HA g0 g1 g2 g3 g4 g5 g6
  go_wp2_with fail
  refine HC.out.mono ?_
  rintro e w3 ⟨er, rfl, hQ⟩
  have hQ := Lib.hid hQ
  clear HC c0 c1 c2 c3 c4 e0 e1 e2 e3 e4 e5 e6
  go_wp2_with fail
  exact bodyPost_ret (v := .tuple #[.int .i64 0, .string ⟨#[]⟩, .int .i64 er]) (by simp [results, Tryz.results11, go_sem]) rfl ⟨0, ⟨#[]⟩, er, rfl, hQ.out⟩
set_option maxRecDepth 100000 in
set_option maxHeartbeats 8000000 in
theorem does_Chdir (o : Opr) (f s t l p : Value) (w : World) (Q : Int → ByteArray → Int → World → Prop) (ha : askI o = 6)
    (HC : Calls Tryz.prog 41 #[p, .string o.path] (W3 f s t l p o w) fun e w' => ∃ er : Int, e = .returned (.int .i64 er) ∧ Q 0 ⟨#[]⟩ er w') :
    Calls Tryz.prog 11 #[worldV f s t l p, opA o] w fun e w' => ∃ (n : Int) (s : ByteArray) (er : Int), e = .returned (.tuple #[.int .i64 n, .string s, .int .i64 er]) ∧ Q n s er w' := by
  obtain ⟨⟨c0, c1, c2, c3, c4⟩, e0, e1, e2, e3, e4, e5, e6⟩ := w3_facts f s t l p o w
  obtain ⟨g0, g1, g2, g3, g4, g5, g6⟩ := w2_op f s t l p o w
  have HA := ask_calls o ((w.alloc (woP f s t l p)).alloc (opO o))
  rw [ha] at HA
  obtain ⟨w2, hw2⟩ : ∃ w2, w2 = (w.alloc (woP f s t l p)).alloc (opO o) := ⟨_, rfl⟩
  obtain ⟨w3, hw3⟩ : ∃ w3, w3 = W3 f s t l p o w := ⟨_, rfl⟩
  have h23 : w2.alloc (opO o) = w3 := by rw [hw3, hw2]
  rw [← hw3] at HC c0 c1 c2 c3 c4 e0 e1 e2 e3 e4 e5 e6
  rw [← hw2, h23] at HA
  rw [← hw2] at g0 g1 g2 g3 g4 g5 g6
  have HA := Lib.hid HA
  have HC := Lib.hid HC
  obtain ⟨oa, ofd, ofr, okd, on, opt, od⟩ := o
  dsimp only at *
  clear ha hw3 h23
  go_enter Tryz.func11, Tryz.ntmps11
  go_upto_region 1 with fail
  rw [← hw2]
  clear hw2
  go_wp2_with fail
  refine HA.out.mono ?_
  rintro e w' ⟨rfl, rfl⟩
  clear HA g0 g1 g2 g3 g4 g5 g6
  go_wp2_with fail
  refine HC.out.mono ?_
  rintro e w3 ⟨er, rfl, hQ⟩
  have hQ := Lib.hid hQ
  clear HC c0 c1 c2 c3 c4 e0 e1 e2 e3 e4 e5 e6
  go_wp2_with fail
  exact bodyPost_ret (v := .tuple #[.int .i64 0, .string ⟨#[]⟩, .int .i64 er]) (by simp [results, Tryz.results11, go_sem]) rfl ⟨0, ⟨#[]⟩, er, rfl, hQ.out⟩
set_option maxRecDepth 100000 in
set_option maxHeartbeats 8000000 in
theorem does_SetMask (o : Opr) (f s t l p : Value) (w : World) (Q : Int → ByteArray → Int → World → Prop) (ha : askI o = 7)
    (HC : Calls Tryz.prog 42 #[p, .int .i64 o.n] (W3 f s t l p o w) fun e w' => ∃ er : Int, e = .returned (.int .i64 er) ∧ Q 0 ⟨#[]⟩ er w') :
    Calls Tryz.prog 11 #[worldV f s t l p, opA o] w fun e w' => ∃ (n : Int) (s : ByteArray) (er : Int), e = .returned (.tuple #[.int .i64 n, .string s, .int .i64 er]) ∧ Q n s er w' := by
  obtain ⟨⟨c0, c1, c2, c3, c4⟩, e0, e1, e2, e3, e4, e5, e6⟩ := w3_facts f s t l p o w
  obtain ⟨g0, g1, g2, g3, g4, g5, g6⟩ := w2_op f s t l p o w
  have HA := ask_calls o ((w.alloc (woP f s t l p)).alloc (opO o))
  rw [ha] at HA
  obtain ⟨w2, hw2⟩ : ∃ w2, w2 = (w.alloc (woP f s t l p)).alloc (opO o) := ⟨_, rfl⟩
  obtain ⟨w3, hw3⟩ : ∃ w3, w3 = W3 f s t l p o w := ⟨_, rfl⟩
  have h23 : w2.alloc (opO o) = w3 := by rw [hw3, hw2]
  rw [← hw3] at HC c0 c1 c2 c3 c4 e0 e1 e2 e3 e4 e5 e6
  rw [← hw2, h23] at HA
  rw [← hw2] at g0 g1 g2 g3 g4 g5 g6
  have HA := Lib.hid HA
  have HC := Lib.hid HC
  obtain ⟨oa, ofd, ofr, okd, on, opt, od⟩ := o
  dsimp only at *
  clear ha hw3 h23
  go_enter Tryz.func11, Tryz.ntmps11
  go_upto_region 1 with fail
  rw [← hw2]
  clear hw2
  go_wp2_with fail
  refine HA.out.mono ?_
  rintro e w' ⟨rfl, rfl⟩
  clear HA g0 g1 g2 g3 g4 g5 g6
  go_wp2_with fail
  refine HC.out.mono ?_
  rintro e w3 ⟨er, rfl, hQ⟩
  have hQ := Lib.hid hQ
  clear HC c0 c1 c2 c3 c4 e0 e1 e2 e3 e4 e5 e6
  go_wp2_with fail
  exact bodyPost_ret (v := .tuple #[.int .i64 0, .string ⟨#[]⟩, .int .i64 er]) (by simp [results, Tryz.results11, go_sem]) rfl ⟨0, ⟨#[]⟩, er, rfl, hQ.out⟩
set_option maxRecDepth 100000 in
set_option maxHeartbeats 8000000 in
theorem does_Mark (o : Opr) (f s t l p : Value) (w : World) (Q : Int → ByteArray → Int → World → Prop) (ha : askI o = 8)
    (HC : Calls Tryz.prog 24 #[p] (W3 f s t l p o w) fun e w' => ∃ n er : Int, e = .returned (.tuple #[.int .i64 n, .int .i64 er]) ∧ Q n ⟨#[]⟩ er w') :
    Calls Tryz.prog 11 #[worldV f s t l p, opA o] w fun e w' => ∃ (n : Int) (s : ByteArray) (er : Int), e = .returned (.tuple #[.int .i64 n, .string s, .int .i64 er]) ∧ Q n s er w' := by
  obtain ⟨⟨c0, c1, c2, c3, c4⟩, e0, e1, e2, e3, e4, e5, e6⟩ := w3_facts f s t l p o w
  obtain ⟨g0, g1, g2, g3, g4, g5, g6⟩ := w2_op f s t l p o w
  have HA := ask_calls o ((w.alloc (woP f s t l p)).alloc (opO o))
  rw [ha] at HA
  obtain ⟨w2, hw2⟩ : ∃ w2, w2 = (w.alloc (woP f s t l p)).alloc (opO o) := ⟨_, rfl⟩
  obtain ⟨w3, hw3⟩ : ∃ w3, w3 = W3 f s t l p o w := ⟨_, rfl⟩
  have h23 : w2.alloc (opO o) = w3 := by rw [hw3, hw2]
  rw [← hw3] at HC c0 c1 c2 c3 c4 e0 e1 e2 e3 e4 e5 e6
  rw [← hw2, h23] at HA
  rw [← hw2] at g0 g1 g2 g3 g4 g5 g6
  have HA := Lib.hid HA
  have HC := Lib.hid HC
  obtain ⟨oa, ofd, ofr, okd, on, opt, od⟩ := o
  dsimp only at *
  clear ha hw3 h23
  go_enter Tryz.func11, Tryz.ntmps11
  go_upto_region 1 with fail
  rw [← hw2]
  clear hw2
  go_wp2_with fail
  refine HA.out.mono ?_
  rintro e w' ⟨rfl, rfl⟩
  clear HA g0 g1 g2 g3 g4 g5 g6
  go_wp2_with fail
  refine HC.out.mono ?_
  rintro e w3 ⟨n, er, rfl, hQ⟩
  have hQ := Lib.hid hQ
  clear HC c0 c1 c2 c3 c4 e0 e1 e2 e3 e4 e5 e6
  go_wp2_with fail
  exact bodyPost_ret (v := .tuple #[.int .i64 n, .string ⟨#[]⟩, .int .i64 er]) (by simp [results, Tryz.results11, go_sem]) rfl ⟨n, ⟨#[]⟩, er, rfl, hQ.out⟩
set_option maxRecDepth 100000 in
set_option maxHeartbeats 8000000 in
theorem does_MarkB (o : Opr) (f s t l p : Value) (w : World) (Q : Int → ByteArray → Int → World → Prop) (ha : askI o = 9)
    (HC : Calls Tryz.prog 24 #[p] (W3 f s t l p o w) fun e w' => ∃ n er : Int, e = .returned (.tuple #[.int .i64 n, .int .i64 er]) ∧ Q n ⟨#[]⟩ er w') :
    Calls Tryz.prog 11 #[worldV f s t l p, opA o] w fun e w' => ∃ (n : Int) (s : ByteArray) (er : Int), e = .returned (.tuple #[.int .i64 n, .string s, .int .i64 er]) ∧ Q n s er w' := by
  obtain ⟨⟨c0, c1, c2, c3, c4⟩, e0, e1, e2, e3, e4, e5, e6⟩ := w3_facts f s t l p o w
  obtain ⟨g0, g1, g2, g3, g4, g5, g6⟩ := w2_op f s t l p o w
  have HA := ask_calls o ((w.alloc (woP f s t l p)).alloc (opO o))
  rw [ha] at HA
  obtain ⟨w2, hw2⟩ : ∃ w2, w2 = (w.alloc (woP f s t l p)).alloc (opO o) := ⟨_, rfl⟩
  obtain ⟨w3, hw3⟩ : ∃ w3, w3 = W3 f s t l p o w := ⟨_, rfl⟩
  have h23 : w2.alloc (opO o) = w3 := by rw [hw3, hw2]
  rw [← hw3] at HC c0 c1 c2 c3 c4 e0 e1 e2 e3 e4 e5 e6
  rw [← hw2, h23] at HA
  rw [← hw2] at g0 g1 g2 g3 g4 g5 g6
  have HA := Lib.hid HA
  have HC := Lib.hid HC
  obtain ⟨oa, ofd, ofr, okd, on, opt, od⟩ := o
  dsimp only at *
  clear ha hw3 h23
  go_enter Tryz.func11, Tryz.ntmps11
  go_upto_region 1 with fail
  rw [← hw2]
  clear hw2
  go_wp2_with fail
  refine HA.out.mono ?_
  rintro e w' ⟨rfl, rfl⟩
  clear HA g0 g1 g2 g3 g4 g5 g6
  go_wp2_with fail
  refine HC.out.mono ?_
  rintro e w3 ⟨n, er, rfl, hQ⟩
  have hQ := Lib.hid hQ
  clear HC c0 c1 c2 c3 c4 e0 e1 e2 e3 e4 e5 e6
  go_wp2_with fail
  exact bodyPost_ret (v := .tuple #[.int .i64 n, .string ⟨#[]⟩, .int .i64 er]) (by simp [results, Tryz.results11, go_sem]) rfl ⟨n, ⟨#[]⟩, er, rfl, hQ.out⟩
set_option maxRecDepth 100000 in
set_option maxHeartbeats 8000000 in
theorem does_Undo (o : Opr) (f s t l p : Value) (w : World) (Q : Int → ByteArray → Int → World → Prop) (ha : askI o = 10)
    (HC : Calls Tryz.prog 18 #[p] (W3 f s t l p o w) fun e w' => ∃ er : Int, e = .returned (.int .i64 er) ∧ Q 0 ⟨#[]⟩ er w') :
    Calls Tryz.prog 11 #[worldV f s t l p, opA o] w fun e w' => ∃ (n : Int) (s : ByteArray) (er : Int), e = .returned (.tuple #[.int .i64 n, .string s, .int .i64 er]) ∧ Q n s er w' := by
  obtain ⟨⟨c0, c1, c2, c3, c4⟩, e0, e1, e2, e3, e4, e5, e6⟩ := w3_facts f s t l p o w
  obtain ⟨g0, g1, g2, g3, g4, g5, g6⟩ := w2_op f s t l p o w
  have HA := ask_calls o ((w.alloc (woP f s t l p)).alloc (opO o))
  rw [ha] at HA
  obtain ⟨w2, hw2⟩ : ∃ w2, w2 = (w.alloc (woP f s t l p)).alloc (opO o) := ⟨_, rfl⟩
  obtain ⟨w3, hw3⟩ : ∃ w3, w3 = W3 f s t l p o w := ⟨_, rfl⟩
  have h23 : w2.alloc (opO o) = w3 := by rw [hw3, hw2]
  rw [← hw3] at HC c0 c1 c2 c3 c4 e0 e1 e2 e3 e4 e5 e6
  rw [← hw2, h23] at HA
  rw [← hw2] at g0 g1 g2 g3 g4 g5 g6
  have HA := Lib.hid HA
  have HC := Lib.hid HC
  obtain ⟨oa, ofd, ofr, okd, on, opt, od⟩ := o
  dsimp only at *
  clear ha hw3 h23
  go_enter Tryz.func11, Tryz.ntmps11
  go_upto_region 1 with fail
  rw [← hw2]
  clear hw2
  go_wp2_with fail
  refine HA.out.mono ?_
  rintro e w' ⟨rfl, rfl⟩
  clear HA g0 g1 g2 g3 g4 g5 g6
  go_wp2_with fail
  refine HC.out.mono ?_
  rintro e w3 ⟨er, rfl, hQ⟩
  have hQ := Lib.hid hQ
  clear HC c0 c1 c2 c3 c4 e0 e1 e2 e3 e4 e5 e6
  go_wp2_with fail
  exact bodyPost_ret (v := .tuple #[.int .i64 0, .string ⟨#[]⟩, .int .i64 er]) (by simp [results, Tryz.results11, go_sem]) rfl ⟨0, ⟨#[]⟩, er, rfl, hQ.out⟩
end Go.Proofs.YteienbdbhnikbaaGreatDoor.Pr

