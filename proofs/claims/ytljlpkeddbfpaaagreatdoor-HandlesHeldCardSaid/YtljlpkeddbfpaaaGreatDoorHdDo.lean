/- does (the laws' call) walked, whatever the table and the method's contract. (printed by gen_hddo.py) -/
import Derived.Test.YtljlpkeddbfpaaaGreatDoorHdOp
namespace Go.Proofs.YtljlpkeddbfpaaaGreatDoor.Hd
open Go.RowKit Go.Proofs.YtljlpkeddbfpaaaGreatDoor Go.Proofs.YtljlpkeddbfpaaaGreatDoor.Hp
set_option linter.unusedVariables false
attribute [local go_sem] Oper.semAt_some

theorem tmod_range (a : Int) : -8 < a.tmod 8 ∧ a.tmod 8 < 8 := by
  rcases Int.le_total 0 a with h | h
  · rw [Int.tmod_eq_emod_of_nonneg h]; omega
  · have e : a = -(-a) := by omega
    rw [e, Int.neg_tmod, Int.tmod_eq_emod_of_nonneg (by omega)]; omega
theorem kind_eq (o : Opr) : (wrap64 (o.ask.tmod 8 + 8)).tmod 8 = askI o := by
  obtain ⟨h1, h2⟩ := tmod_range o.ask
  rw [show wrap64 (o.ask.tmod 8 + 8) = o.ask.tmod 8 + 8 by unfold wrap64; omega, ask_math]
  rfl
theorem op_at {w : World} {b : Nat} {o : Opr} {S : Hp} (h : Sat w (pts b (opO o) * S)) : w.cell? ⟨b, 0, none⟩ = some (.int .i64 o.ask) ∧ w.cell? ⟨b, 1, none⟩ = some (.int .i64 o.id) ∧ w.cell? ⟨b, 2, none⟩ = some (.int .i64 o.node) ∧ w.cell? ⟨b, 3, none⟩ = some (.int .i64 o.n) ∧
    w.cell? ⟨b, 4, none⟩ = some (.bool o.m.r) ∧ w.cell? ⟨b, 5, none⟩ = some (.bool o.m.w) ∧ w.cell? ⟨b, 6, none⟩ = some (.bool o.m.m) ∧ w.cell? ⟨b, 7, none⟩ = some (.string o.d) :=
  ⟨by rw [cell_at h.get]; rfl, by rw [cell_at h.get]; rfl, by rw [cell_at h.get]; rfl, by rw [cell_at h.get]; rfl, by rw [cell_at h.get]; rfl, by rw [cell_at h.get]; rfl, by rw [cell_at h.get]; rfl, by rw [cell_at h.get]; rfl⟩
abbrev worldV (x y z : Value) : Value := .agg #[x, y, z]
set_option maxRecDepth 100000 in
set_option maxHeartbeats 8000000 in
theorem does_File (o : Opr) (x y z : Value) (w : World) (Q : Int → ByteArray → Int → World → Prop) (ha : askI o = 0)
    (HC : Calls Tryz.prog 10 #[z, .int .i64 o.node, mdV o.m] ((w.alloc (woO x y z)).alloc (opO o)) fun e w' => ∃ n er : Int, e = .returned (.tuple #[.int .i64 n, .int .i64 er]) ∧ Q n ⟨#[]⟩ er w') :
    Calls Tryz.prog 22 #[worldV x y z, opA o] w fun e w' => ∃ (n : Int) (s : ByteArray) (er : Int), e = .returned (.tuple #[.int .i64 n, .string s, .int .i64 er]) ∧ Q n s er w' := by
  have S1 := (((Sat.start w).alloc (woO x y z)).alloc (opO o))
  obtain ⟨e0, e1, e2, e3, e4, e5, e6, e7⟩ := op_at S1
  obtain ⟨c0, c1, c2⟩ := wo_cells (S1.perm (show _ = pts w.heap.size (woO x y z) * (pts (w.alloc (woO x y z)).heap.size (opO o) * keep w) by ac_rfl))
  rw [World.size_alloc] at e0 e1 e2 e3 e4 e5 e6 e7
  obtain ⟨w2, hw2⟩ : ∃ w2, w2 = (w.alloc (woO x y z)).alloc (opO o) := ⟨_, rfl⟩
  rw [← hw2] at HC e0 e1 e2 e3 e4 e5 e6 e7 c0 c1 c2
  have hke := kind_eq o
  have b0 : ((wrap64 (o.ask.tmod 8 + 8)).tmod 8 == 0) = true := by rw [hke, ha]; rfl
  have HC := Lib.hid HC
  obtain ⟨oa, oi, on, om, ⟨mr, mw, mm⟩, od⟩ := o
  dsimp only at *
  clear hke ha S1
  go_enter Tryz.func22, Tryz.ntmps22
  go_upto_region 1 with fail
  rw [← hw2]
  clear hw2
  go_wp2_with fail
  refine HC.out.mono ?_
  rintro e w3 ⟨n, er, rfl, hQ⟩
  have hQ := Lib.hid hQ
  clear HC c0 c1 c2 e0 e1 e2 e3 e4 e5 e6 e7
  go_wp2_with fail
  exact bodyPost_ret (v := .tuple #[.int .i64 n, .string ⟨#[]⟩, .int .i64 er]) (by simp [results, Tryz.results22, go_sem]) rfl ⟨n, ⟨#[]⟩, er, rfl, hQ.out⟩
set_option maxRecDepth 100000 in
set_option maxHeartbeats 8000000 in
theorem does_Text (o : Opr) (x y z : Value) (w : World) (Q : Int → ByteArray → Int → World → Prop) (ha : askI o = 1)
    (HC : Calls Tryz.prog 15 #[z, .string o.d] ((w.alloc (woO x y z)).alloc (opO o)) fun e w' => ∃ n er : Int, e = .returned (.tuple #[.int .i64 n, .int .i64 er]) ∧ Q n ⟨#[]⟩ er w') :
    Calls Tryz.prog 22 #[worldV x y z, opA o] w fun e w' => ∃ (n : Int) (s : ByteArray) (er : Int), e = .returned (.tuple #[.int .i64 n, .string s, .int .i64 er]) ∧ Q n s er w' := by
  have S1 := (((Sat.start w).alloc (woO x y z)).alloc (opO o))
  obtain ⟨e0, e1, e2, e3, e4, e5, e6, e7⟩ := op_at S1
  obtain ⟨c0, c1, c2⟩ := wo_cells (S1.perm (show _ = pts w.heap.size (woO x y z) * (pts (w.alloc (woO x y z)).heap.size (opO o) * keep w) by ac_rfl))
  rw [World.size_alloc] at e0 e1 e2 e3 e4 e5 e6 e7
  obtain ⟨w2, hw2⟩ : ∃ w2, w2 = (w.alloc (woO x y z)).alloc (opO o) := ⟨_, rfl⟩
  rw [← hw2] at HC e0 e1 e2 e3 e4 e5 e6 e7 c0 c1 c2
  have hke := kind_eq o
  have b0 : ((wrap64 (o.ask.tmod 8 + 8)).tmod 8 == 0) = false := by rw [hke, ha]; rfl
  have b1 : ((wrap64 (o.ask.tmod 8 + 8)).tmod 8 == 1) = true := by rw [hke, ha]; rfl
  have HC := Lib.hid HC
  obtain ⟨oa, oi, on, om, ⟨mr, mw, mm⟩, od⟩ := o
  dsimp only at *
  clear hke ha S1
  go_enter Tryz.func22, Tryz.ntmps22
  go_upto_region 1 with fail
  rw [← hw2]
  clear hw2
  go_wp2_with fail
  refine HC.out.mono ?_
  rintro e w3 ⟨n, er, rfl, hQ⟩
  have hQ := Lib.hid hQ
  clear HC c0 c1 c2 e0 e1 e2 e3 e4 e5 e6 e7
  go_wp2_with fail
  exact bodyPost_ret (v := .tuple #[.int .i64 n, .string ⟨#[]⟩, .int .i64 er]) (by simp [results, Tryz.results22, go_sem]) rfl ⟨n, ⟨#[]⟩, er, rfl, hQ.out⟩
set_option maxRecDepth 100000 in
set_option maxHeartbeats 8000000 in
theorem does_Sink (o : Opr) (x y z : Value) (w : World) (Q : Int → ByteArray → Int → World → Prop) (ha : askI o = 2)
    (HC : Calls Tryz.prog 17 #[z, .int .i64 o.n] ((w.alloc (woO x y z)).alloc (opO o)) fun e w' => ∃ n er : Int, e = .returned (.tuple #[.int .i64 n, .int .i64 er]) ∧ Q n ⟨#[]⟩ er w') :
    Calls Tryz.prog 22 #[worldV x y z, opA o] w fun e w' => ∃ (n : Int) (s : ByteArray) (er : Int), e = .returned (.tuple #[.int .i64 n, .string s, .int .i64 er]) ∧ Q n s er w' := by
  have S1 := (((Sat.start w).alloc (woO x y z)).alloc (opO o))
  obtain ⟨e0, e1, e2, e3, e4, e5, e6, e7⟩ := op_at S1
  obtain ⟨c0, c1, c2⟩ := wo_cells (S1.perm (show _ = pts w.heap.size (woO x y z) * (pts (w.alloc (woO x y z)).heap.size (opO o) * keep w) by ac_rfl))
  rw [World.size_alloc] at e0 e1 e2 e3 e4 e5 e6 e7
  obtain ⟨w2, hw2⟩ : ∃ w2, w2 = (w.alloc (woO x y z)).alloc (opO o) := ⟨_, rfl⟩
  rw [← hw2] at HC e0 e1 e2 e3 e4 e5 e6 e7 c0 c1 c2
  have hke := kind_eq o
  have b0 : ((wrap64 (o.ask.tmod 8 + 8)).tmod 8 == 0) = false := by rw [hke, ha]; rfl
  have b1 : ((wrap64 (o.ask.tmod 8 + 8)).tmod 8 == 1) = false := by rw [hke, ha]; rfl
  have b2 : ((wrap64 (o.ask.tmod 8 + 8)).tmod 8 == 2) = true := by rw [hke, ha]; rfl
  have HC := Lib.hid HC
  obtain ⟨oa, oi, on, om, ⟨mr, mw, mm⟩, od⟩ := o
  dsimp only at *
  clear hke ha S1
  go_enter Tryz.func22, Tryz.ntmps22
  go_upto_region 1 with fail
  rw [← hw2]
  clear hw2
  go_wp2_with fail
  refine HC.out.mono ?_
  rintro e w3 ⟨n, er, rfl, hQ⟩
  have hQ := Lib.hid hQ
  clear HC c0 c1 c2 e0 e1 e2 e3 e4 e5 e6 e7
  go_wp2_with fail
  exact bodyPost_ret (v := .tuple #[.int .i64 n, .string ⟨#[]⟩, .int .i64 er]) (by simp [results, Tryz.results22, go_sem]) rfl ⟨n, ⟨#[]⟩, er, rfl, hQ.out⟩
set_option maxRecDepth 100000 in
set_option maxHeartbeats 8000000 in
theorem does_Pipe (o : Opr) (x y z : Value) (w : World) (Q : Int → ByteArray → Int → World → Prop) (ha : askI o = 3)
    (HC : Calls Tryz.prog 16 #[z] ((w.alloc (woO x y z)).alloc (opO o)) fun e w' => ∃ a b er : Int, e = .returned (.tuple #[.int .i64 a, .int .i64 b, .int .i64 er]) ∧ (0 ≤ a ∧ a ≤ 1000000) ∧ (0 ≤ b ∧ b ≤ 1000000) ∧ Q (100 * a + b) ⟨#[]⟩ er w') :
    Calls Tryz.prog 22 #[worldV x y z, opA o] w fun e w' => ∃ (n : Int) (s : ByteArray) (er : Int), e = .returned (.tuple #[.int .i64 n, .string s, .int .i64 er]) ∧ Q n s er w' := by
  have S1 := (((Sat.start w).alloc (woO x y z)).alloc (opO o))
  obtain ⟨e0, e1, e2, e3, e4, e5, e6, e7⟩ := op_at S1
  obtain ⟨c0, c1, c2⟩ := wo_cells (S1.perm (show _ = pts w.heap.size (woO x y z) * (pts (w.alloc (woO x y z)).heap.size (opO o) * keep w) by ac_rfl))
  rw [World.size_alloc] at e0 e1 e2 e3 e4 e5 e6 e7
  obtain ⟨w2, hw2⟩ : ∃ w2, w2 = (w.alloc (woO x y z)).alloc (opO o) := ⟨_, rfl⟩
  rw [← hw2] at HC e0 e1 e2 e3 e4 e5 e6 e7 c0 c1 c2
  have hke := kind_eq o
  have b0 : ((wrap64 (o.ask.tmod 8 + 8)).tmod 8 == 0) = false := by rw [hke, ha]; rfl
  have b1 : ((wrap64 (o.ask.tmod 8 + 8)).tmod 8 == 1) = false := by rw [hke, ha]; rfl
  have b2 : ((wrap64 (o.ask.tmod 8 + 8)).tmod 8 == 2) = false := by rw [hke, ha]; rfl
  have b3 : ((wrap64 (o.ask.tmod 8 + 8)).tmod 8 == 3) = true := by rw [hke, ha]; rfl
  have HC := Lib.hid HC
  obtain ⟨oa, oi, on, om, ⟨mr, mw, mm⟩, od⟩ := o
  dsimp only at *
  clear hke ha S1
  go_enter Tryz.func22, Tryz.ntmps22
  go_upto_region 1 with fail
  rw [← hw2]
  clear hw2
  go_wp2_with fail
  refine HC.out.mono ?_
  rintro e w3 ⟨a, b, er, rfl, ⟨a0, a1⟩, ⟨b0, b1⟩, hQ⟩
  have hQ := Lib.hid hQ
  clear HC c0 c1 c2 e0 e1 e2 e3 e4 e5 e6 e7
  go_wp2_with fail
  exact bodyPost_ret (v := .tuple #[.int .i64 (100 * a + b), .string ⟨#[]⟩, .int .i64 er]) (by simp [results, Tryz.results22, go_sem]) rfl ⟨100 * a + b, ⟨#[]⟩, er, rfl, hQ.out⟩
set_option maxRecDepth 100000 in
set_option maxHeartbeats 8000000 in
theorem does_Ref (o : Opr) (x y z : Value) (w : World) (Q : Int → ByteArray → Int → World → Prop) (ha : askI o = 4)
    (HC : Calls Tryz.prog 18 #[z, .int .i64 o.id] ((w.alloc (woO x y z)).alloc (opO o)) fun e w' => ∃ er : Int, e = .returned (.int .i64 er) ∧ Q 0 ⟨#[]⟩ er w') :
    Calls Tryz.prog 22 #[worldV x y z, opA o] w fun e w' => ∃ (n : Int) (s : ByteArray) (er : Int), e = .returned (.tuple #[.int .i64 n, .string s, .int .i64 er]) ∧ Q n s er w' := by
  have S1 := (((Sat.start w).alloc (woO x y z)).alloc (opO o))
  obtain ⟨e0, e1, e2, e3, e4, e5, e6, e7⟩ := op_at S1
  obtain ⟨c0, c1, c2⟩ := wo_cells (S1.perm (show _ = pts w.heap.size (woO x y z) * (pts (w.alloc (woO x y z)).heap.size (opO o) * keep w) by ac_rfl))
  rw [World.size_alloc] at e0 e1 e2 e3 e4 e5 e6 e7
  obtain ⟨w2, hw2⟩ : ∃ w2, w2 = (w.alloc (woO x y z)).alloc (opO o) := ⟨_, rfl⟩
  rw [← hw2] at HC e0 e1 e2 e3 e4 e5 e6 e7 c0 c1 c2
  have hke := kind_eq o
  have b0 : ((wrap64 (o.ask.tmod 8 + 8)).tmod 8 == 0) = false := by rw [hke, ha]; rfl
  have b1 : ((wrap64 (o.ask.tmod 8 + 8)).tmod 8 == 1) = false := by rw [hke, ha]; rfl
  have b2 : ((wrap64 (o.ask.tmod 8 + 8)).tmod 8 == 2) = false := by rw [hke, ha]; rfl
  have b3 : ((wrap64 (o.ask.tmod 8 + 8)).tmod 8 == 3) = false := by rw [hke, ha]; rfl
  have b4 : ((wrap64 (o.ask.tmod 8 + 8)).tmod 8 == 4) = true := by rw [hke, ha]; rfl
  have HC := Lib.hid HC
  obtain ⟨oa, oi, on, om, ⟨mr, mw, mm⟩, od⟩ := o
  dsimp only at *
  clear hke ha S1
  go_enter Tryz.func22, Tryz.ntmps22
  go_upto_region 1 with fail
  rw [← hw2]
  clear hw2
  go_wp2_with fail
  refine HC.out.mono ?_
  rintro e w3 ⟨er, rfl, hQ⟩
  have hQ := Lib.hid hQ
  clear HC c0 c1 c2 e0 e1 e2 e3 e4 e5 e6 e7
  go_wp2_with fail
  exact bodyPost_ret (v := .tuple #[.int .i64 0, .string ⟨#[]⟩, .int .i64 er]) (by simp [results, Tryz.results22, go_sem]) rfl ⟨0, ⟨#[]⟩, er, rfl, hQ.out⟩
set_option maxRecDepth 100000 in
set_option maxHeartbeats 8000000 in
theorem does_Unref (o : Opr) (x y z : Value) (w : World) (Q : Int → ByteArray → Int → World → Prop) (ha : askI o = 5)
    (HC : Calls Tryz.prog 27 #[z, .int .i64 o.id] ((w.alloc (woO x y z)).alloc (opO o)) fun e w' => ∃ er : Int, e = .returned (.int .i64 er) ∧ Q 0 ⟨#[]⟩ er w') :
    Calls Tryz.prog 22 #[worldV x y z, opA o] w fun e w' => ∃ (n : Int) (s : ByteArray) (er : Int), e = .returned (.tuple #[.int .i64 n, .string s, .int .i64 er]) ∧ Q n s er w' := by
  have S1 := (((Sat.start w).alloc (woO x y z)).alloc (opO o))
  obtain ⟨e0, e1, e2, e3, e4, e5, e6, e7⟩ := op_at S1
  obtain ⟨c0, c1, c2⟩ := wo_cells (S1.perm (show _ = pts w.heap.size (woO x y z) * (pts (w.alloc (woO x y z)).heap.size (opO o) * keep w) by ac_rfl))
  rw [World.size_alloc] at e0 e1 e2 e3 e4 e5 e6 e7
  obtain ⟨w2, hw2⟩ : ∃ w2, w2 = (w.alloc (woO x y z)).alloc (opO o) := ⟨_, rfl⟩
  rw [← hw2] at HC e0 e1 e2 e3 e4 e5 e6 e7 c0 c1 c2
  have hke := kind_eq o
  have b0 : ((wrap64 (o.ask.tmod 8 + 8)).tmod 8 == 0) = false := by rw [hke, ha]; rfl
  have b1 : ((wrap64 (o.ask.tmod 8 + 8)).tmod 8 == 1) = false := by rw [hke, ha]; rfl
  have b2 : ((wrap64 (o.ask.tmod 8 + 8)).tmod 8 == 2) = false := by rw [hke, ha]; rfl
  have b3 : ((wrap64 (o.ask.tmod 8 + 8)).tmod 8 == 3) = false := by rw [hke, ha]; rfl
  have b4 : ((wrap64 (o.ask.tmod 8 + 8)).tmod 8 == 4) = false := by rw [hke, ha]; rfl
  have b5 : ((wrap64 (o.ask.tmod 8 + 8)).tmod 8 == 5) = true := by rw [hke, ha]; rfl
  have HC := Lib.hid HC
  obtain ⟨oa, oi, on, om, ⟨mr, mw, mm⟩, od⟩ := o
  dsimp only at *
  clear hke ha S1
  go_enter Tryz.func22, Tryz.ntmps22
  go_upto_region 1 with fail
  rw [← hw2]
  clear hw2
  go_wp2_with fail
  refine HC.out.mono ?_
  rintro e w3 ⟨er, rfl, hQ⟩
  have hQ := Lib.hid hQ
  clear HC c0 c1 c2 e0 e1 e2 e3 e4 e5 e6 e7
  go_wp2_with fail
  exact bodyPost_ret (v := .tuple #[.int .i64 0, .string ⟨#[]⟩, .int .i64 er]) (by simp [results, Tryz.results22, go_sem]) rfl ⟨0, ⟨#[]⟩, er, rfl, hQ.out⟩
set_option maxRecDepth 100000 in
set_option maxHeartbeats 8000000 in
theorem does_Read (o : Opr) (x y z : Value) (w : World) (Q : Int → ByteArray → Int → World → Prop) (ha : askI o = 6)
    (HC : Calls Tryz.prog 19 #[z, .int .i64 o.id, .int .i64 o.n] ((w.alloc (woO x y z)).alloc (opO o)) fun e w' => ∃ (s : ByteArray) (er : Int), e = .returned (.tuple #[.string s, .int .i64 er]) ∧ Q 0 s er w') :
    Calls Tryz.prog 22 #[worldV x y z, opA o] w fun e w' => ∃ (n : Int) (s : ByteArray) (er : Int), e = .returned (.tuple #[.int .i64 n, .string s, .int .i64 er]) ∧ Q n s er w' := by
  have S1 := (((Sat.start w).alloc (woO x y z)).alloc (opO o))
  obtain ⟨e0, e1, e2, e3, e4, e5, e6, e7⟩ := op_at S1
  obtain ⟨c0, c1, c2⟩ := wo_cells (S1.perm (show _ = pts w.heap.size (woO x y z) * (pts (w.alloc (woO x y z)).heap.size (opO o) * keep w) by ac_rfl))
  rw [World.size_alloc] at e0 e1 e2 e3 e4 e5 e6 e7
  obtain ⟨w2, hw2⟩ : ∃ w2, w2 = (w.alloc (woO x y z)).alloc (opO o) := ⟨_, rfl⟩
  rw [← hw2] at HC e0 e1 e2 e3 e4 e5 e6 e7 c0 c1 c2
  have hke := kind_eq o
  have b0 : ((wrap64 (o.ask.tmod 8 + 8)).tmod 8 == 0) = false := by rw [hke, ha]; rfl
  have b1 : ((wrap64 (o.ask.tmod 8 + 8)).tmod 8 == 1) = false := by rw [hke, ha]; rfl
  have b2 : ((wrap64 (o.ask.tmod 8 + 8)).tmod 8 == 2) = false := by rw [hke, ha]; rfl
  have b3 : ((wrap64 (o.ask.tmod 8 + 8)).tmod 8 == 3) = false := by rw [hke, ha]; rfl
  have b4 : ((wrap64 (o.ask.tmod 8 + 8)).tmod 8 == 4) = false := by rw [hke, ha]; rfl
  have b5 : ((wrap64 (o.ask.tmod 8 + 8)).tmod 8 == 5) = false := by rw [hke, ha]; rfl
  have b6 : ((wrap64 (o.ask.tmod 8 + 8)).tmod 8 == 6) = true := by rw [hke, ha]; rfl
  have HC := Lib.hid HC
  obtain ⟨oa, oi, on, om, ⟨mr, mw, mm⟩, od⟩ := o
  dsimp only at *
  clear hke ha S1
  go_enter Tryz.func22, Tryz.ntmps22
  go_upto_region 1 with fail
  rw [← hw2]
  clear hw2
  go_wp2_with fail
  refine HC.out.mono ?_
  rintro e w3 ⟨s, er, rfl, hQ⟩
  have hQ := Lib.hid hQ
  clear HC c0 c1 c2 e0 e1 e2 e3 e4 e5 e6 e7
  go_wp2_with fail
  exact bodyPost_ret (v := .tuple #[.int .i64 0, .string s, .int .i64 er]) (by simp [results, Tryz.results22, go_sem]) rfl ⟨0, s, er, rfl, hQ.out⟩
set_option maxRecDepth 100000 in
set_option maxHeartbeats 8000000 in
theorem does_Write (o : Opr) (x y z : Value) (w : World) (Q : Int → ByteArray → Int → World → Prop) (ha : askI o = 7)
    (HC : Calls Tryz.prog 11 #[z, .int .i64 o.id, .string o.d] ((w.alloc (woO x y z)).alloc (opO o)) fun e w' => ∃ er : Int, e = .returned (.int .i64 er) ∧ Q 0 ⟨#[]⟩ er w') :
    Calls Tryz.prog 22 #[worldV x y z, opA o] w fun e w' => ∃ (n : Int) (s : ByteArray) (er : Int), e = .returned (.tuple #[.int .i64 n, .string s, .int .i64 er]) ∧ Q n s er w' := by
  have S1 := (((Sat.start w).alloc (woO x y z)).alloc (opO o))
  obtain ⟨e0, e1, e2, e3, e4, e5, e6, e7⟩ := op_at S1
  obtain ⟨c0, c1, c2⟩ := wo_cells (S1.perm (show _ = pts w.heap.size (woO x y z) * (pts (w.alloc (woO x y z)).heap.size (opO o) * keep w) by ac_rfl))
  rw [World.size_alloc] at e0 e1 e2 e3 e4 e5 e6 e7
  obtain ⟨w2, hw2⟩ : ∃ w2, w2 = (w.alloc (woO x y z)).alloc (opO o) := ⟨_, rfl⟩
  rw [← hw2] at HC e0 e1 e2 e3 e4 e5 e6 e7 c0 c1 c2
  have hke := kind_eq o
  have b0 : ((wrap64 (o.ask.tmod 8 + 8)).tmod 8 == 0) = false := by rw [hke, ha]; rfl
  have b1 : ((wrap64 (o.ask.tmod 8 + 8)).tmod 8 == 1) = false := by rw [hke, ha]; rfl
  have b2 : ((wrap64 (o.ask.tmod 8 + 8)).tmod 8 == 2) = false := by rw [hke, ha]; rfl
  have b3 : ((wrap64 (o.ask.tmod 8 + 8)).tmod 8 == 3) = false := by rw [hke, ha]; rfl
  have b4 : ((wrap64 (o.ask.tmod 8 + 8)).tmod 8 == 4) = false := by rw [hke, ha]; rfl
  have b5 : ((wrap64 (o.ask.tmod 8 + 8)).tmod 8 == 5) = false := by rw [hke, ha]; rfl
  have b6 : ((wrap64 (o.ask.tmod 8 + 8)).tmod 8 == 6) = false := by rw [hke, ha]; rfl
  have HC := Lib.hid HC
  obtain ⟨oa, oi, on, om, ⟨mr, mw, mm⟩, od⟩ := o
  dsimp only at *
  clear hke ha S1
  go_enter Tryz.func22, Tryz.ntmps22
  go_upto_region 1 with fail
  rw [← hw2]
  clear hw2
  go_wp2_with fail
  refine HC.out.mono ?_
  rintro e w3 ⟨er, rfl, hQ⟩
  have hQ := Lib.hid hQ
  clear HC c0 c1 c2 e0 e1 e2 e3 e4 e5 e6 e7
  go_wp2_with fail
  exact bodyPost_ret (v := .tuple #[.int .i64 0, .string ⟨#[]⟩, .int .i64 er]) (by simp [results, Tryz.results22, go_sem]) rfl ⟨0, ⟨#[]⟩, er, rfl, hQ.out⟩
end Go.Proofs.YtljlpkeddbfpaaaGreatDoor.Hd
