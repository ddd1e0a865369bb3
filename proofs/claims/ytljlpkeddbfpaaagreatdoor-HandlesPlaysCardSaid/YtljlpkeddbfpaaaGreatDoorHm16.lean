/- HandlesPlays, part 16 of 34: the texts HdDo HdMc, joined by a program. -/
import Derived.Test.YtljlpkeddbfpaaaGreatDoorHm15
import Derived.Test.YtljlpkeddbfpaaaGreatDoorHm9
import Derived.Test.YtljlpkeddbfpaaaGreatDoorHm13
namespace Go.Proofs.YtljlpkeddbfpaaaGreatDoor.Hd
open Go.RowKit Go.Proofs.YtljlpkeddbfpaaaGreatDoor Go.Proofs.YtljlpkeddbfpaaaGreatDoor.Hp
set_option linter.unusedVariables false
attribute [local go_sem] Oper.semAt_some

theorem tmod_range (a : Int) : -8 < a.tmod 8 ∧ a.tmod 8 < 8 := by
  rcases Int.le_total 0 a with h | h
  · rw [Int.tmod_eq_emod_of_nonneg h]; omega
  · have e : a = -(-a) := by omega
    rw [e, Int.neg_tmod, Int.tmod_eq_emod_of_nonneg (by omega)]; omega
theorem kind_eq (o : Opr) : (wrap64 (o.ask.tmod 8 + 8)).tmod 8 = askI o := by
  obtain ⟨h1, h2⟩ := tmod_range o.ask
  rw [show wrap64 (o.ask.tmod 8 + 8) = o.ask.tmod 8 + 8 by unfold wrap64; omega, ask_math]
  rfl
theorem op_at {w : World} {b : Nat} {o : Opr} {S : Hp} (h : Sat w (pts b (opO o) * S)) : w.cell? ⟨b, 0, none⟩ = some (.int .i64 o.ask) ∧ w.cell? ⟨b, 1, none⟩ = some (.int .i64 o.id) ∧ w.cell? ⟨b, 2, none⟩ = some (.int .i64 o.node) ∧ w.cell? ⟨b, 3, none⟩ = some (.int .i64 o.n) ∧
    w.cell? ⟨b, 4, none⟩ = some (.bool o.m.r) ∧ w.cell? ⟨b, 5, none⟩ = some (.bool o.m.w) ∧ w.cell? ⟨b, 6, none⟩ = some (.bool o.m.m) ∧ w.cell? ⟨b, 7, none⟩ = some (.string o.d) :=
  ⟨by rw [cell_at h.get]; rfl, by rw [cell_at h.get]; rfl, by rw [cell_at h.get]; rfl, by rw [cell_at h.get]; rfl, by rw [cell_at h.get]; rfl, by rw [cell_at h.get]; rfl, by rw [cell_at h.get]; rfl, by rw [cell_at h.get]; rfl⟩
abbrev worldV (x y z : Value) : Value := .agg #[x, y, z]
set_option maxRecDepth 100000 in
set_option maxHeartbeats 8000000 in
theorem does_File (o : Opr) (x y z : Value) (w : World) (Q : Int → ByteArray → Int → World → Prop) (ha : askI o = 0)
    (HC : Calls Tryz.prog 10 #[z, .int .i64 o.node, mdV o.m] ((w.alloc (woO x y z)).alloc (opO o)) fun e w' => ∃ n er : Int, e = .returned (.tuple #[.int .i64 n, .int .i64 er]) ∧ Q n ⟨#[]⟩ er w') :
    Calls Tryz.prog 22 #[worldV x y z, opA o] w fun e w' => ∃ (n : Int) (s : ByteArray) (er : Int), e = .returned (.tuple #[.int .i64 n, .string s, .int .i64 er]) ∧ Q n s er w' := by
  have S1 := (((Sat.start w).alloc (woO x y z)).alloc (opO o))
  obtain ⟨e0, e1, e2, e3, e4, e5, e6, e7⟩ := op_at S1
  obtain ⟨c0, c1, c2⟩ := wo_cells (S1.perm (show _ = pts w.heap.size (woO x y z) * (pts (w.alloc (woO x y z)).heap.size (opO o) * keep w) by ac_rfl))
  rw [World.size_alloc] at e0 e1 e2 e3 e4 e5 e6 e7
  obtain ⟨w2, hw2⟩ : ∃ w2, w2 = (w.alloc (woO x y z)).alloc (opO o) := ⟨_, rfl⟩
  rw [← hw2] at HC e0 e1 e2 e3 e4 e5 e6 e7 c0 c1 c2
  have hke := kind_eq o
  have b0 : ((wrap64 (o.ask.tmod 8 + 8)).tmod 8 == 0) = true := by rw [hke, ha]; rfl
  have HC := Lib.hid HC
  obtain ⟨oa, oi, on, om, ⟨mr, mw, mm⟩, od⟩ := o
  dsimp only at *
  clear hke ha S1
  go_enter Tryz.func22, Tryz.ntmps22
  go_upto_region 1 with fail
  rw [← hw2]
  clear hw2
  go_wp2_with fail
  refine HC.out.mono ?_
  rintro e w3 ⟨n, er, rfl, hQ⟩
  have hQ := Lib.hid hQ
  clear HC c0 c1 c2 e0 e1 e2 e3 e4 e5 e6 e7
  go_wp2_with fail
  exact bodyPost_ret (v := .tuple #[.int .i64 n, .string ⟨#[]⟩, .int .i64 er]) (by simp [results, Tryz.results22, go_sem]) rfl ⟨n, ⟨#[]⟩, er, rfl, hQ.out⟩
set_option maxRecDepth 100000 in
set_option maxHeartbeats 8000000 in
theorem does_Text (o : Opr) (x y z : Value) (w : World) (Q : Int → ByteArray → Int → World → Prop) (ha : askI o = 1)
    (HC : Calls Tryz.prog 15 #[z, .string o.d] ((w.alloc (woO x y z)).alloc (opO o)) fun e w' => ∃ n er : Int, e = .returned (.tuple #[.int .i64 n, .int .i64 er]) ∧ Q n ⟨#[]⟩ er w') :
    Calls Tryz.prog 22 #[worldV x y z, opA o] w fun e w' => ∃ (n : Int) (s : ByteArray) (er : Int), e = .returned (.tuple #[.int .i64 n, .string s, .int .i64 er]) ∧ Q n s er w' := by
  have S1 := (((Sat.start w).alloc (woO x y z)).alloc (opO o))
  obtain ⟨e0, e1, e2, e3, e4, e5, e6, e7⟩ := op_at S1
  obtain ⟨c0, c1, c2⟩ := wo_cells (S1.perm (show _ = pts w.heap.size (woO x y z) * (pts (w.alloc (woO x y z)).heap.size (opO o) * keep w) by ac_rfl))
  rw [World.size_alloc] at e0 e1 e2 e3 e4 e5 e6 e7
  obtain ⟨w2, hw2⟩ : ∃ w2, w2 = (w.alloc (woO x y z)).alloc (opO o) := ⟨_, rfl⟩
  rw [← hw2] at HC e0 e1 e2 e3 e4 e5 e6 e7 c0 c1 c2
  have hke := kind_eq o
  have b0 : ((wrap64 (o.ask.tmod 8 + 8)).tmod 8 == 0) = false := by rw [hke, ha]; rfl
  have b1 : ((wrap64 (o.ask.tmod 8 + 8)).tmod 8 == 1) = true := by rw [hke, ha]; rfl
  have HC := Lib.hid HC
  obtain ⟨oa, oi, on, om, ⟨mr, mw, mm⟩, od⟩ := o
  dsimp only at *
  clear hke ha S1
  go_enter Tryz.func22, Tryz.ntmps22
  go_upto_region 1 with fail
  rw [← hw2]
  clear hw2
  go_wp2_with fail
  refine HC.out.mono ?_
  rintro e w3 ⟨n, er, rfl, hQ⟩
  have hQ := Lib.hid hQ
  clear HC c0 c1 c2 e0 e1 e2 e3 e4 e5 e6 e7
  go_wp2_with fail
  exact bodyPost_ret (v := .tuple #[.int .i64 n, .string ⟨#[]⟩, .int .i64 er]) (by simp [results, Tryz.results22, go_sem]) rfl ⟨n, ⟨#[]⟩, er, rfl, hQ.out⟩
set_option maxRecDepth 100000 in
set_option maxHeartbeats 8000000 in
theorem does_Sink (o : Opr) (x y z : Value) (w : World) (Q : Int → ByteArray → Int → World → Prop) (ha : askI o = 2)
    (HC : Calls Tryz.prog 17 #[z, .int .i64 o.n] ((w.alloc (woO x y z)).alloc (opO o)) fun e w' => ∃ n er : Int, e = .returned (.tuple #[.int .i64 n, .int .i64 er]) ∧ Q n ⟨#[]⟩ er w') :
    Calls Tryz.prog 22 #[worldV x y z, opA o] w fun e w' => ∃ (n : Int) (s : ByteArray) (er : Int), e = .returned (.tuple #[.int .i64 n, .string s, .int .i64 er]) ∧ Q n s er w' := by
  have S1 := (((Sat.start w).alloc (woO x y z)).alloc (opO o))
  obtain ⟨e0, e1, e2, e3, e4, e5, e6, e7⟩ := op_at S1
  obtain ⟨c0, c1, c2⟩ := wo_cells (S1.perm (show _ = pts w.heap.size (woO x y z) * (pts (w.alloc (woO x y z)).heap.size (opO o) * keep w) by ac_rfl))
  rw [World.size_alloc] at e0 e1 e2 e3 e4 e5 e6 e7
  obtain ⟨w2, hw2⟩ : ∃ w2, w2 = (w.alloc (woO x y z)).alloc (opO o) := ⟨_, rfl⟩
  rw [← hw2] at HC e0 e1 e2 e3 e4 e5 e6 e7 c0 c1 c2
  have hke := kind_eq o
  have b0 : ((wrap64 (o.ask.tmod 8 + 8)).tmod 8 == 0) = false := by rw [hke, ha]; rfl
  have b1 : ((wrap64 (o.ask.tmod 8 + 8)).tmod 8 == 1) = false := by rw [hke, ha]; rfl
  have b2 : ((wrap64 (o.ask.tmod 8 + 8)).tmod 8 == 2) = true := by rw [hke, ha]; rfl
  have HC := Lib.hid HC
  obtain ⟨oa, oi, on, om, ⟨mr, mw, mm⟩, od⟩ := o
  dsimp only at *
  clear hke ha S1
  go_enter Tryz.func22, Tryz.ntmps22
  go_upto_region 1 with fail
  rw [← hw2]
  clear hw2
  go_wp2_with fail
  refine HC.out.mono ?_
  rintro e w3 ⟨n, er, rfl, hQ⟩
  have hQ := Lib.hid hQ
  clear HC c0 c1 c2 e0 e1 e2 e3 e4 e5 e6 e7
  go_wp2_with fail
  exact bodyPost_ret (v := .tuple #[.int .i64 n, .string ⟨#[]⟩, .int .i64 er]) (by simp [results, Tryz.results22, go_sem]) rfl ⟨n, ⟨#[]⟩, er, rfl, hQ.out⟩
set_option maxRecDepth 100000 in
set_option maxHeartbeats 8000000 in
theorem does_Pipe (o : Opr) (x y z : Value) (w : World) (Q : Int → ByteArray → Int → World → Prop) (ha : askI o = 3)
    (HC : Calls Tryz.prog 16 #[z] ((w.alloc (woO x y z)).alloc (opO o)) fun e w' => ∃ a b er : Int, e = .returned (.tuple #[.int .i64 a, .int .i64 b, .int .i64 er]) ∧ (0 ≤ a ∧ a ≤ 1000000) ∧ (0 ≤ b ∧ b ≤ 1000000) ∧ Q (100 * a + b) ⟨#[]⟩ er w') :
    Calls Tryz.prog 22 #[worldV x y z, opA o] w fun e w' => ∃ (n : Int) (s : ByteArray) (er : Int), e = .returned (.tuple #[.int .i64 n, .string s, .int .i64 er]) ∧ Q n s er w' := by
  have S1 := (((Sat.start w).alloc (woO x y z)).alloc (opO o))
  obtain ⟨e0, e1, e2, e3, e4, e5, e6, e7⟩ := op_at S1
  obtain ⟨c0, c1, c2⟩ := wo_cells (S1.perm (show _ = pts w.heap.size (woO x y z) * (pts (w.alloc (woO x y z)).heap.size (opO o) * keep w) by ac_rfl))
  rw [World.size_alloc] at e0 e1 e2 e3 e4 e5 e6 e7
  obtain ⟨w2, hw2⟩ : ∃ w2, w2 = (w.alloc (woO x y z)).alloc (opO o) := ⟨_, rfl⟩
  rw [← hw2] at HC e0 e1 e2 e3 e4 e5 e6 e7 c0 c1 c2
  have hke := kind_eq o
  have b0 : ((wrap64 (o.ask.tmod 8 + 8)).tmod 8 == 0) = false := by rw [hke, ha]; rfl
  have b1 : ((wrap64 (o.ask.tmod 8 + 8)).tmod 8 == 1) = false := by rw [hke, ha]; rfl
  have b2 : ((wrap64 (o.ask.tmod 8 + 8)).tmod 8 == 2) = false := by rw [hke, ha]; rfl
  have b3 : ((wrap64 (o.ask.tmod 8 + 8)).tmod 8 == 3) = true := by rw [hke, ha]; rfl
  have HC := Lib.hid HC
  obtain ⟨oa, oi, on, om, ⟨mr, mw, mm⟩, od⟩ := o
  dsimp only at *
  clear hke ha S1
  go_enter Tryz.func22, Tryz.ntmps22
  go_upto_region 1 with fail
  rw [← hw2]
  clear hw2
  go_wp2_with fail
  refine HC.out.mono ?_
  rintro e w3 ⟨a, b, er, rfl, ⟨a0, a1⟩, ⟨b0, b1⟩, hQ⟩
  have hQ := Lib.hid hQ
  clear HC c0 c1 c2 e0 e1 e2 e3 e4 e5 e6 e7
  go_wp2_with fail
  exact bodyPost_ret (v := .tuple #[.int .i64 (100 * a + b), .string ⟨#[]⟩, .int .i64 er]) (by simp [results, Tryz.results22, go_sem]) rfl ⟨100 * a + b, ⟨#[]⟩, er, rfl, hQ.out⟩
set_option maxRecDepth 100000 in
set_option maxHeartbeats 8000000 in
theorem does_Ref (o : Opr) (x y z : Value) (w : World) (Q : Int → ByteArray → Int → World → Prop) (ha : askI o = 4)
    (HC : Calls Tryz.prog 18 #[z, .int .i64 o.id] ((w.alloc (woO x y z)).alloc (opO o)) fun e w' => ∃ er : Int, e = .returned (.int .i64 er) ∧ Q 0 ⟨#[]⟩ er w') :
    Calls Tryz.prog 22 #[worldV x y z, opA o] w fun e w' => ∃ (n : Int) (s : ByteArray) (er : Int), e = .returned (.tuple #[.int .i64 n, .string s, .int .i64 er]) ∧ Q n s er w' := by
  have S1 := (((Sat.start w).alloc (woO x y z)).alloc (opO o))
  obtain ⟨e0, e1, e2, e3, e4, e5, e6, e7⟩ := op_at S1
  obtain ⟨c0, c1, c2⟩ := wo_cells (S1.perm (show _ = pts w.heap.size (woO x y z) * (pts (w.alloc (woO x y z)).heap.size (opO o) * keep w) by ac_rfl))
  rw [World.size_alloc] at e0 e1 e2 e3 e4 e5 e6 e7
  obtain ⟨w2, hw2⟩ : ∃ w2, w2 = (w.alloc (woO x y z)).alloc (opO o) := ⟨_, rfl⟩
  rw [← hw2] at HC e0 e1 e2 e3 e4 e5 e6 e7 c0 c1 c2
  have hke := kind_eq o
  have b0 : ((wrap64 (o.ask.tmod 8 + 8)).tmod 8 == 0) = false := by rw [hke, ha]; rfl
  have b1 : ((wrap64 (o.ask.tmod 8 + 8)).tmod 8 == 1) = false := by rw [hke, ha]; rfl
  have b2 : ((wrap64 (o.ask.tmod 8 + 8)).tmod 8 == 2) = false := by rw [hke, ha]; rfl
  have b3 : ((wrap64 (o.ask.tmod 8 + 8)).tmod 8 == 3) = false := by rw [hke, ha]; rfl
  have b4 : ((wrap64 (o.ask.tmod 8 + 8)).tmod 8 == 4) = true := by rw [hke, ha]; rfl
  have HC := Lib.hid HC
  obtain ⟨oa, oi, on, om, ⟨mr, mw, mm⟩, od⟩ := o
  dsimp only at *
  clear hke ha S1
  go_enter Tryz.func22, Tryz.ntmps22
  go_upto_region 1 with fail
  rw [← hw2]
  clear hw2
  go_wp2_with fail
  refine HC.out.mono ?_
  rintro e w3 ⟨er, rfl, hQ⟩
  have hQ := Lib.hid hQ
  clear HC c0 c1 c2 e0 e1 e2 e3 e4 e5 e6 e7
  go_wp2_with fail
  exact bodyPost_ret (v := .tuple #[.int .i64 0, .string ⟨#[]⟩, .int .i64 er]) (by simp [results, Tryz.results22, go_sem]) rfl ⟨0, ⟨#[]⟩, er, rfl, hQ.out⟩
set_option maxRecDepth 100000 in
set_option maxHeartbeats 8000000 in
theorem does_Unref (o : Opr) (x y z : Value) (w : World) (Q : Int → ByteArray → Int → World → Prop) (ha : askI o = 5)
    (HC : Calls Tryz.prog 27 #[z, .int .i64 o.id] ((w.alloc (woO x y z)).alloc (opO o)) fun e w' => ∃ er : Int, e = .returned (.int .i64 er) ∧ Q 0 ⟨#[]⟩ er w') :
    Calls Tryz.prog 22 #[worldV x y z, opA o] w fun e w' => ∃ (n : Int) (s : ByteArray) (er : Int), e = .returned (.tuple #[.int .i64 n, .string s, .int .i64 er]) ∧ Q n s er w' := by
  have S1 := (((Sat.start w).alloc (woO x y z)).alloc (opO o))
  obtain ⟨e0, e1, e2, e3, e4, e5, e6, e7⟩ := op_at S1
  obtain ⟨c0, c1, c2⟩ := wo_cells (S1.perm (show _ = pts w.heap.size (woO x y z) * (pts (w.alloc (woO x y z)).heap.size (opO o) * keep w) by ac_rfl))
  rw [World.size_alloc] at e0 e1 e2 e3 e4 e5 e6 e7
  obtain ⟨w2, hw2⟩ : ∃ w2, w2 = (w.alloc (woO x y z)).alloc (opO o) := ⟨_, rfl⟩
  rw [← hw2] at HC e0 e1 e2 e3 e4 e5 e6 e7 c0 c1 c2
  have hke := kind_eq o
  have b0 : ((wrap64 (o.ask.tmod 8 + 8)).tmod 8 == 0) = false := by rw [hke, ha]; rfl
  have b1 : ((wrap64 (o.ask.tmod 8 + 8)).tmod 8 == 1) = false := by rw [hke, ha]; rfl
  have b2 : ((wrap64 (o.ask.tmod 8 + 8)).tmod 8 == 2) = false := by rw [hke, ha]; rfl
  have b3 : ((wrap64 (o.ask.tmod 8 + 8)).tmod 8 == 3) = false := by rw [hke, ha]; rfl
  have b4 : ((wrap64 (o.ask.tmod 8 + 8)).tmod 8 == 4) = false := by rw [hke, ha]; rfl
  have b5 : ((wrap64 (o.ask.tmod 8 + 8)).tmod 8 == 5) = true := by rw [hke, ha]; rfl
  have HC := Lib.hid HC
  obtain ⟨oa, oi, on, om, ⟨mr, mw, mm⟩, od⟩ := o
  dsimp only at *
  clear hke ha S1
  go_enter Tryz.func22, Tryz.ntmps22
  go_upto_region 1 with fail
  rw [← hw2]
  clear hw2
  go_wp2_with fail
  refine HC.out.mono ?_
  rintro e w3 ⟨er, rfl, hQ⟩
  have hQ := Lib.hid hQ
  clear HC c0 c1 c2 e0 e1 e2 e3 e4 e5 e6 e7
  go_wp2_with fail
  exact bodyPost_ret (v := .tuple #[.int .i64 0, .string ⟨#[]⟩, .int .i64 er]) (by simp [results, Tryz.results22, go_sem]) rfl ⟨0, ⟨#[]⟩, er, rfl, hQ.out⟩
set_option maxRecDepth 100000 in
set_option maxHeartbeats 8000000 in
theorem does_Read (o : Opr) (x y z : Value) (w : World) (Q : Int → ByteArray → Int → World → Prop) (ha : askI o = 6)
    (HC : Calls Tryz.prog 19 #[z, .int .i64 o.id, .int .i64 o.n] ((w.alloc (woO x y z)).alloc (opO o)) fun e w' => ∃ (s : ByteArray) (er : Int), e = .returned (.tuple #[.string s, .int .i64 er]) ∧ Q 0 s er w') :
    Calls Tryz.prog 22 #[worldV x y z, opA o] w fun e w' => ∃ (n : Int) (s : ByteArray) (er : Int), e = .returned (.tuple #[.int .i64 n, .string s, .int .i64 er]) ∧ Q n s er w' := by
  have S1 := (((Sat.start w).alloc (woO x y z)).alloc (opO o))
  obtain ⟨e0, e1, e2, e3, e4, e5, e6, e7⟩ := op_at S1
  obtain ⟨c0, c1, c2⟩ := wo_cells (S1.perm (show _ = pts w.heap.size (woO x y z) * (pts (w.alloc (woO x y z)).heap.size (opO o) * keep w) by ac_rfl))
  rw [World.size_alloc] at e0 e1 e2 e3 e4 e5 e6 e7
  obtain ⟨w2, hw2⟩ : ∃ w2, w2 = (w.alloc (woO x y z)).alloc (opO o) := ⟨_, rfl⟩
  rw [← hw2] at HC e0 e1 e2 e3 e4 e5 e6 e7 c0 c1 c2
  have hke := kind_eq o
  have b0 : ((wrap64 (o.ask.tmod 8 + 8)).tmod 8 == 0) = false := by rw [hke, ha]; rfl
  have b1 : ((wrap64 (o.ask.tmod 8 + 8)).tmod 8 == 1) = false := by rw [hke, ha]; rfl
  have b2 : ((wrap64 (o.ask.tmod 8 + 8)).tmod 8 == 2) = false := by rw [hke, ha]; rfl
  have b3 : ((wrap64 (o.ask.tmod 8 + 8)).tmod 8 == 3) = false := by rw [hke, ha]; rfl
  have b4 : ((wrap64 (o.ask.tmod 8 + 8)).tmod 8 == 4) = false := by rw [hke, ha]; rfl
  have b5 : ((wrap64 (o.ask.tmod 8 + 8)).tmod 8 == 5) = false := by rw [hke, ha]; rfl
  have b6 : ((wrap64 (o.ask.tmod 8 + 8)).tmod 8 == 6) = true := by rw [hke, ha]; rfl
  have HC := Lib.hid HC
  obtain ⟨oa, oi, on, om, ⟨mr, mw, mm⟩, od⟩ := o
  dsimp only at *
  clear hke ha S1
  go_enter Tryz.func22, Tryz.ntmps22
  go_upto_region 1 with fail
  rw [← hw2]
  clear hw2
  go_wp2_with fail
  refine HC.out.mono ?_
  rintro e w3 ⟨s, er, rfl, hQ⟩
  have hQ := Lib.hid hQ
  clear HC c0 c1 c2 e0 e1 e2 e3 e4 e5 e6 e7
  go_wp2_with fail
  exact bodyPost_ret (v := .tuple #[.int .i64 0, .string s, .int .i64 er]) (by simp [results, Tryz.results22, go_sem]) rfl ⟨0, s, er, rfl, hQ.out⟩
set_option maxRecDepth 100000 in
set_option maxHeartbeats 8000000 in
theorem does_Write (o : Opr) (x y z : Value) (w : World) (Q : Int → ByteArray → Int → World → Prop) (ha : askI o = 7)
    (HC : Calls Tryz.prog 11 #[z, .int .i64 o.id, .string o.d] ((w.alloc (woO x y z)).alloc (opO o)) fun e w' => ∃ er : Int, e = .returned (.int .i64 er) ∧ Q 0 ⟨#[]⟩ er w') :
    Calls Tryz.prog 22 #[worldV x y z, opA o] w fun e w' => ∃ (n : Int) (s : ByteArray) (er : Int), e = .returned (.tuple #[.int .i64 n, .string s, .int .i64 er]) ∧ Q n s er w' := by
  have S1 := (((Sat.start w).alloc (woO x y z)).alloc (opO o))
  obtain ⟨e0, e1, e2, e3, e4, e5, e6, e7⟩ := op_at S1
  obtain ⟨c0, c1, c2⟩ := wo_cells (S1.perm (show _ = pts w.heap.size (woO x y z) * (pts (w.alloc (woO x y z)).heap.size (opO o) * keep w) by ac_rfl))
  rw [World.size_alloc] at e0 e1 e2 e3 e4 e5 e6 e7
  obtain ⟨w2, hw2⟩ : ∃ w2, w2 = (w.alloc (woO x y z)).alloc (opO o) := ⟨_, rfl⟩
  rw [← hw2] at HC e0 e1 e2 e3 e4 e5 e6 e7 c0 c1 c2
  have hke := kind_eq o
  have b0 : ((wrap64 (o.ask.tmod 8 + 8)).tmod 8 == 0) = false := by rw [hke, ha]; rfl
  have b1 : ((wrap64 (o.ask.tmod 8 + 8)).tmod 8 == 1) = false := by rw [hke, ha]; rfl
  have b2 : ((wrap64 (o.ask.tmod 8 + 8)).tmod 8 == 2) = false := by rw [hke, ha]; rfl
  have b3 : ((wrap64 (o.ask.tmod 8 + 8)).tmod 8 == 3) = false := by rw [hke, ha]; rfl
  have b4 : ((wrap64 (o.ask.tmod 8 + 8)).tmod 8 == 4) = false := by rw [hke, ha]; rfl
  have b5 : ((wrap64 (o.ask.tmod 8 + 8)).tmod 8 == 5) = false := by rw [hke, ha]; rfl
  have b6 : ((wrap64 (o.ask.tmod 8 + 8)).tmod 8 == 6) = false := by rw [hke, ha]; rfl
  have HC := Lib.hid HC
  obtain ⟨oa, oi, on, om, ⟨mr, mw, mm⟩, od⟩ := o
  dsimp only at *
  clear hke ha S1
  go_enter Tryz.func22, Tryz.ntmps22
  go_upto_region 1 with fail
  rw [← hw2]
  clear hw2
  go_wp2_with fail
  refine HC.out.mono ?_
  rintro e w3 ⟨er, rfl, hQ⟩
  have hQ := Lib.hid hQ
  clear HC c0 c1 c2 e0 e1 e2 e3 e4 e5 e6 e7
  go_wp2_with fail
  exact bodyPost_ret (v := .tuple #[.int .i64 0, .string ⟨#[]⟩, .int .i64 er]) (by simp [results, Tryz.results22, go_sem]) rfl ⟨0, ⟨#[]⟩, er, rfl, hQ.out⟩
end Go.Proofs.YtljlpkeddbfpaaaGreatDoor.Hd

namespace Go.Proofs.YtljlpkeddbfpaaaGreatDoor.Hd
open Go.RowKit Go.Maps Go.Proofs.YtljlpkeddbfpaaaGreatDoor Go.Proofs.YtljlpkeddbfpaaaGreatDoor.Hp
set_option linter.unusedVariables false

section
variable {α : Type}
def sumA (f : α → Nat) : List (Int × α) → Nat
  | [] => 0
  | p :: l => f p.2 + sumA f l
theorem sumA_get (f : α → Nat) : ∀ (L : List (Int × α)) (k : Int) (x : α), findA L k = some x → sumA f L = f x + sumA f (delA L k)
  | [], _, _, h => by cases h
  | p :: L, k, x, h => by
    unfold findA at h
    by_cases e : p.1 = k
    · rw [if_pos e] at h
      injection h with h
      unfold delA; rw [if_pos e, ← h]; rfl
    · rw [if_neg e] at h
      unfold delA; rw [if_neg e]
      show f p.2 + sumA f L = f x + (f p.2 + sumA f (delA L k))
      rw [sumA_get f L k x h]; omega
theorem sumA_upd (f : α → Nat) : ∀ (L : List (Int × α)) (k : Int) (x y : α), findA L k = some x → sumA f (updA L k y) = f y + sumA f (delA L k)
  | [], _, _, _, h => by cases h
  | p :: L, k, x, y, h => by
    unfold findA at h
    by_cases e : p.1 = k
    · rw [if_pos e] at h
      unfold delA updA; rw [if_pos e, if_pos e]; rfl
    · rw [if_neg e] at h
      unfold delA updA; rw [if_neg e, if_neg e]
      show f p.2 + sumA f (updA L k y) = f y + (f p.2 + sumA f (delA L k))
      rw [sumA_upd f L k x y h]; omega
end
/-- A pipe: its buffer, its count of ends, where its bytes begin, its bytes, which ends there are. -/
structure Pp where
  bb : Nat
  eb : Nat
  frm : Nat
  data : List UInt8
  rd : Bool
  wr : Bool
abbrev PL := List (Int × Pp)
def Pp.ends (p : Pp) : Nat := p.rd.toNat + p.wr.toNat
def Pp.use (p : Pp) : Nat := Spill.cl 3 4 (p.frm + p.data.length) - Spill.gn 3 4 p.frm
def Pp.len (p : Pp) : Nat := p.data.length
def pipeHp (bp : Nat) (p : Pp) : Hp := Spill.bufX p.bb bp 3 4 p.frm p.data * pts p.eb (ebO (p.ends : Int))
def snkT : Th → Hp
  | .sink sp q cap l most => bufHp q cap l
  | _ => emp
/-- The world's state. -/
structure Sg where
  F : Fs
  L : HL
  n : Nat
  P : PL
  tot : Nat
/-- Where it lies. -/
structure Pls where
  fb : Nat
  mb : Nat
  tb : Nat
  hm : Nat
  bp : Nat
def pipesHp (c : Pls) (P : PL) : Hp := all (fun p : Int × Pp => pipeHp c.bp p.2) P
def snksHp (L : HL) : Hp := all (fun p : Int × Hn => snkT p.2.t) L
def poolHp (c : Pls) (P : PL) (tot : Nat) : Hp := Spill.poolX c.bp 40 3 4 (sumA Pp.len P) (sumA Pp.use P) P.length tot
def SgHp (c : Pls) (σ : Sg) : Hp := fsHp c.fb c.mb σ.F * (tabHp c.tb c.fb c.bp c.hm σ.L σ.n * (poolHp c σ.P σ.tot * (pipesHp c σ.P * snksHp σ.L)))
theorem snks_upd {L : HL} {k : Int} {y y' : Hn} (h : findA L k = some y) (h1 : snkT y.t = emp) (h2 : snkT y'.t = emp) : snksHp (updA L k y') = snksHp L := by
  obtain ⟨X, e1, e2, _⟩ := focusA (fun x : Hn => snkT x.t) L k y h
  unfold snksHp
  rw [e2 y', e1]
  rw [h1, h2]
theorem snks_same {L : HL} {k : Int} {y y' : Hn} (h : findA L k = some y) (h1 : y'.t = y.t) : snksHp (updA L k y') = snksHp L := by
  obtain ⟨X, e1, e2, _⟩ := focusA (fun x : Hn => snkT x.t) L k y h
  unfold snksHp
  rw [e2 y', e1]
  rw [h1]
theorem snks_del {L : HL} {k : Int} {y : Hn} (h : findA L k = some y) (h1 : snkT y.t = emp) : snksHp (delA L k) = snksHp L := by
  obtain ⟨X, e1, _, e3⟩ := focusA (fun x : Hn => snkT x.t) L k y h
  unfold snksHp
  rw [e3, e1]
  rw [h1, emp_sep]
theorem snks_cons (L : HL) (k : Int) (y : Hn) (h1 : snkT y.t = emp) : snksHp ((k, y) :: L) = snksHp L := by
  show snkT y.t * snksHp L = _
  rw [h1, emp_sep]
def readable : Th → Bool
  | .file _ _ m => m.r
  | .text _ _ => true
  | .reader _ _ => true
  | .writer _ _ => false
  | .sink .. => false
def writable : Th → Bool
  | .file _ _ m => m.w
  | .text _ _ => false
  | .reader _ _ => false
  | .writer _ _ => true
  | .sink .. => true
abbrev nilB : ByteArray := ⟨#[]⟩
/-- The pipes when an end is gone. -/
def closeR (P : PL) (bb : Nat) (p : Pp) : PL := if p.wr = true then updA P (bb : Int) { p with rd := false } else delA P (bb : Int)
def closeW (P : PL) (bb : Nat) (p : Pp) : PL := if p.rd = true then updA P (bb : Int) { p with wr := false } else delA P (bb : Int)
/-- What a call does: what it answers, and the state behind it. -/
inductive Step (s : Sg) (o : Opr) : Int → ByteArray → Int → Sg → Prop
  | file_no : askI o = 0 → fileE s.F o.node o.m ≠ 0 → Step s o 0 nilB (fileE s.F o.node o.m) s
  | file_ok (x : Nd) (g hb xb : Nat) : askI o = 0 → find s.F.L o.node = some x → x.kind = 2 → (o.m.r = true ∨ o.m.w = true) → Free s.L g → Step s o g nilB 0 { s with F := holdP s.F o.node, L := ((g : Int), ⟨hb, 1, xb, .file o.node 0 o.m⟩) :: s.L, n := s.n + 1 }
  | text (g hb xb : Nat) : askI o = 1 → Free s.L g → Step s o g nilB 0 { s with L := ((g : Int), ⟨hb, 1, xb, .text o.d 0⟩) :: s.L, n := s.n + 1 }
  | sink_no : askI o = 2 → (o.n < 0 ∨ 1048576 < o.n) → Step s o 0 nilB 1 s
  | sink_ok (most g hb xb : Nat) : askI o = 2 → o.n = (most : Int) → most ≤ 1048576 → Free s.L g → Step s o g nilB 0 { s with L := ((g : Int), ⟨hb, 1, xb, .sink none none 0 [] most⟩) :: s.L, n := s.n + 1 }
  | pipe (g1 g2 h1 x1 h2 x2 bb eb : Nat) : askI o = 3 → Free s.L g1 → (∀ y, Free (((g1 : Int), y) :: s.L) g2) → findA s.P (bb : Int) = none →
      Step s o (100 * (g1 : Int) + (g2 : Int)) nilB 0 { s with L := ((g2 : Int), ⟨h2, 1, x2, .writer bb eb⟩) :: ((g1 : Int), ⟨h1, 1, x1, .reader bb eb⟩) :: s.L, n := s.n + 2, P := ((bb : Int), ⟨bb, eb, 0, [], true, true⟩) :: s.P }
  | ref_no : askI o = 4 → findA s.L o.id = none → Step s o 0 nilB 18 s
  | ref_ok (y : Hn) : askI o = 4 → findA s.L o.id = some y → Step s o 0 nilB 0 { s with L := updA s.L o.id { y with refs := y.refs + 1 } }
  | unref_no : askI o = 5 → findA s.L o.id = none → Step s o 0 nilB 18 s
  | unref_more (y : Hn) : askI o = 5 → findA s.L o.id = some y → 2 ≤ y.refs → Step s o 0 nilB 0 { s with L := updA s.L o.id { y with refs := y.refs - 1 } }
  | unref_file (y : Hn) (k : Int) (a : Nat) (m : Md) : askI o = 5 → findA s.L o.id = some y → y.refs = 1 → y.t = .file k a m → Step s o 0 nilB 0 { s with F := dropP s.F k, L := delA s.L o.id }
  | unref_text (y : Hn) (t : ByteArray) (a : Nat) : askI o = 5 → findA s.L o.id = some y → y.refs = 1 → y.t = .text t a → Step s o 0 nilB 0 { s with L := delA s.L o.id }
  | unref_sink (y : Hn) (sp q : Option Addr) (cap : Nat) (l : List UInt8) (most : Nat) : askI o = 5 → findA s.L o.id = some y → y.refs = 1 → y.t = .sink sp q cap l most → Step s o 0 nilB 0 { s with L := delA s.L o.id }
  | unref_reader (y : Hn) (bb eb : Nat) (p : Pp) : askI o = 5 → findA s.L o.id = some y → y.refs = 1 → y.t = .reader bb eb → findA s.P (bb : Int) = some p → Step s o 0 nilB 0 { s with L := delA s.L o.id, P := closeR s.P bb p }
  | unref_writer (y : Hn) (bb eb : Nat) (p : Pp) : askI o = 5 → findA s.L o.id = some y → y.refs = 1 → y.t = .writer bb eb → findA s.P (bb : Int) = some p → Step s o 0 nilB 0 { s with L := delA s.L o.id, P := closeW s.P bb p }
  | read_no : askI o = 6 → findA s.L o.id = none → Step s o 0 nilB 18 s
  | read_mode (y : Hn) : askI o = 6 → findA s.L o.id = some y → readable y.t = false → Step s o 0 nilB 19 s
  | read_neg (y : Hn) : askI o = 6 → findA s.L o.id = some y → readable y.t = true → o.n < 0 → Step s o 0 nilB 1 s
  | read_file (y : Hn) (k : Int) (a q : Nat) (m : Md) (x : Nd) : askI o = 6 → findA s.L o.id = some y → y.t = .file k a m → m.r = true → o.n = (q : Int) → find s.F.L k = some x →
      Step s o 0 (readB x.text a q) 0 { s with L := updA s.L o.id { y with t := .file k (a + (readB x.text a q).size) m } }
  | read_text (y : Hn) (t : ByteArray) (a q : Nat) : askI o = 6 → findA s.L o.id = some y → y.t = .text t a → o.n = (q : Int) →
      Step s o 0 (readB t a q) 0 { s with L := updA s.L o.id { y with t := .text t (a + (readB t a q).size) } }
  | read_pipe (y : Hn) (bb eb q : Nat) (p : Pp) : askI o = 6 → findA s.L o.id = some y → y.t = .reader bb eb → o.n = (q : Int) → findA s.P (bb : Int) = some p →
      Step s o 0 ⟨(p.data.take (min q p.data.length)).toArray⟩ 0 { s with P := updA s.P (bb : Int) { p with frm := p.frm + min q p.data.length, data := p.data.drop (min q p.data.length) } }
  | write_no : askI o = 7 → findA s.L o.id = none → Step s o 0 nilB 18 s
  | write_mode (y : Hn) : askI o = 7 → findA s.L o.id = some y → writable y.t = false → Step s o 0 nilB 19 s
  | write_file (y : Hn) (k : Int) (a : Nat) (m : Md) (x : Nd) : askI o = 7 → findA s.L o.id = some y → y.t = .file k a m → m.w = true → find s.F.L k = some x →
      Step s o 0 nilB (writeP s.F k x (atW x a m) o.d).1 { s with F := (writeP s.F k x (atW x a m) o.d).2, L := updA s.L o.id { y with t := .file k (atN s.F k x a m o.d) m } }
  | write_sink (y : Hn) (sp q sp' q' : Option Addr) (cap cap' : Nat) (l : List UInt8) (most : Nat) : askI o = 7 → findA s.L o.id = some y → y.t = .sink sp q cap l most → SpOk sp' y.xb →
      Step s o 0 nilB (skE l.length most o.d.size) { s with L := updA s.L o.id { y with t := .sink sp' q' cap' (skL l most o.d) most } }
  | write_full (y : Hn) (bb eb : Nat) (p : Pp) : askI o = 7 → findA s.L o.id = some y → y.t = .writer bb eb → findA s.P (bb : Int) = some p → 40 < sumA Pp.len s.P + o.d.size → Step s o 0 nilB 41 s
  | write_pipe (y : Hn) (bb eb : Nat) (p : Pp) : askI o = 7 → findA s.L o.id = some y → y.t = .writer bb eb → findA s.P (bb : Int) = some p → sumA Pp.len s.P + o.d.size ≤ 40 →
      Step s o 0 nilB 0 { s with P := updA s.P (bb : Int) { p with data := p.data ++ bs o.d }, tot := s.tot + o.d.size }
/-- What is true of the tree. -/
structure TreeOk (F : Fs) : Prop where
  ok : FsOk F
  only : ∀ j : Int, (find F.L j).isSome = true ↔ 1 ≤ j ∧ j < 6
  files : ∀ (j : Int) (x : Nd), find F.L j = some x → (x.kind = 2 ↔ j = 2 ∨ j = 3)
  kids : ∀ (j : Int) (x : Nd), find F.L j = some x → x.kind = 2 → x.kids = none ∧ 1 ≤ x.names
  kinds : ∀ (j : Int) (x : Nd), find F.L j = some x → x.kind = 1 ∨ x.kind = 2 ∨ x.kind = 3
  room : F.room = 60
  used : 0 ≤ F.used ∧ F.used ≤ 60
  text : ∀ (j : Int) (x : Nd), find F.L j = some x → x.text.size ≤ 4096
/-- What is true of a handle. -/
def ThOk (P : PL) (x : Hn) : Prop := match x.t with
  | .file k a m => (k = 2 ∨ k = 3) ∧ a ≤ 8192 ∧ (m.r = true ∨ m.w = true)
  | .text s a => a ≤ s.size ∧ s.size ≤ 100
  | .sink sp q cap l most => SpOk sp x.xb ∧ l.length ≤ most ∧ most ≤ 1048576
  | .reader bb eb => ∃ p, findA P (bb : Int) = some p ∧ p.eb = eb ∧ p.rd = true
  | .writer bb eb => ∃ p, findA P (bb : Int) = some p ∧ p.eb = eb ∧ p.wr = true
def cF (k : Int) (x : Hn) : Nat := match x.t with
  | .file j _ _ => if j = k then 1 else 0
  | _ => 0
def cR (x : Hn) : Nat := match x.t with
  | .reader .. => 1
  | _ => 0
def cW (x : Hn) : Nat := match x.t with
  | .writer .. => 1
  | _ => 0
/-- What is true behind N calls. -/
structure Inv (N : Nat) (s : Sg) : Prop where
  tree : TreeOk s.F
  nd : NodupK s.L
  ids : ∀ k x, findA s.L k = some x → 1 ≤ k ∧ k ≤ 2 * (N : Int) + 2
  refs : ∀ k x, findA s.L k = some x → 1 ≤ x.refs ∧ x.refs ≤ (N : Int) + 1
  th : ∀ k x, findA s.L k = some x → ThOk s.P x
  oneR : ∀ j k x y bb e1 e2, findA s.L j = some x → findA s.L k = some y → x.t = .reader bb e1 → y.t = .reader bb e2 → j = k
  oneW : ∀ j k x y bb e1 e2, findA s.L j = some x → findA s.L k = some y → x.t = .writer bb e1 → y.t = .writer bb e2 → j = k
  nR : sumA cR s.L = sumA (fun p : Pp => p.rd.toNat) s.P
  nW : sumA cW s.L = sumA (fun p : Pp => p.wr.toNat) s.P
  pnd : (s.P.map Prod.fst).Nodup
  pk : ∀ k p, findA s.P k = some p → k = (p.bb : Int) ∧ (p.rd = true ∨ p.wr = true) ∧ p.frm + p.data.length ≤ s.tot
  holds : ∀ k x, find s.F.L k = some x → x.holds = (sumA (cF k) s.L : Int)
  lenL : s.L.length ≤ 2 * N
  lenN : s.n ≤ 2 * N
  lenP : s.P.length ≤ N
  held : sumA Pp.len s.P ≤ 40
  tot : s.tot ≤ 100 * N
/-- What an operation leaves. -/
def After (c : Pls) (s : Sg) (o : Opr) (w : World) (R : Hp) (n : Int) (t : ByteArray) (er : Int) (w' : World) : Prop :=
  ∃ s', Step s o n t er s' ∧ Sat w' (SgHp c s' * R) ∧ Ran w w'
end Go.Proofs.YtljlpkeddbfpaaaGreatDoor.Hd

