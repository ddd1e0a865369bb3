/- HandlesRow: what is read, one behind the other, of a file, of a text and of a pipe is what stands in it; a sink has what was written. (printed by gen_hdro.py) -/
import Derived.Test.YtljlpkeddbfpaaaGreatDoorHdRp
import Derived.Test.YtljlpkeddbfpaaaGreatDoorTie
import Derived.Test.YtljlpkeddbfpaaaGreatDoorCards
import Derived.SevenTiedAt
import Derived.Stop.Joined
namespace Go.Proofs.YtljlpkeddbfpaaaGreatDoor.handlesRow
open Go.ChangeShapes Go.WideShapes Go.ChangeAt Go.RowKit Go.Proofs.YtljlpkeddbfpaaaGreatDoor Go.Proofs.YtljlpkeddbfpaaaGreatDoor.Hp Go.Proofs.YtljlpkeddbfpaaaGreatDoor.Hd Go.ChangeMaps
set_option linter.unusedVariables false
attribute [local go_sem] Oper.semAt_some

theorem fin_true {W w1 w2 : World} (h1 : Ran W w1) (hs : Sat w2 (keep W)) (h2 : Ran w1 w2) : Below W.heap.size W w2 := Ran.whole' (Below.trans h1 h2) hs
abbrev arO (x y z : ByteArray) : Obj := .cells #[.string x, .string y, .string z] 48 (0, 0)
theorem ar_cells {w : World} {b : Nat} {x y z : ByteArray} {S : Hp} (h : Sat w (pts b (arO x y z) * S)) : w.cell? ⟨b, 0, none⟩ = some (.string x) ∧ w.cell? ⟨b, 1, none⟩ = some (.string y) ∧ w.cell? ⟨b, 2, none⟩ = some (.string z) := by
  have hb := h.get
  refine ⟨?_, ?_, ?_⟩ <;> rw [cell_at hb] <;> rfl
/-- What stays. -/
structure Cf where
  fb : Nat
  mb : Nat
  tb : Nat
  hm : Nat
  bp : Nat
  F : Fs
  b2 : Nat
  h1 : Nat
  x1 : Nat
  h2 : Nat
  x2 : Nat
  h3 : Nat
  x3 : Nat
  h4 : Nat
  x4 : Nat
  h5 : Nat
  x5 : Nat
  bb : Nat
  eb : Nat
  wb : Nat
  s : ByteArray
  m : Nat
/-- What turns. -/
structure Dy where
  a1 : Nat
  a2 : Nat
  a3 : Nat
  sp : Option Addr
  q : Option Addr
  cap : Nat
  l : List UInt8
def LR (c : Cf) (d : Dy) : HL := [((5 : Int), ⟨c.h5, 1, c.x5, .sink d.sp d.q d.cap d.l c.m⟩), ((4 : Int), ⟨c.h4, 1, c.x4, .writer c.bb c.eb⟩), ((3 : Int), ⟨c.h3, 1, c.x3, .reader c.bb c.eb⟩), ((2 : Int), ⟨c.h2, 1, c.x2, .text c.s d.a2⟩), ((1 : Int), ⟨c.h1, 2, c.x1, .file 2 d.a1 ⟨true, false, false⟩⟩)]
structure CfOk (c : Cf) : Prop where
  ok : FsOk c.F
  at2 : find c.F.L 2 = some ⟨c.b2, 2, c.s, none, 0, 1, 1⟩
  s30 : c.s.size ≤ 30
  m100 : c.m ≤ 100
structure DyOk (c : Cf) (d : Dy) : Prop where
  p1 : d.a1 ≤ c.s.size
  p2 : d.a2 ≤ c.s.size
  p3 : d.a3 ≤ c.s.size
  sp : SpOk d.sp c.x5
  l : d.l.length ≤ c.m
def poolR (c : Cf) (d : Dy) : Hp := Spill.poolX c.bp 40 3 4 (c.s.size - d.a3) (0 + (Spill.cl 3 4 (d.a3 + ((bs c.s).drop d.a3).length) - Spill.gn 3 4 d.a3)) 1 c.s.size
def bufR (c : Cf) (d : Dy) : Hp := Spill.bufX c.bb c.bp 3 4 d.a3 ((bs c.s).drop d.a3)
def StR (c : Cf) (d : Dy) (R : Hp) (w : World) : Prop :=
  Sat w (fsHp c.fb c.mb c.F * (tabHp c.tb c.fb c.bp c.hm (LR c d) 5 * (poolR c d * (bufR c d * (bufHp d.q d.cap d.l * (pts c.eb (ebO 2) * (pts c.wb (wdO c.fb c.bp c.tb) * R)))))))
theorem StR.wo {c : Cf} {d : Dy} {R : Hp} {w : World} (h : StR c d R w) : w.cell? ⟨c.wb, 2, none⟩ = some (pp c.tb) :=
  (wo_cells (h.perm (show _ = pts c.wb (wdO c.fb c.bp c.tb) * (fsHp c.fb c.mb c.F * (tabHp c.tb c.fb c.bp c.hm (LR c d) 5 * (poolR c d * (bufR c d * (bufHp d.q d.cap d.l * (pts c.eb (ebO 2) * R)))))) by ac_rfl))).2.2
theorem StR.rest {c : Cf} {d : Dy} {R : Hp} {w : World} (h : StR c d R w) : Sat w R :=
  (h.perm (show _ = (fsHp c.fb c.mb c.F * (tabHp c.tb c.fb c.bp c.hm (LR c d) 5 * (poolR c d * (bufR c d * (bufHp d.q d.cap d.l * (pts c.eb (ebO 2) * pts c.wb (wdO c.fb c.bp c.tb))))))) * R by ac_rfl)).right
theorem StR.part {c : Cf} {d : Dy} {R R' : Hp} {w w' : World} (h : StR c d R w) (k : ∀ X : Hp, Sat w (R * X) → Sat w' (R' * X)) : StR c d R' w' :=
  (k _ (h.perm (show _ = R * (fsHp c.fb c.mb c.F * (tabHp c.tb c.fb c.bp c.hm (LR c d) 5 * (poolR c d * (bufR c d * (bufHp d.q d.cap d.l * (pts c.eb (ebO 2) * pts c.wb (wdO c.fb c.bp c.tb))))))) by ac_rfl))).perm (by unfold poolR bufR; ac_rfl)
theorem StR.drew {c : Cf} {d : Dy} {R : Hp} {w : World} (h : StR c d R w) : StR c d R w.drew := Sat.drew h
theorem read1 (c : Cf) (d : Dy) (hc : CfOk c) (hd : DyOk c d) (n : Nat) (hn : n ≤ 1000) (w : World) (R : Hp) (h : StR c d R w) :
    Calls Tryz.prog 19 #[pp c.tb, .int .i64 1, .int .i64 (n : Int)] w fun e w' => (e = .returned (.tuple #[.string (readB c.s d.a1 n), .int .i64 0]) ∧ StR c { d with a1 := d.a1 + rN c.s d.a1 n } R w') ∧ Ran w w' := by
  have hp := hd.p1
  have hs := hc.s30
  have := TRead_file c.tb c.fb c.mb c.bp c.hm 5 c.F (LR c d) 1 2 _ d.a1 ⟨true, false, false⟩ ⟨c.b2, 2, c.s, none, 0, 1, 1⟩ n (by unfold I64; omega) rfl rfl rfl (by unfold I64; omega) (by omega) (by omega) hc.ok hc.at2 (by show (2 : Int) ≠ 1; decide) w _ h
  refine this.mono ?_
  rintro e w' ⟨⟨rfl, S⟩, hR⟩
  refine ⟨⟨rfl, ?_⟩, hR⟩
  rw [show (readB (⟨c.b2, 2, c.s, none, 0, 1, 1⟩ : Nd).text d.a1 n).size = rN c.s d.a1 n from read_size c.s d.a1 n hp] at S
  exact S
theorem read2 (c : Cf) (d : Dy) (hc : CfOk c) (hd : DyOk c d) (n : Nat) (hn : n ≤ 1000) (w : World) (R : Hp) (h : StR c d R w) :
    Calls Tryz.prog 19 #[pp c.tb, .int .i64 2, .int .i64 (n : Int)] w fun e w' => (e = .returned (.tuple #[.string (readB c.s d.a2 n), .int .i64 0]) ∧ StR c { d with a2 := d.a2 + rN c.s d.a2 n } R w') ∧ Ran w w' := by
  have hp := hd.p2
  have hs := hc.s30
  have := TRead_text c.tb c.fb c.bp c.hm 5 (LR c d) 2 _ c.s d.a2 n (by unfold I64; omega) rfl rfl hp (by omega) (by omega) w _ (h.perm (show _ = tabHp c.tb c.fb c.bp c.hm (LR c d) 5 * (fsHp c.fb c.mb c.F * (poolR c d * (bufR c d * (bufHp d.q d.cap d.l * (pts c.eb (ebO 2) * (pts c.wb (wdO c.fb c.bp c.tb) * R)))))) by ac_rfl))
  refine this.mono ?_
  rintro e w' ⟨⟨rfl, S⟩, hR⟩
  refine ⟨⟨rfl, ?_⟩, hR⟩
  rw [read_size c.s d.a2 n hp] at S
  exact S.perm (show tabHp c.tb c.fb c.bp c.hm (LR c { d with a2 := d.a2 + rN c.s d.a2 n }) 5 * (fsHp c.fb c.mb c.F * (poolR c d * (bufR c d * (bufHp d.q d.cap d.l * (pts c.eb (ebO 2) * (pts c.wb (wdO c.fb c.bp c.tb) * R)))))) = fsHp c.fb c.mb c.F * (tabHp c.tb c.fb c.bp c.hm (LR c { d with a2 := d.a2 + rN c.s d.a2 n }) 5 * (poolR c d * (bufR c d * (bufHp d.q d.cap d.l * (pts c.eb (ebO 2) * (pts c.wb (wdO c.fb c.bp c.tb) * R)))))) by ac_rfl)
theorem read3 (c : Cf) (d : Dy) (hc : CfOk c) (hd : DyOk c d) (n : Nat) (hn : n ≤ 1000) (w : World) (R : Hp) (h : StR c d R w) :
    Calls Tryz.prog 19 #[pp c.tb, .int .i64 3, .int .i64 (n : Int)] w fun e w' => (e = .returned (.tuple #[.string (readB c.s d.a3 n), .int .i64 0]) ∧ StR c { d with a3 := d.a3 + rN c.s d.a3 n } R w') ∧ Ran w w' := by
  have hp := hd.p3
  have hs := hc.s30
  have hdl : ((bs c.s).drop d.a3).length = c.s.size - d.a3 := by rw [List.length_drop, bs_length]
  have := TRead_reader c.tb c.fb c.bp c.hm 5 (c.s.size - d.a3) 0 1 c.s.size d.a3 (LR c d) 3 _ c.bb c.eb ((bs c.s).drop d.a3) n (by unfold I64; omega) rfl rfl (by omega) (by omega) (by omega) (by omega) (by omega) (by omega) w (fsHp c.fb c.mb c.F * (bufHp d.q d.cap d.l * (pts c.eb (ebO 2) * (pts c.wb (wdO c.fb c.bp c.tb) * R)))) (h.perm (show _ = tabHp c.tb c.fb c.bp c.hm (LR c d) 5 * (poolR c d * (bufR c d * (fsHp c.fb c.mb c.F * (bufHp d.q d.cap d.l * (pts c.eb (ebO 2) * (pts c.wb (wdO c.fb c.bp c.tb) * R)))))) by ac_rfl))
  refine this.mono ?_
  rintro e w' ⟨⟨rfl, S⟩, hR⟩
  have hrl := rN_le c.s d.a3 n hp
  rw [read_list c.s d.a3 n hp]
  rw [rN_len c.s d.a3 n, List.drop_drop] at S
  refine ⟨⟨rfl, ?_⟩, hR⟩
  obtain ⟨P2, hP2⟩ : ∃ p, p = d.a3 + rN c.s d.a3 n := ⟨_, rfl⟩
  rw [← hP2] at S ⊢
  have e1 : d.a3 + ((bs c.s).drop d.a3).length = P2 + ((bs c.s).drop P2).length := by rw [hdl, List.length_drop, bs_length]; omega
  rw [e1, show c.s.size - d.a3 - rN c.s d.a3 n = c.s.size - P2 by omega] at S
  have S' : Sat w' (tabHp c.tb c.fb c.bp c.hm (LR c { d with a3 := P2 }) 5 * (poolR c { d with a3 := P2 } * (bufR c { d with a3 := P2 } * (fsHp c.fb c.mb c.F * (bufHp d.q d.cap d.l * (pts c.eb (ebO 2) * (pts c.wb (wdO c.fb c.bp c.tb) * R))))))) := S
  exact S'.perm (show _ = fsHp c.fb c.mb c.F * (tabHp c.tb c.fb c.bp c.hm (LR c { d with a3 := P2 }) 5 * (poolR c { d with a3 := P2 } * (bufR c { d with a3 := P2 } * (bufHp d.q d.cap d.l * (pts c.eb (ebO 2) * (pts c.wb (wdO c.fb c.bp c.tb) * R)))))) by ac_rfl)
theorem write5 (c : Cf) (d : Dy) (hc : CfOk c) (hd : DyOk c d) (x : ByteArray) (hx : x.size ≤ 1000) (w : World) (R : Hp) (h : StR c d R w) :
    Calls Tryz.prog 11 #[pp c.tb, .int .i64 5, .string x] w fun e w' => (e = .returned (.int .i64 (skE d.l.length c.m x.size)) ∧ ∃ sp q cap, SpOk sp c.x5 ∧ StR c { d with sp := sp, q := q, cap := cap, l := skL d.l c.m x } R w') ∧ Ran w w' := by
  have hm := hc.m100
  have := TWrite_sink c.tb c.fb c.bp c.hm 5 (LR c d) 5 ⟨c.h5, 1, c.x5, .sink d.sp d.q d.cap d.l c.m⟩ d.sp d.q d.cap d.l c.m x (by unfold I64; omega) rfl rfl hd.sp hd.l (by omega) (by omega) w _ (h.perm (show _ = tabHp c.tb c.fb c.bp c.hm (LR c d) 5 * (bufHp d.q d.cap d.l * (fsHp c.fb c.mb c.F * (poolR c d * (bufR c d * (pts c.eb (ebO 2) * (pts c.wb (wdO c.fb c.bp c.tb) * R)))))) by ac_rfl))
  refine this.mono ?_
  rintro e w' ⟨⟨rfl, sp, q, cap, hsp, S⟩, hR⟩
  refine ⟨⟨rfl, sp, q, cap, hsp, ?_⟩, hR⟩
  obtain ⟨l2, hl2⟩ : ∃ l2, l2 = skL d.l c.m x := ⟨_, rfl⟩
  rw [← hl2] at S ⊢
  have S' : Sat w' (tabHp c.tb c.fb c.bp c.hm (LR c { d with sp := sp, q := q, cap := cap, l := l2 }) 5 * (bufHp q cap l2 * (fsHp c.fb c.mb c.F * (poolR c d * (bufR c d * (pts c.eb (ebO 2) * (pts c.wb (wdO c.fb c.bp c.tb) * R))))))) := S
  exact S'.perm (show _ = fsHp c.fb c.mb c.F * (tabHp c.tb c.fb c.bp c.hm (LR c { d with sp := sp, q := q, cap := cap, l := l2 }) 5 * (poolR c d * (bufR c d * (bufHp q cap l2 * (pts c.eb (ebO 2) * (pts c.wb (wdO c.fb c.bp c.tb) * R)))))) by ac_rfl)
theorem seen5 (c : Cf) (d : Dy) (hc : CfOk c) (hd : DyOk c d) (w : World) (R : Hp) (h : StR c d R w) :
    Calls Tryz.prog 20 #[pp c.tb, .int .i64 5] w fun e w' => (e = .returned (.tuple #[.string ⟨d.l.toArray⟩, .int .i64 0]) ∧ StR c d R w') ∧ Ran w w' := by
  have hm := hc.m100
  have hl := hd.l
  have := Seen_sink c.tb c.fb c.bp c.hm 5 (LR c d) 5 ⟨c.h5, 1, c.x5, .sink d.sp d.q d.cap d.l c.m⟩ d.sp d.q d.cap d.l c.m (by unfold I64; omega) rfl rfl (by omega) w _ (h.perm (show _ = tabHp c.tb c.fb c.bp c.hm (LR c d) 5 * (bufHp d.q d.cap d.l * (fsHp c.fb c.mb c.F * (poolR c d * (bufR c d * (pts c.eb (ebO 2) * (pts c.wb (wdO c.fb c.bp c.tb) * R)))))) by ac_rfl))
  refine this.mono ?_
  rintro e w' ⟨⟨rfl, S⟩, hR⟩
  exact ⟨⟨rfl, S.perm (by unfold poolR bufR; ac_rfl)⟩, hR⟩
/-- A round of the loop: all three stand at one place. -/
def Rel (c : Cf) (ab : Nat) (W : World) (l : List Int) (g : Nat) (v18 v20 : Value) (wr : World) : Prop :=
  ∃ (i P : Nat) (d : Dy), v20 = .int .i64 (i : Int) ∧ i + g = l.length ∧ v18 = .string ⟨d.l.toArray⟩ ∧ d.a1 = P ∧ d.a2 = P ∧ d.a3 = P ∧ DyOk c d ∧
    StR c d (pts ab (arO (c.s.extract 0 P) (c.s.extract 0 P) (c.s.extract 0 P)) * keep W) wr ∧ Ran W wr
set_option maxRecDepth 100000 in
set_option maxHeartbeats 16000000 in
theorem walk (s : ByteArray) (ao : Option Addr) (cap : Nat) (l : List Int) (most : Int) (W : World) (hs : s.size ≤ 9223372036854775807) (hl : IntsAt W ao l) (hm : I64 most) :
    Calls Tryz.prog 4 #[.string s, .slice ao l.length cap, .int .i64 most] W fun e w' => e = .returned (.bool true) ∧ Below W.heap.size W w' := by
  have HA := Lib.hid (fun w hw => awake_calls w (keep W) hw)
  have HL := Lib.hid hl
  clear hl
  obtain ⟨hm1, hm2⟩ := hm
  have hsI : (s.size : Int) ≤ 9223372036854775807 := by omega
  have hs0 : (0 : Int) ≤ (s.size : Int) := by omega
  by_cases c1 : 30 < s.size
  · have c1I : (30 : Int) < (s.size : Int) := by omega
    go_enter Tryz.func4, Tryz.ntmps4
    have hA := Lib.hid (HA.out W (Sat.start W))
    skip
    go_wp2_with fail
    refine hA.out.mono ?_
    rintro e w9 ⟨⟨rfl, h2⟩, h3⟩
    have h2 := Lib.hid h2
    have h3 := Lib.hid h3
    clear hA
    go_wp2_with fail
    go_ret
    exact ⟨rfl, fin_true (Below.refl 0 W) h2.out h3.out⟩
  have c1I : (s.size : Int) ≤ 30 := by omega
  by_cases c2 : 40 < l.length
  · have c2I : (40 : Int) < (l.length : Int) := by omega
    go_enter Tryz.func4, Tryz.ntmps4
    have hA := Lib.hid (HA.out W (Sat.start W))
    skip
    go_wp2_with fail
    refine hA.out.mono ?_
    rintro e w9 ⟨⟨rfl, h2⟩, h3⟩
    have h2 := Lib.hid h2
    have h3 := Lib.hid h3
    clear hA
    go_wp2_with fail
    go_ret
    exact ⟨rfl, fin_true (Below.refl 0 W) h2.out h3.out⟩
  have c2I : (l.length : Int) ≤ 40 := by omega
  by_cases c3 : most < 0
  · skip
    go_enter Tryz.func4, Tryz.ntmps4
    have hA := Lib.hid (HA.out W (Sat.start W))
    skip
    go_wp2_with fail
    refine hA.out.mono ?_
    rintro e w9 ⟨⟨rfl, h2⟩, h3⟩
    have h2 := Lib.hid h2
    have h3 := Lib.hid h3
    clear hA
    go_wp2_with fail
    go_ret
    exact ⟨rfl, fin_true (Below.refl 0 W) h2.out h3.out⟩
  have c3I : (0 : Int) ≤ most := by omega
  by_cases c4 : 100 < most
  · skip
    go_enter Tryz.func4, Tryz.ntmps4
    have hA := Lib.hid (HA.out W (Sat.start W))
    skip
    go_wp2_with fail
    refine hA.out.mono ?_
    rintro e w9 ⟨⟨rfl, h2⟩, h3⟩
    have h2 := Lib.hid h2
    have h3 := Lib.hid h3
    clear hA
    go_wp2_with fail
    go_ret
    exact ⟨rfl, fin_true (Below.refl 0 W) h2.out h3.out⟩
  have c4I : most ≤ 100 := by omega
  obtain ⟨m, rfl⟩ : ∃ m : Nat, most = (m : Int) := ⟨most.toNat, by omega⟩
  have hm100 : m ≤ 100 := by omega
  have hs30 : s.size ≤ 30 := by omega
  have HB := Lib.hid (begun_calls W (keep W) (Sat.start W))
  go_enter Tryz.func4, Tryz.ntmps4
  go_wp2_with fail
  refine HB.out.mono ?_
  rintro e w1 ⟨⟨fb, mb, tb, hm, bp, F, rfl, hF, S1⟩, R1⟩
  clear HB
  obtain ⟨b2, hx⟩ := hF.n2
  obtain ⟨F1, F2, hcut, ok1, hx1, hu1, hr1, hwr, ok2, hx2⟩ := row_tree hF hx s hs30
  have S2 := S1.alloc (wdO fb bp tb)
  have R2 := Lib.hid (Ran.new R1 (wdO fb bp tb))
  obtain ⟨wb, hwb⟩ : ∃ b, b = w1.heap.size := ⟨_, rfl⟩
  obtain ⟨w2, hw2⟩ : ∃ w2, w2 = w1.alloc (wdO fb bp tb) := ⟨_, rfl⟩
  rw [← hwb, ← hw2] at S2
  rw [← hw2] at R2
  obtain ⟨c0, c1, c2⟩ := wo_cells S2
  have HC := Cut_calls fb mb F 2 0 _ (by unfold I64; omega) hF.ok hx rfl (Nat.zero_le _) (by rw [hF.used]; omega) w2 _ (S2.perm (show _ = fsHp fb mb F * (tabHp tb fb bp hm [] 0 * (Spill.poolX bp 40 3 4 0 0 0 0 * (pts wb (wdO fb bp tb) * keep W))) by ac_rfl))
  rw [hcut] at HC
  have HC := Lib.hid HC
  have hok3 : FsOk (holdP F2 2) := by rw [holdP_eq hx2]; exact ok2.put (by rw [hx2]; rfl) ⟨by show s.size ≤ _; omega, Nat.zero_le _, ⟨by show (0 : Int) ≤ 0 + 1; omega, by show (0 : Int) + 1 ≤ 1000000; omega⟩, ⟨by show (0 : Int) ≤ 1; omega, by show (1 : Int) ≤ 1000000; omega⟩⟩
  have hx3 : find (holdP F2 2).L 2 = some ⟨b2, 2, s, none, 0, 1, 1⟩ := by rw [holdP_eq hx2, find_put F2 2 2 _ (by rw [hx2]; rfl), if_pos rfl]; rfl
  have H1 := Lib.hid (And.intro ok1 (And.intro hx1 (And.intro hu1 (And.intro hr1 hwr))))
  have H2 := Lib.hid (And.intro ok2 hx2)
  have H3 := Lib.hid (And.intro hok3 hx3)
  clear S1 R1 S2 hF hx hcut ok1 hx1 hu1 hr1 hwr ok2 hx2 hok3 hx3
  go_upto_region 4 with fail
  rw [← hwb, ← hw2]
  clear hwb hw2
  go_wp2_with fail
  refine HC.out.mono ?_
  rintro e w3 ⟨⟨rfl, S3⟩, R3⟩
  have R3 := Lib.hid (Below.trans R2.out R3)
  have HW := Write_calls fb mb F1 2 0 _ s (by unfold I64; omega) (by omega) (by omega) H1.out.1 H1.out.2.1 rfl H1.out.2.2.1 H1.out.2.2.2.1 w3 _ S3
  rw [H1.out.2.2.2.2] at HW
  dsimp only at HW
  have HW := Lib.hid HW
  clear c0 c1 c2 HC R2
  obtain ⟨c0, c1, c2⟩ := wo_cells (S3.perm (show _ = pts wb (wdO fb bp tb) * (fsHp fb mb F1 * (tabHp tb fb bp hm [] 0 * (Spill.poolX bp 40 3 4 0 0 0 0 * keep W))) by ac_rfl))
  clear S3 H1
  go_wp2_with fail
  refine HW.out.mono ?_
  rintro e w4 ⟨⟨rfl, S4⟩, R4⟩
  have R4 := Lib.hid (Below.trans R3.out R4)
  have HFi := Lib.hid (File_calls tb fb mb bp hm 0 F2 [] 2 ⟨true, false, false⟩ _ 1 (by unfold I64; omega) H2.out.1 H2.out.2 rfl (.inl rfl) free1 (by omega) w4 _ S4)
  clear c0 c1 c2 HW R3
  obtain ⟨c0, c1, c2⟩ := wo_cells (S4.perm (show _ = pts wb (wdO fb bp tb) * (fsHp fb mb F2 * (tabHp tb fb bp hm [] 0 * (Spill.poolX bp 40 3 4 0 0 0 0 * keep W))) by ac_rfl))
  clear S4 H2
  go_wp2_with fail
  refine HFi.out.mono ?_
  rintro e w5 ⟨⟨rfl, h1, x1, S5⟩, R5⟩
  have R5 := Lib.hid (Below.trans R4.out R5)
  obtain ⟨F3, hF3⟩ : ∃ F3, F3 = holdP F2 2 := ⟨_, rfl⟩
  rw [← hF3] at S5 H3
  clear hF3
  have S5 := S5.perm (show _ = tabHp tb fb bp hm [((1 : Int), (⟨h1, 1, x1, .file 2 0 ⟨true, false, false⟩⟩ : Hn))] 1 * (fsHp fb mb F3 * (Spill.poolX bp 40 3 4 0 0 0 0 * (pts wb (wdO fb bp tb) * keep W))) by ac_rfl)
  have HTx := Lib.hid (Text_calls tb fb bp hm 1 _ s 2 (by omega) (free2 _) (by omega) w5 _ S5)
  clear c0 c1 c2 HFi R4
  obtain ⟨c0, c1, c2⟩ := wo_cells (S5.perm (show _ = pts wb (wdO fb bp tb) * (tabHp tb fb bp hm [((1 : Int), (⟨h1, 1, x1, .file 2 0 ⟨true, false, false⟩⟩ : Hn))] 1 * (fsHp fb mb F3 * (Spill.poolX bp 40 3 4 0 0 0 0 * keep W))) by ac_rfl))
  clear S5
  go_wp2_with fail
  refine HTx.out.mono ?_
  rintro e w6 ⟨⟨rfl, h2, x2, S6⟩, R6⟩
  have R6 := Lib.hid (Below.trans R5.out R6)
  have S6 := S6.perm (show _ = tabHp tb fb bp hm [((2 : Int), (⟨h2, 1, x2, .text s 0⟩ : Hn)), ((1 : Int), (⟨h1, 1, x1, .file 2 0 ⟨true, false, false⟩⟩ : Hn))] 2 * (Spill.poolX bp 40 3 4 0 0 0 0 * (fsHp fb mb F3 * (pts wb (wdO fb bp tb) * keep W))) by ac_rfl)
  have HPi := Lib.hid (Pipe_calls tb fb bp hm 2 0 0 0 0 _ 3 4 (free3 _ _) (fun x => free4 _ _ x) (by omega) (by omega) w6 _ S6)
  clear c0 c1 c2 HTx R5
  obtain ⟨c0, c1, c2⟩ := wo_cells (S6.perm (show _ = pts wb (wdO fb bp tb) * (tabHp tb fb bp hm [((2 : Int), (⟨h2, 1, x2, .text s 0⟩ : Hn)), ((1 : Int), (⟨h1, 1, x1, .file 2 0 ⟨true, false, false⟩⟩ : Hn))] 2 * (Spill.poolX bp 40 3 4 0 0 0 0 * (fsHp fb mb F3 * keep W))) by ac_rfl))
  clear S6
  go_wp2_with fail
  refine HPi.out.mono ?_
  rintro e w7 ⟨⟨rfl, bb, eb, h3, x3, h4, x4, S7⟩, R7⟩
  have R7 := Lib.hid (Below.trans R6.out R7)
  have HSi := Lib.hid (Sink_calls tb fb bp hm 4 _ m 5 (by omega) (free5 _ _ _ _) (by omega) w7 _ S7)
  clear c0 c1 c2 HPi R6
  obtain ⟨c0, c1, c2⟩ := wo_cells (S7.perm (show _ = pts wb (wdO fb bp tb) * (tabHp tb fb bp hm [((4 : Int), (⟨h4, 1, x4, .writer bb eb⟩ : Hn)), ((3 : Int), (⟨h3, 1, x3, .reader bb eb⟩ : Hn)), ((2 : Int), (⟨h2, 1, x2, .text s 0⟩ : Hn)), ((1 : Int), (⟨h1, 1, x1, .file 2 0 ⟨true, false, false⟩⟩ : Hn))] 4 * (Spill.poolX bp 40 3 4 0 0 (0 + 1) 0 * (Spill.bufX bb bp 3 4 0 [] * (pts eb (ebO 2) * (fsHp fb mb F3 * keep W))))) by ac_rfl))
  clear S7
  go_wp2_with fail
  refine HSi.out.mono ?_
  rintro e w8 ⟨⟨rfl, h5, x5, S8⟩, R8⟩
  have R8 := Lib.hid (Below.trans R7.out R8)
  have S8 := S8.perm (show _ = tabHp tb fb bp hm [((5 : Int), (⟨h5, 1, x5, .sink none none 0 [] m⟩ : Hn)), ((4 : Int), (⟨h4, 1, x4, .writer bb eb⟩ : Hn)), ((3 : Int), (⟨h3, 1, x3, .reader bb eb⟩ : Hn)), ((2 : Int), (⟨h2, 1, x2, .text s 0⟩ : Hn)), ((1 : Int), (⟨h1, 1, x1, .file 2 0 ⟨true, false, false⟩⟩ : Hn))] 5 * (Spill.poolX bp 40 3 4 0 (0 + (Spill.cl 3 4 (0 + ([] : List UInt8).length) - Spill.gn 3 4 0)) 1 0 * (Spill.bufX bb bp 3 4 0 [] * (bufHp none 0 [] * (fsHp fb mb F3 * (pts eb (ebO 2) * (pts wb (wdO fb bp tb) * keep W)))))) by
    rw [show 0 + (Spill.cl 3 4 (0 + ([] : List UInt8).length) - Spill.gn 3 4 0) = 0 by decide]; ac_rfl)
  have HWr := TWrite_writer tb fb bp hm 5 0 0 1 0 0 _ 4 _ bb eb [] (bs s) (by unfold I64; omega) rfl rfl (by rw [bs_length]; omega) (by simp) (by omega) (by omega) w8 _ S8
  rw [to_bs] at HWr
  have HWr := Lib.hid HWr
  clear c0 c1 c2 HSi R7
  obtain ⟨c0, c1, c2⟩ := wo_cells (S8.perm (show _ = pts wb (wdO fb bp tb) * (tabHp tb fb bp hm [((5 : Int), (⟨h5, 1, x5, .sink none none 0 [] m⟩ : Hn)), ((4 : Int), (⟨h4, 1, x4, .writer bb eb⟩ : Hn)), ((3 : Int), (⟨h3, 1, x3, .reader bb eb⟩ : Hn)), ((2 : Int), (⟨h2, 1, x2, .text s 0⟩ : Hn)), ((1 : Int), (⟨h1, 1, x1, .file 2 0 ⟨true, false, false⟩⟩ : Hn))] 5 * (Spill.poolX bp 40 3 4 0 (0 + (Spill.cl 3 4 (0 + ([] : List UInt8).length) - Spill.gn 3 4 0)) 1 0 * (Spill.bufX bb bp 3 4 0 [] * (bufHp none 0 [] * (fsHp fb mb F3 * (pts eb (ebO 2) * keep W)))))) by ac_rfl))
  clear S8
  go_wp2_with fail
  refine HWr.out.mono ?_
  rintro e w9 ⟨⟨rfl, S9⟩, R9⟩
  have R9 := Lib.hid (Below.trans R8.out R9)
  have HRf := Lib.hid (Ref_calls tb fb bp hm 5 _ 1 ⟨h1, 1, x1, .file 2 0 ⟨true, false, false⟩⟩ (by unfold I64; omega) rfl (by show (0 : Int) ≤ 1; omega) (by show (1 : Int) ≤ 1000000; omega) w9 _ S9)
  clear c0 c1 c2 HWr R8
  obtain ⟨c0, c1, c2⟩ := wo_cells (S9.perm (show _ = pts wb (wdO fb bp tb) * (tabHp tb fb bp hm [((5 : Int), (⟨h5, 1, x5, .sink none none 0 [] m⟩ : Hn)), ((4 : Int), (⟨h4, 1, x4, .writer bb eb⟩ : Hn)), ((3 : Int), (⟨h3, 1, x3, .reader bb eb⟩ : Hn)), ((2 : Int), (⟨h2, 1, x2, .text s 0⟩ : Hn)), ((1 : Int), (⟨h1, 1, x1, .file 2 0 ⟨true, false, false⟩⟩ : Hn))] 5 * (Spill.poolX bp 40 3 4 (0 + (bs s).length) (0 + (Spill.cl 3 4 (0 + ([] ++ bs s).length) - Spill.gn 3 4 0)) 1 (0 + (bs s).length) * (Spill.bufX bb bp 3 4 0 ([] ++ bs s) * (bufHp none 0 [] * (fsHp fb mb F3 * (pts eb (ebO 2) * keep W)))))) by ac_rfl))
  clear S9
  go_wp2_with fail
  refine HRf.out.mono ?_
  rintro e w10 ⟨⟨rfl, S10⟩, R10⟩
  have R10 := Ran.new (Below.trans R9.out R10) (arO ⟨#[]⟩ ⟨#[]⟩ ⟨#[]⟩)
  obtain ⟨c, hc⟩ : ∃ c : Cf, c = ⟨fb, mb, tb, hm, bp, F3, b2, h1, x1, h2, x2, h3, x3, h4, x4, h5, x5, bb, eb, wb, s, m⟩ := ⟨_, rfl⟩
  have HCo : Hid (CfOk c) := Lib.hid (by rw [hc]; exact ⟨H3.out.1, H3.out.2, hs30, hm100⟩)
  have S11 : StR c ⟨0, 0, 0, none, none, 0, []⟩ (keep W) w10 := by
    rw [hc]
    unfold StR poolR bufR
    dsimp only
    rw [List.drop_zero, Nat.sub_zero]
    rw [bs_length, List.nil_append, Nat.zero_add s.size] at S10
    exact S10.perm (show tabHp tb fb bp hm (LR ⟨fb, mb, tb, hm, bp, F3, b2, h1, x1, h2, x2, h3, x3, h4, x4, h5, x5, bb, eb, wb, s, m⟩ ⟨0, 0, 0, none, none, 0, []⟩) 5 * (Spill.poolX bp 40 3 4 s.size (0 + (Spill.cl 3 4 (0 + (bs s).length) - Spill.gn 3 4 0)) 1 s.size * (Spill.bufX bb bp 3 4 0 (bs s) * (bufHp none 0 [] * (fsHp fb mb F3 * (pts eb (ebO 2) * (pts wb (wdO fb bp tb) * keep W)))))) = _ by ac_rfl)
  have S12 : StR c ⟨0, 0, 0, none, none, 0, []⟩ (pts w10.heap.size (arO ⟨#[]⟩ ⟨#[]⟩ ⟨#[]⟩) * keep W) (w10.alloc (arO ⟨#[]⟩ ⟨#[]⟩ ⟨#[]⟩)) := S11.part fun X h => by
    rw [sep_assoc]; exact h.alloc _
  obtain ⟨ab, hab⟩ : ∃ ab, ab = w10.heap.size := ⟨_, rfl⟩
  obtain ⟨w11, hw11⟩ : ∃ w11, w11 = w10.alloc (arO ⟨#[]⟩ ⟨#[]⟩ ⟨#[]⟩) := ⟨_, rfl⟩
  rw [← hab, ← hw11] at S12
  rw [← hw11] at R10
  have hcs : c.s = s := by rw [hc]
  have hcm : c.m = m := by rw [hc]
  have hctb : c.tb = tb := by rw [hc]
  have hcwb : c.wb = wb := by rw [hc]
  have HS := Lib.hid S12
  have HR := Lib.hid R10
  clear c0 c1 c2 HRf R9 S10 S11 S12 R10 H3 hc
  subst hcs
  subst hcm
  subst hctb
  subst hcwb
  go_upto_region 14 with fail
  rw [← hab, ← hw11]
  clear hab hw11
  go_wp2_with fail
  go_loopg [18, 20, 21, 22, 23, 24, 25, 26, 27, 28] (l.length) (fun (g : Nat) (v18 v20 v21 v22 v23 v24 v25 v26 v27 v28 : Value) (wr : World) => Rel c ab W l g v18 v20 wr)
  case atStart => exact ⟨0, 0, _, rfl, by omega, rfl, rfl, rfl, rfl, ⟨Nat.zero_le _, Nat.zero_le _, Nat.zero_le _, .inl rfl, Nat.zero_le _⟩, by rw [show c.s.extract 0 0 = ⟨#[]⟩ from by apply ba_ext; rw [bs_cut]; rfl]; exact HS.out, HR.out⟩
  case round =>
    clear HS HR
    obtain ⟨i, P, ⟨a1, a2, a3, sp, q, cp, dl⟩, rfl, hgk, rfl, h1, h2, h3, hD, HSi, HRi⟩ := hrel
    dsimp only at h1 h2 h3
    subst h1
    subst h2
    subst h3
    obtain ⟨p1, -, -, hsp, hdl⟩ := hD
    dsimp only at p1 hsp hdl
    obtain ⟨wt, hwt⟩ : ∃ wt : ByteArray, wt = ⟨dl.toArray⟩ := ⟨_, rfl⟩
    have hwz : wt.size = dl.length := by rw [hwt]; rfl
    have Hw0 := Lib.hid hwt
    obtain ⟨A, hA⟩ : ∃ A, A = c.s.extract 0 a3 := ⟨_, rfl⟩
    have hAz : A.size = a3 := by rw [hA]; exact size_cut c.s a3 p1
    rw [← hA] at HSi
    have HD := Lib.hid (And.intro hsp hdl)
    clear hsp
    dsimp only
    rw [← hwt]
    clear hwt
    by_cases hlt : i < l.length
    · have hltI : (i : Int) < (l.length : Int) := by omega
      have hi0 : (0 : Int) ≤ (i : Int) := by omega
      obtain ⟨okx, b, o, rfl, hbW, o0⟩ := HL.out i hlt
      obtain ⟨x, hx⟩ : ∃ x, x = l[i] := ⟨_, rfl⟩
      rw [← hx] at okx o0
      have o0 := (World.cell?_of_block (w := W) (HSi.rest.right.kept b hbW)).trans o0
      have hke := seven_eq x
      obtain ⟨n, hn⟩ : ∃ n : Nat, x % 7 = (n : Int) := ⟨(x % 7).toNat, by omega⟩
      have hn7 : n < 7 := by omega
      rw [hn] at hke
      have c2 := HSi.wo
      obtain ⟨X, hX⟩ : ∃ X, X = readB c.s a3 n := ⟨_, rfl⟩
      obtain ⟨r, hr⟩ : ∃ r, r = rN c.s a3 n := ⟨_, rfl⟩
      have hXz : X.size = r := by rw [hX, hr]; exact read_size c.s a3 n p1
      have hle : a3 + r ≤ c.s.size := by rw [hr]; exact rN_le c.s a3 n p1
      obtain ⟨A2, hA2⟩ : ∃ A2, A2 = c.s.extract 0 (a3 + r) := ⟨_, rfl⟩
      have hj : A ++ X = A2 := by rw [hA, hX, hA2, hr]; exact read_join c.s a3 n p1
      have hA2z : A2.size = a3 + r := by rw [hA2]; exact size_cut c.s _ hle
      have HA2 := Lib.hid hA2
      have hif : ¬ A.size + X.size > 9223372036854775807 := by omega
      have HJ := Lib.hid hj
      have S1 := Lib.hid HSi
      have R1 := Lib.hid HRi
      have HXz := Lib.hid hXz
      have HXr := Lib.hid (And.intro hX hr)
      have hX9 : (X.size : Int) ≤ 9 := by have : r ≤ n := by (rw [hr]; exact Nat.min_le_left _ _)
                                          omega
      clear hx okx hbW HSi HRi hA hA2 hj hn hXz hAz hA2z hX hr
      have HR1 := read1 c ⟨a3, a3, a3, sp, q, cp, dl⟩ HCo.out ⟨p1, p1, p1, HD.out.1, HD.out.2⟩ n (by omega) wr _ S1.out
      rw [← HXr.out.1, ← HXr.out.2] at HR1
      have HR1 := Lib.hid HR1
      go_wp2_with fail
      try rw [hke]
      refine HR1.out.mono ?_
      rintro e w2 ⟨⟨rfl, Z2⟩, Q2⟩
      have S2 : Hid (StR c ⟨(a3 + r), a3, a3, sp, q, cp, dl⟩ (pts ab (arO A A A) * keep W) w2) := Lib.hid Z2
      have R2 := Lib.hid (Below.trans R1.out Q2)
      clear c2 HR1 Z2 Q2 S1 R1
      have c2 := S2.out.wo
      have HR2 := read2 c ⟨(a3 + r), a3, a3, sp, q, cp, dl⟩ HCo.out ⟨hle, p1, p1, HD.out.1, HD.out.2⟩ n (by omega) w2 _ S2.out
      rw [← HXr.out.1, ← HXr.out.2] at HR2
      have HR2 := Lib.hid HR2
      go_wp2_with fail
      try rw [hke]
      refine HR2.out.mono ?_
      rintro e w3 ⟨⟨rfl, Z3⟩, Q3⟩
      have S3 : Hid (StR c ⟨(a3 + r), (a3 + r), a3, sp, q, cp, dl⟩ (pts ab (arO A A A) * keep W) w3) := Lib.hid Z3
      have R3 := Lib.hid (Below.trans R2.out Q3)
      clear c2 HR2 Z3 Q3 S2 R2
      have c2 := S3.out.wo
      have HR3 := read3 c ⟨(a3 + r), (a3 + r), a3, sp, q, cp, dl⟩ HCo.out ⟨hle, hle, p1, HD.out.1, HD.out.2⟩ n (by omega) w3 _ S3.out
      rw [← HXr.out.1, ← HXr.out.2] at HR3
      have HR3 := Lib.hid HR3
      go_wp2_with fail
      try rw [hke]
      refine HR3.out.mono ?_
      rintro e w4 ⟨⟨rfl, Z4⟩, Q4⟩
      have S4 : Hid (StR c ⟨(a3 + r), (a3 + r), (a3 + r), sp, q, cp, dl⟩ (pts ab (arO A A A) * keep W) w4) := Lib.hid Z4
      have R4 := Lib.hid (Below.trans R3.out Q4)
      clear c2 HR3 Z4 Q4 S3 R3
      have c2 := S4.out.wo
      have T4 := S4.out.part (R' := pts ab (arO (A ++ X) (A ++ X) (A ++ X)) * keep W) (w' := ((w4.setCell ⟨ab, 0, none⟩ (.string (A ++ X))).setCell ⟨ab, 1, none⟩ (.string (A ++ X))).setCell ⟨ab, 2, none⟩ (.string (A ++ X))) fun Y h => by
        rw [sep_assoc] at h ⊢
        exact ((h.set (i := 0) (.string (A ++ X))).set (i := 1) (.string (A ++ X))).set (i := 2) (.string (A ++ X))
      have U4 := Lib.hid (Ran.set (Ran.set (Ran.set R4.out ⟨ab, 0, none⟩ (.string (A ++ X))) ⟨ab, 1, none⟩ (.string (A ++ X))) ⟨ab, 2, none⟩ (.string (A ++ X)))
      have V4 := S4.out.rest
      obtain ⟨q0, q1, q2⟩ := ar_cells V4
      have f0 : ∀ i, w4.frozen? ⟨ab, i, none⟩ = false := fun i => free_at V4.get i
      obtain ⟨w5, hw5⟩ : ∃ w5, w5 = ((w4.setCell ⟨ab, 0, none⟩ (.string (A ++ X))).setCell ⟨ab, 1, none⟩ (.string (A ++ X))).setCell ⟨ab, 2, none⟩ (.string (A ++ X)) := ⟨_, rfl⟩
      rw [← hw5] at T4 U4
      have S5 := Lib.hid T4
      clear S4 R4 T4 V4 c2
      go_upto_region 24 with fail
      rw [← hw5]
      clear hw5 q0 q1 q2 f0
      have c2 := S5.out.wo
      have HW := write5 c ⟨a3 + r, a3 + r, a3 + r, sp, q, cp, dl⟩ HCo.out ⟨hle, hle, hle, HD.out.1, HD.out.2⟩ X (by omega) w5 _ S5.out
      dsimp only at HW
      by_cases hroom : dl.length + X.size ≤ c.m
      · rw [show skE dl.length c.m X.size = 0 from if_pos hroom, show skL dl c.m X = dl ++ bs X from if_pos hroom] at HW
        have HW := Lib.hid HW
        have hrI : (wt.size : Int) + (X.size : Int) ≤ (c.m : Int) := by omega
        have hif2 : ¬ wt.size + X.size > 9223372036854775807 := by omega
        have Hwt : Hid (wt ++ X = ⟨(dl ++ bs X).toArray⟩) := Lib.hid (by rw [Hw0.out]; apply ba_ext; rw [bs_app])
        have hl2 : (dl ++ bs X).length ≤ c.m := by rw [List.length_append, bs_length]; omega
        have Hl2 := Lib.hid hl2
        clear hl2 hroom
        go_wp2_with fail
        refine HW.out.mono ?_
        rintro e w6 ⟨⟨rfl, sp', q', cp', hsp', S6⟩, R6⟩
        have S6 := Lib.hid S6
        have R6 := Lib.hid (Below.trans U4.out R6)
        have Hsp := Lib.hid hsp'
        clear HW U4 S5 hsp' c2
        go_wp2_with fail
        go_roundg (gk - 1)
        case rel => exact ⟨i + 1, a3 + r, ⟨a3 + r, a3 + r, a3 + r, sp', q', cp', dl ++ bs X⟩, by simp, by omega, by rw [← Hwt.out], rfl, rfl, rfl, ⟨hle, hle, hle, Hsp.out, Hl2.out⟩, by rw [← HA2.out, ← HJ.out]; exact S6.out, R6.out⟩
        case measure => omega
      · rw [show skE dl.length c.m X.size = 15 from if_neg hroom, show skL dl c.m X = dl from if_neg hroom] at HW
        have HW := Lib.hid HW
        have hrI : (c.m : Int) < (wt.size : Int) + (X.size : Int) := by omega
        clear hroom
        go_wp2_with fail
        refine HW.out.mono ?_
        rintro e w6 ⟨⟨rfl, sp', q', cp', hsp', S6⟩, R6⟩
        have S6 := Lib.hid S6
        have R6 := Lib.hid (Below.trans U4.out R6)
        have Hsp := Lib.hid hsp'
        clear HW U4 S5 hsp' c2
        go_wp2_with fail
        go_roundg (gk - 1)
        case rel => exact ⟨i + 1, a3 + r, ⟨a3 + r, a3 + r, a3 + r, sp', q', cp', dl⟩, by simp, by omega, by rw [← Hw0.out], rfl, rfl, rfl, ⟨hle, hle, hle, Hsp.out, hdl⟩, by rw [← HA2.out, ← HJ.out]; exact S6.out, R6.out⟩
        case measure => omega
    · have hge : (l.length : Int) ≤ (i : Int) := by omega
      have HSn := seen5 c ⟨a3, a3, a3, sp, q, cp, dl⟩ HCo.out ⟨p1, p1, p1, HD.out.1, HD.out.2⟩ wr _ HSi
      dsimp only at HSn
      rw [← Hw0.out] at HSn
      have HSn := Lib.hid HSn
      have c2 := HSi.wo
      have R1 := Lib.hid HRi
      have hAc : c.s.extract 0 A.size = A := by rw [hAz]; exact hA.symm
      have hle1 : (A.size : Int) ≤ (c.s.size : Int) := by omega
      clear HSi HRi hA hAz
      go_wp2_with fail
      refine HSn.out.mono ?_
      rintro e w2 ⟨⟨rfl, S2⟩, R2⟩
      have S2 := Lib.hid S2
      have R2 := Lib.hid (Below.trans R1.out R2)
      clear HSn R1 c2
      have hA0 : (0 : Int) ≤ (A.size : Int) := by omega
      go_wp2_with fail
      go_loopg [31] 3 (fun (g : Nat) (v31 : Value) (wr2 : World) => ∃ j : Nat, v31 = .int .i64 (j : Int) ∧ j + g = 3 ∧ StR c ⟨a3, a3, a3, sp, q, cp, dl⟩ (pts ab (arO A A A) * keep W) wr2 ∧ Ran W wr2)
      case atStart => exact ⟨0, rfl, rfl, S2.out, R2.out⟩
      case round =>
        clear S2 R2
        obtain ⟨j, rfl, hgj, HSj, HRj⟩ := hrel
        obtain ⟨gz, hgz⟩ : ∃ gz, gz = gk := ⟨_, rfl⟩
        obtain ⟨q0, q1, q2⟩ := ar_cells HSj.drew.rest
        have S3 := Lib.hid HSj.drew
        have S0 := Lib.hid HSj
        have R3 := Lib.hid (Ran.drewN HRj 1)
        have R0 := Lib.hid HRj
        clear HSj HRj
        rcases (show j = 0 ∨ j = 1 ∨ j = 2 ∨ j = 3 by omega) with rfl | rfl | rfl | rfl
        · go_upto_region 33 with fail
          have hle2 : ¬ (c.s.size : Int) < (A.size : Int) := by omega
          have hle3 : decide ((c.s.size : Int) < (A.size : Int)) = false := decide_eq_false hle2
          have hle4 : decide (c.s.size < A.size) = false := decide_eq_false (by omega)
          have hle5 : ¬ c.s.size < A.size := by omega
          refine Go.Proofs.YtljlpkeddbfpaaaGreatDoor.region_plan (S := (fun w' => w'.cell? ⟨ab, 0, none⟩ = some (.string A) ∧ w'.cell? ⟨ab, 1, none⟩ = some (.string A) ∧ w'.cell? ⟨ab, 2, none⟩ = some (.string A))) [(0, true), (1, true), (2, true), (3, true), (4, true), (5, true), (6, true), (7, true), (8, true), (9, true), (10, true), (11, true), (12, true), (13, true), (14, true), (15, true), (16, true), (17, true), (18, true), (19, true), (20, true), (21, true), (22, true), (23, true), (24, true), (25, true), (26, true)] (by kernel_rfl) (by kernel_rfl) (by kernel_rfl) ?_ ?_
          · ((try dsimp only); (first | done | (exact ⟨q0, q1, q2⟩)))
          simp only [Go.Proofs.YtljlpkeddbfpaaaGreatDoor.planOps, List.map_cons, List.map_nil, List.getElem?_toArray, List.getElem?_cons_zero, List.getElem?_cons_succ]
          repeat (first
            | ((refine Go.Proofs.YtljlpkeddbfpaaaGreatDoor.plan_yes (v := ?_) (by rfl) ?_ ?_); rotate_left; (focus (intro w hSw; (try dsimp only at hSw); go_simp; try (with_reducible rfl))); (try simp only [Act.put, List.setIfInBounds_toArray, List.set_cons_zero, List.set_cons_succ]))
            | ((refine Go.Proofs.YtljlpkeddbfpaaaGreatDoor.plan_no (by rfl) ?_); (try simp only [Act.put, List.setIfInBounds_toArray, List.set_cons_zero, List.set_cons_succ]))
            | ((refine Go.Proofs.YtljlpkeddbfpaaaGreatDoor.plan_step (fun K hK => ?_)); (first | (fail) | (go_simp; (fail); (try go_wp2_with fail)) | go_simp); (refine hK.out _ _ ?_ (fun hHeld => ?_)); (focus ((try dsimp only); (first | done | (exact ⟨q0, q1, q2⟩)))); clear hK K; (try simp only [Act.put, List.setIfInBounds_toArray, List.set_cons_zero, List.set_cons_succ])))
          refine Go.Proofs.YtljlpkeddbfpaaaGreatDoor.plan_done ?_
          go_wp2_with fail
          go_roundg (gk - 1)
          case rel => exact ⟨0 + 1, by simp, by omega, S3.out, R3.out⟩
          case measure => omega
        · go_upto_region 33 with fail
          have hle2 : ¬ (c.s.size : Int) < (A.size : Int) := by omega
          have hle3 : decide ((c.s.size : Int) < (A.size : Int)) = false := decide_eq_false hle2
          have hle4 : decide (c.s.size < A.size) = false := decide_eq_false (by omega)
          have hle5 : ¬ c.s.size < A.size := by omega
          refine Go.Proofs.YtljlpkeddbfpaaaGreatDoor.region_plan (S := (fun w' => w'.cell? ⟨ab, 0, none⟩ = some (.string A) ∧ w'.cell? ⟨ab, 1, none⟩ = some (.string A) ∧ w'.cell? ⟨ab, 2, none⟩ = some (.string A))) [(0, true), (1, true), (2, true), (3, true), (4, true), (5, true), (6, true), (7, true), (8, true), (9, true), (10, true), (11, true), (12, true), (13, true), (14, true), (15, true), (16, true), (17, true), (18, true), (19, true), (20, true), (21, true), (22, true), (23, true), (24, true), (25, true), (26, true)] (by kernel_rfl) (by kernel_rfl) (by kernel_rfl) ?_ ?_
          · ((try dsimp only); (first | done | (exact ⟨q0, q1, q2⟩)))
          simp only [Go.Proofs.YtljlpkeddbfpaaaGreatDoor.planOps, List.map_cons, List.map_nil, List.getElem?_toArray, List.getElem?_cons_zero, List.getElem?_cons_succ]
          repeat (first
            | ((refine Go.Proofs.YtljlpkeddbfpaaaGreatDoor.plan_yes (v := ?_) (by rfl) ?_ ?_); rotate_left; (focus (intro w hSw; (try dsimp only at hSw); go_simp; try (with_reducible rfl))); (try simp only [Act.put, List.setIfInBounds_toArray, List.set_cons_zero, List.set_cons_succ]))
            | ((refine Go.Proofs.YtljlpkeddbfpaaaGreatDoor.plan_no (by rfl) ?_); (try simp only [Act.put, List.setIfInBounds_toArray, List.set_cons_zero, List.set_cons_succ]))
            | ((refine Go.Proofs.YtljlpkeddbfpaaaGreatDoor.plan_step (fun K hK => ?_)); (first | (fail) | (go_simp; (fail); (try go_wp2_with fail)) | go_simp); (refine hK.out _ _ ?_ (fun hHeld => ?_)); (focus ((try dsimp only); (first | done | (exact ⟨q0, q1, q2⟩)))); clear hK K; (try simp only [Act.put, List.setIfInBounds_toArray, List.set_cons_zero, List.set_cons_succ])))
          refine Go.Proofs.YtljlpkeddbfpaaaGreatDoor.plan_done ?_
          go_wp2_with fail
          go_roundg (gk - 1)
          case rel => exact ⟨1 + 1, by simp, by omega, S3.out, R3.out⟩
          case measure => omega
        · go_upto_region 33 with fail
          have hle2 : ¬ (c.s.size : Int) < (A.size : Int) := by omega
          have hle3 : decide ((c.s.size : Int) < (A.size : Int)) = false := decide_eq_false hle2
          have hle4 : decide (c.s.size < A.size) = false := decide_eq_false (by omega)
          have hle5 : ¬ c.s.size < A.size := by omega
          refine Go.Proofs.YtljlpkeddbfpaaaGreatDoor.region_plan (S := (fun w' => w'.cell? ⟨ab, 0, none⟩ = some (.string A) ∧ w'.cell? ⟨ab, 1, none⟩ = some (.string A) ∧ w'.cell? ⟨ab, 2, none⟩ = some (.string A))) [(0, true), (1, true), (2, true), (3, true), (4, true), (5, true), (6, true), (7, true), (8, true), (9, true), (10, true), (11, true), (12, true), (13, true), (14, true), (15, true), (16, true), (17, true), (18, true), (19, true), (20, true), (21, true), (22, true), (23, true), (24, true), (25, true), (26, true)] (by kernel_rfl) (by kernel_rfl) (by kernel_rfl) ?_ ?_
          · ((try dsimp only); (first | done | (exact ⟨q0, q1, q2⟩)))
          simp only [Go.Proofs.YtljlpkeddbfpaaaGreatDoor.planOps, List.map_cons, List.map_nil, List.getElem?_toArray, List.getElem?_cons_zero, List.getElem?_cons_succ]
          repeat (first
            | ((refine Go.Proofs.YtljlpkeddbfpaaaGreatDoor.plan_yes (v := ?_) (by rfl) ?_ ?_); rotate_left; (focus (intro w hSw; (try dsimp only at hSw); go_simp; try (with_reducible rfl))); (try simp only [Act.put, List.setIfInBounds_toArray, List.set_cons_zero, List.set_cons_succ]))
            | ((refine Go.Proofs.YtljlpkeddbfpaaaGreatDoor.plan_no (by rfl) ?_); (try simp only [Act.put, List.setIfInBounds_toArray, List.set_cons_zero, List.set_cons_succ]))
            | ((refine Go.Proofs.YtljlpkeddbfpaaaGreatDoor.plan_step (fun K hK => ?_)); (first | (fail) | (go_simp; (fail); (try go_wp2_with fail)) | go_simp); (refine hK.out _ _ ?_ (fun hHeld => ?_)); (focus ((try dsimp only); (first | done | (exact ⟨q0, q1, q2⟩)))); clear hK K; (try simp only [Act.put, List.setIfInBounds_toArray, List.set_cons_zero, List.set_cons_succ])))
          refine Go.Proofs.YtljlpkeddbfpaaaGreatDoor.plan_done ?_
          go_wp2_with fail
          go_roundg (gk - 1)
          case rel => exact ⟨2 + 1, by simp, by omega, S3.out, R3.out⟩
          case measure => omega
        · have hAw := Lib.hid (HA.out wr S0.out.rest.right)
          go_wp2_with fail
          refine hAw.out.mono ?_
          rintro e w9 ⟨⟨rfl, h2⟩, h3⟩
          have h2 := Lib.hid h2
          have h3 := Lib.hid h3
          clear hAw
          go_wp2_with fail
          go_ret
          exact ⟨rfl, fin_true R0.out h2.out h3.out⟩
theorem own : ownKnob Tryz.prog.godebug = none := by kernel_rfl
theorem laidOut : laidOutB Tryz.prog = true := by kernel_rfl

set_option maxRecDepth 100000 in
theorem lifted (os : Os) (started : os.Started) (H : Type) (enc : TypeId × Value → H) :
    ReturnsInHanded {} Tryz.checked os 4 .any (fun w args => (Rows.handlesRowSpec.pre enc Tryz.prog Tryz.f4 Rows.handlesRowRow.domain false w args ∧ laidMetH Tryz.prog Rows.handlesRowRow.laid w) ∧ sizedMet enc Tryz.prog Tryz.f4 (OpenSpec.ofChange Rows.handlesRowSpec) false w args) (Rows.handlesRowSpec.post enc Tryz.prog Tryz.f4 false true false false) := by
  refine returnsInHanded_of_change_and (C := Tryz.checked) (X := fun w _ => laidMetH Tryz.prog Rows.handlesRowRow.laid w) (fun _ _ _ hh h => h.of_heap hh) own started (by kernel_rfl) Tryz.func4
    (ChangeSpec.witness_shaped (enc := enc) (C := Tryz.checked) (os := os) (X := fun w _ => laidMetH Tryz.prog Rows.handlesRowRow.laid w) false (World.laidAll Tryz.prog os Rows.handlesRowRow.laid) #[.string ⟨#[]⟩, .slice none 0 0, .int .i64 0] 8 (World.laidAll_os _ _ _)
      (World.shaped_of_ZipB (by kernel_rfl) (by kernel_rfl)) (by kernel_rfl) (by kernel_rfl) (by kernel_rfl)
      (by rw [MakeChecks.laidMetH_plain _ _ _ (by kernel_rfl)]; exact laidMet_laidAll _ (by kernel_rfl) (by kernel_rfl))) ?_
  intro W base args ds gs before hval0 hW hcnd _ hL _
  have hval : ∀ (j : Nat) t v, Tryz.f4.params[j]? = some t → args[j]? = some v → Value.okWide Tryz.prog W .any base t v := hval0
  have hW' := hW
  obtain ⟨p, q, hA0, hV, rfl, hfz, hnd⟩ := hW
  have hA : DataW.TrodAll enc Tryz.prog W 0 (fun _ => true) true Tryz.f4.params.toList args.toList ds p := hA0
  rw [Tryz.params4] at hA hval
  obtain ⟨v0, vs0, d0, ds0, p0, q0, hargs, rfl, rfl, h0, r0⟩ := trodAll_cons hA
  obtain ⟨v1, vs1, d1, ds1, p1, q1, rfl, rfl, rfl, h1, r1⟩ := trodAll_cons r0
  obtain ⟨v2, vs2, d2, ds2, p2, q2, rfl, rfl, rfl, h2, r2⟩ := trodAll_cons r1
  obtain ⟨rfl, rfl, rfl⟩ := trodAll_nil r2
  obtain rfl : args = #[v0, v1, v2] := by cases args; simp_all
  obtain ⟨rfl, rfl⟩ := trodVars_none hV
  obtain ⟨s0, rfl, rfl, rfl, w0⟩ := open_string Tryz.underlying9 (hval 0 9 v0 rfl rfl) h0
  have k1 := h1
  have lt1 : ∀ x ∈ p1, x.block < W.heap.size := by obtain ⟨m, hm⟩ := k1; exact DataW.trod_lt m _ _ _ hm
  obtain ⟨ao1, l1, cap1, rfl, w1⟩ := ints_open (hval 1 40 v1 rfl rfl) h1
  obtain ⟨a2, rfl, rfl, rfl, w2⟩ := open_int Tryz.underlying3 (hval 2 3 v2 rfl rfl) h2
  clear hA0 hval0
  refine (walk s0 ao1 cap1 l1 a2 W (by unfold maxLen at w0; omega) w1 (i64_of w2)).mono fun e W' ⟨he, bel⟩ => ?_
  subst he
  exact ⟨_, rfl, _, _, _, [], _, [], hW', trodAll_mk1 (shut_bool Tryz.underlying4 _), (trodAll_cons_mk (shut_string Tryz.underlying9 w0) (trodAll_cons_mk (Below.trod laidOut (by kernel_rfl) (of_decide_eq_true (by kernel_rfl)) k1 bel lt1) (trodAll_cons_mk (shut_int Tryz.underlying3 w2) trodAll_mk0))), rfl, bel.frame _, fun h => by cases h⟩

theorem over : Rows.handlesRowRow.holds Tryz.pinned (OpenSpec.ofChange Rows.handlesRowSpec) :=
  OpenClaim.holds_of_wide 4 Tryz.f4 rfl rfl rfl rfl rfl rfl rfl ⟨rfl, rfl, rfl, rfl, rfl⟩ rfl rfl rfl rfl rfl (by kernel_rfl) Tryz.func4 (by kernel_rfl)
    (of_decide_eq_true (by kernel_rfl)) (by unfold Func.isWrapper; first | (rw [if_pos (by decide +kernel)]; kernel_rfl) | (rw [if_neg (by decide +kernel)]; exact ⟨rfl, rfl⟩))
    (fun os started H enc _ => lifted os started H enc)

theorem proved : Rows.HandlesRowCardSaid :=
  Claim7.holds_tied_plain_at .later [] [.data, .pinned] true (true, "66290d1066095200cf14bc365beb6c9a74d9cfc0189b6a14515d91b2027a118d") false over (fun _ h => by cases h) (by kernel_rfl) (fun _ h => by cases h) handlesRow_row_tie rfl ⟨rfl, rfl⟩ (by kernel_rfl) rfl
    (fun f fn hf hfn => by
      obtain rfl : f = 4 := Option.some.inj ((show Tryz.prog.funcNamed "whelk/whelklaw07.HandlesRow" = some 4 by kernel_rfl).symm.trans hf) |>.symm
      obtain rfl : fn = Tryz.f4 := (Option.some.inj (Tryz.func4.symm.trans hfn)).symm
      exact ⟨by kernel_rfl, fun j t ht => by
        rw [Tryz.params4] at ht
        have hm : t ∈ [9, 40, 3] := by simpa using Array.mem_of_getElem? ht
        have hall : ([9, 40, 3].all fun u => !Tryz.prog.wantsStandIn u) = true := by kernel_rfl
        exact (show Tryz.prog.wantsStandIn t = false by simpa using List.all_eq_true.1 hall t hm)⟩)
    (by kernel_rfl)
#print axioms proved
end Go.Proofs.YtljlpkeddbfpaaaGreatDoor.handlesRow
