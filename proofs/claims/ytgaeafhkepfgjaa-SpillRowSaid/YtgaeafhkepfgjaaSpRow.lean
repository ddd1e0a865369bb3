/- SpillRow: what is drained, one behind the other, is a beginning of what was appended: the law returns true, for all rows of calls, memories and chunks. -/
import Derived.Test.YtgaeafhkepfgjaaSpO
import Derived.Test.YtgaeafhkepfgjaaArrs
import Derived.Deep.CutBlock
namespace Go.Proofs.Ytgaeafhkepfgjaa.spillRow
open Go.ChangeShapes Go.WideShapes Go.ChangeAt Go.RowKit Go.Proofs.Ytgaeafhkepfgjaa Go.Proofs.Ytgaeafhkepfgjaa.Hp Go.Proofs.Ytgaeafhkepfgjaa.Spill
set_option linter.unusedVariables false

/-- How many chunks a buffer uses. -/
def nch (m c f : Nat) (d : List UInt8) : Nat := cl m c (f + d.length) - gn m c f
/-- A pool of two open buffers. -/
def SB (bp ba bb m c tot fa fb : Nat) (da db : List UInt8) (W w : World) : Prop :=
  Sat w (poolX bp 100000 m c (da.length + db.length) (nch m c fa da + nch m c fb db) 2 tot * (bufX ba bp m c fa da * (bufX bb bp m c fb db * keep W)))
theorem SB.swap {bp ba bb m c tot fa fb : Nat} {da db : List UInt8} {W w : World} (h : SB bp ba bb m c tot fa fb da db W w) : SB bp bb ba m c tot fb fa db da W w := by
  unfold SB at h ⊢
  rw [Nat.add_comm db.length, Nat.add_comm (nch m c fb db)]
  exact h.perm (by ac_rfl)
theorem SB.kept {bp ba bb m c tot fa fb : Nat} {da db : List UInt8} {W w : World} (h : SB bp ba bb m c tot fa fb da db W w) : Sat w (keep W) := Sat.right (Sat.right (Sat.right h))
theorem SB.drewN {bp ba bb m c tot fa fb : Nat} {da db : List UInt8} {W w : World} (h : SB bp ba bb m c tot fa fb da db W w) (n : Nat) : SB bp ba bb m c tot fa fb da db W (w.drewN n) := Sat.drewN h n

def Dom (m c tot fa fb : Nat) (da db : List UInt8) (B : Nat) : Prop := 1 ≤ m ∧ m ≤ 40 ∧ 1 ≤ c ∧ c ≤ 40 ∧ tot ≤ B ∧ fa + da.length ≤ B ∧ fb + db.length ≤ B ∧ B ≤ 12300

def SBPost (v : Value) (bp ba bb m c tot fa fb : Nat) (da db : List UInt8) (W w : World) (e : Ending) (w' : World) : Prop :=
  e = .returned v ∧ SB bp ba bb m c tot fa fb da db W w' ∧ Ran w w'
theorem nch_le {m c f : Nat} {d : List UInt8} (hc : 1 ≤ c) : nch m c f d ≤ f + d.length + 1 := by
  have := cl_le (m := m) (c := c) (a := f + d.length) hc
  unfold nch; omega
theorem sb_append {bp ba bb m c tot fa fb B : Nat} {da db : List UInt8} {W w : World} (d : List UInt8) (hd : Dom m c tot fa fb da db B) (hl : d.length ≤ 300) (h : SB bp ba bb m c tot fa fb da db W w) :
    Calls Try.prog 13 #[.pointer (some ⟨ba, 0, none⟩), .string ⟨d.toArray⟩] w (SBPost (.int .i64 0) bp ba bb m c (tot + d.length) fa fb (da ++ d) db W w) := by
  obtain ⟨d1, d2, d3, d4, d5, d6, d7, d8⟩ := hd
  have hn := nch_le (m := m) (f := fb) (d := db) d3
  unfold SB at h
  rw [Nat.add_comm (nch m c fa da)] at h
  refine (append_loop bp ba 100000 m c (da.length + db.length) (nch m c fb db) 2 tot fa da d (bufX bb bp m c fb db * keep W) w d3 (by omega) (by omega) (by omega) (by omega) (by omega) (by omega) (by omega) h).mono ?_
  rintro e w' ⟨rfl, h2, h3⟩
  refine ⟨rfl, ?_, h3⟩
  unfold SB
  rw [Nat.add_comm (nch m c fa (da ++ d)), List.length_append, show da.length + d.length + db.length = da.length + db.length + d.length by omega]
  exact h2
theorem sb_drain {bp ba bb m c tot fa fb B n k : Nat} {da db : List UInt8} {W w : World} (hd : Dom m c tot fa fb da db B) (hn : (n : Int) ≤ 9223372036854775807) (hk : k = min n da.length) (h : SB bp ba bb m c tot fa fb da db W w) :
    Calls Try.prog 14 #[.pointer (some ⟨ba, 0, none⟩), .int .i64 n] w (SBPost (.tuple #[.string ⟨(da.take k).toArray⟩, .int .i64 0]) bp ba bb m c tot (fa + k) fb (da.drop k) db W w) := by
  obtain ⟨d1, d2, d3, d4, d5, d6, d7, d8⟩ := hd
  have hnn := nch_le (m := m) (f := fb) (d := db) d3
  unfold SB at h
  rw [Nat.add_comm (nch m c fa da)] at h
  refine (drain_calls bp ba 100000 m c (da.length + db.length) (nch m c fb db) 2 tot fa (fa + da.length) n k da (bufX bb bp m c fb db * keep W) w d3 (by omega) (by omega) (by omega) (by omega) (by omega) (by omega) (by omega) hn rfl hk h).mono ?_
  rintro e w' ⟨rfl, h2, h3⟩
  refine ⟨rfl, ?_, h3⟩
  unfold SB
  rw [Nat.add_comm (nch m c (fa + k) (da.drop k)), List.length_drop, show da.length - k + db.length = da.length + db.length - k by omega, show nch m c (fa + k) (da.drop k) = cl m c (fa + da.length) - gn m c (fa + k) by unfold nch; rw [List.length_drop]; congr 2; omega]
  exact h2
theorem sb_drain_neg {bp ba bb m c tot fa fb : Nat} {n : Int} {da db : List UInt8} {W w : World} (hn : n < 0) (h : SB bp ba bb m c tot fa fb da db W w) :
    Calls Try.prog 14 #[.pointer (some ⟨ba, 0, none⟩), .int .i64 n] w (SBPost (.tuple #[.string ⟨#[]⟩, .int .i64 1]) bp ba bb m c tot fa fb da db W w) := by
  refine (drain_neg n w ba (bufX_cells (Sat.right h)).1 hn).mono ?_
  rintro e w' ⟨rfl, rfl⟩
  exact ⟨rfl, h, Below.refl _ _⟩
theorem sb_len {bp ba bb m c tot fa fb B : Nat} {da db : List UInt8} {W w : World} (hd : Dom m c tot fa fb da db B) (h : SB bp ba bb m c tot fa fb da db W w) :
    Calls Try.prog 22 #[.pointer (some ⟨ba, 0, none⟩)] w fun e w' => e = .returned (.int .i64 da.length) ∧ ∃ n, w' = w.drewN n := by
  obtain ⟨d1, d2, d3, d4, d5, d6, d7, d8⟩ := hd
  exact xlen ba bp m c fa da _ w (by omega) (Sat.right h)
theorem sb_held {bp ba bb m c tot fa fb : Nat} {da db : List UInt8} {W w : World} (h : SB bp ba bb m c tot fa fb da db W w) :
    Calls Try.prog 11 #[.pointer (some ⟨bp, 0, none⟩)] w fun e w' => e = .returned (.int .i64 (da.length + db.length : Nat)) ∧ w = w' :=
  xheld bp 100000 m c _ _ 2 tot _ w h

theorem str_cat (a b : List UInt8) : (ByteArray.mk a.toArray) ++ (ByteArray.mk b.toArray) = ⟨(a ++ b).toArray⟩ := by
  apply ByteArray.ext
  simp
theorem str_cat0 (a : List UInt8) : (ByteArray.mk a.toArray) ++ (ByteArray.mk #[]) = ⟨a.toArray⟩ := by
  apply ByteArray.ext
  simp
theorem str_take (a b : List UInt8) : (ByteArray.mk (a ++ b).toArray).extract 0 a.length = ⟨a.toArray⟩ := by
  apply ByteArray.ext
  simp
theorem str_take_list (a b : List UInt8) : ((ByteArray.mk (a ++ b).toArray).extract 0 a.length).toList = a := by
  rw [str_take]
  simp
/-- The two buffers are closed, one behind the other. -/
def C1 (bp ba bb m c tot fb : Nat) (db : List UInt8) (W w : World) : Prop := Sat w (poolX bp 100000 m c db.length (nch m c fb db) 1 tot * (closedB ba bp * (bufX bb bp m c fb db * keep W)))
def C2 (bp ba bb m c tot : Nat) (W w : World) : Prop := Sat w (poolX bp 100000 m c 0 0 0 tot * (closedB bb bp * (closedB ba bp * keep W)))
theorem sb_close1 {bp ba bb m c tot fa f2 fb B : Nat} {da db : List UInt8} {W w : World} (hd : Dom m c tot f2 fb da db B) (h : SB bp ba bb m c tot fa fb (da.drop da.length) db W w) (hfa : fa ≤ 100000) :
    Calls Try.prog 20 #[.pointer (some ⟨ba, 0, none⟩)] w fun e w' => e = .returned (.int .i64 0) ∧ C1 bp ba bb m c tot fb db W w' ∧ Ran w w' := by
  obtain ⟨d1, d2, d3, d4, d5, d6, d7, d8⟩ := hd
  have hn := nch_le (m := m) (f := fb) (d := db) d3
  rw [List.drop_length] at h
  unfold SB at h
  rw [Nat.add_comm (nch m c fa [])] at h
  refine (close_calls bp ba 100000 m c ([].length + db.length : Nat) (nch m c fb db) 1 tot fa [] (bufX bb bp m c fb db * keep W) w d3 (by simp; omega) (by simp) (by simp; omega) (by omega) (by omega) (by omega) h).mono ?_
  rintro e w' ⟨rfl, h2, h3⟩
  refine ⟨rfl, ?_, h3⟩
  unfold C1
  simpa using h2
theorem sb_close2 {bp ba bb m c tot fb B : Nat} {da db : List UInt8} {fa : Nat} {W w : World} (hd : Dom m c tot fa fb da db B) (h : C1 bp ba bb m c tot fb db W w) :
    Calls Try.prog 20 #[.pointer (some ⟨bb, 0, none⟩)] w fun e w' => e = .returned (.int .i64 0) ∧ C2 bp ba bb m c tot W w' ∧ Ran w w' := by
  obtain ⟨d1, d2, d3, d4, d5, d6, d7, d8⟩ := hd
  unfold C1 at h
  rw [← Nat.zero_add (nch m c fb db)] at h
  refine (close_calls bp bb 100000 m c db.length 0 0 tot fb db (closedB ba bp * keep W) w d3 (by omega) (by omega) (by omega) (by omega) (by omega) (by omega) (h.perm (by unfold nch; ac_rfl))).mono ?_
  rintro e w' ⟨rfl, h2, h3⟩
  refine ⟨rfl, ?_, h3⟩
  unfold C2
  rw [Nat.sub_self] at h2
  exact h2
theorem c2_at {bp ba bb m c tot : Nat} {W w : World} (h : C2 bp ba bb m c tot W w) : w.cell? ⟨ba, 1, none⟩ = some (.bool true) := by
  have h2 := h.right.right
  unfold closedB at h2
  exact (cells7 h2.get).2.1
/-- In the midst of a round, and at its head: i calls have been done. -/
def RMid (bp ba bb m c : Nat) (W : World) (i : Nat) (sin sout : Value) (wx : World) : Prop :=
  ∃ (outl da db : List UInt8) (fa fb tot : Nat), sin = .string ⟨(outl ++ da).toArray⟩ ∧ sout = .string ⟨outl.toArray⟩ ∧ outl.length + da.length ≤ 300 * i ∧ Dom m c tot fa fb da db (300 * i) ∧ SB bp ba bb m c tot fa fb da db W wx ∧ Ran W wx
def RRel (bp ba bb m c : Nat) (W : World) (l : List Opr) (k : Nat) (sin sout iv : Value) (wr : World) : Prop :=
  ∃ i : Nat, i + k = l.length ∧ iv = .int .i64 (i : Int) ∧ RMid bp ba bb m c W i sin sout wr
theorem Dom.step {m c tot fa fb B : Nat} {da db : List UInt8} (h : Dom m c tot fa fb da db B) (tot' fa' fb' B' : Nat) (da' db' : List UInt8) (h1 : tot' ≤ B') (h2 : fa' + da'.length ≤ B') (h3 : fb' + db'.length ≤ B') (h4 : B' ≤ 12300) : Dom m c tot' fa' fb' da' db' B' :=
  ⟨h.1, h.2.1, h.2.2.1, h.2.2.2.1, h1, h2, h3, h4⟩

set_option maxRecDepth 1000000 in
set_option maxHeartbeats 8000000 in
theorem walk (ao : Option Addr) (cap : Nat) (l : List Opr) (x y : Int) (W : World) (hl : OpsAt W ao l) :
    Calls Try.prog 5 #[.slice ao l.length cap, .agg #[.int .i64 x, .int .i64 y]] W fun e w' => e = .returned (.bool true) ∧ Below W.heap.size W w' := by
  have H0 := (Sat.start W).old (.cells #[.int .i64 x, .int .i64 y] 52)
  have R0 : Ran W (W.alloc (.cells #[.int .i64 x, .int .i64 y] 52)) := Ran.new (Below.refl _ _) _
  have hl0 : OpsAt (W.alloc (.cells #[.int .i64 x, .int .i64 y] 52)) ao l := hl.keep H0.kept (by simp)
  by_cases hok : Few l ∧ 1 ≤ x ∧ x ≤ 40 ∧ 1 ≤ y ∧ y ≤ 40
  · obtain ⟨hf, hx1, hx2, hy1, hy2⟩ := hok
    obtain ⟨m, rfl⟩ : ∃ k : Nat, x = (k : Int) := ⟨x.toNat, by omega⟩
    obtain ⟨c, rfl⟩ : ∃ k : Nat, y = (k : Int) := ⟨y.toNat, by omega⟩
    go_enter Try.func5, Try.ntmps5
    go_wp2_with (first
      | (go_at_call 7; refine (few_yes _ _ _ _ (by exact hl0) hf).mono ?_; rintro e w' ⟨rfl, rfl⟩)
      | (go_at_call 9; refine (xnew 100000 m c _ (keep W) (by exact H0) (by omega) (by omega) (by omega) (by omega)).mono ?_; rintro e w1 ⟨bp, rfl, H1, R1⟩))
    refine (xopen bp 100000 m c 0 0 0 0 (keep W) _ (by omega) (by omega) (by omega) H1).mono ?_
    rintro e w2 ⟨ba, rfl, H2, R2⟩
    go_wp2_with fail
    refine (xopen bp 100000 m c 0 0 1 0 (bufX ba bp m c 0 [] * keep W) _ (by omega) (by omega) (by omega) H2).mono ?_
    rintro e w3 ⟨bb, rfl, H3, R3⟩
    have hg0 : gn m c 0 = 0 := gn_low (by omega)
    have hc0 : cl m c 0 = 0 := cl_low (by omega) (by omega)
    have HS : SB bp ba bb m c 0 0 0 [] [] W w3 := by
      unfold SB nch
      simp only [List.length_nil, Nat.add_zero, hg0, hc0, Nat.sub_zero]
      exact H3.perm (by ac_rfl)
    clear hg0 hc0
    go_wp2_with fail
    go_loopg [9, 10, 11] (l.length) (RRel bp ba bb m c W l)
    case atStart => exact ⟨0, by omega, rfl, [], [], [], 0, 0, 0, rfl, rfl, by simp, ⟨by omega, by omega, by omega, by omega, by omega, by simp, by simp, by omega⟩, HS, ((R0.trans R1).trans R2).trans R3⟩
    case round =>
      clear HS H3 R3 H2 R2 H1 R1 H0 R0 hl0
      obtain ⟨i, hik, rfl, outl, da, db, fa, fb, tot, rfl, rfl, hol, hD, HS, HR⟩ := hrel
      by_cases hi : i < l.length
      · obtain ⟨ok, b, o, rfl, hb, g0, g1, g2, g3⟩ := hl i hi
        have hat : ∀ w' : World, (∀ k, k < W.heap.size → w'.heap[k]? = W.heap[k]?) → ∀ j, w'.cell? ⟨b, j, none⟩ = W.cell? ⟨b, j, none⟩ := fun w' hk j => World.cell?_of_block (w := W) (hk b hb)
        have h0 := (hat wr HS.kept.kept _).trans g0
        have h2 := (hat wr HS.kept.kept _).trans g2
        have h3 := (hat wr HS.kept.kept _).trans g3
        have hl40 := hf.1
        have hdd := hf.2 l[i] (List.getElem_mem hi)
        have hdd2 : (l[i].data.length : Int) ≤ 300 := by omega
        have hlt : (i : Int) < l.length := by omega
        have hi0 : (0 : Int) ≤ i := by omega
        have hN : l[i].n ≤ 9223372036854775807 := ok.2.2.1.2
        generalize l[i].data = d at *
        generalize l[i].n = dn at *
        generalize l[i].ask = ask at *
        have hm1 : -4 < ask.tmod 4 := by have := Int.lt_tmod_of_pos ask (show (0 : Int) < 4 by omega); omega
        have hm2 : ask.tmod 4 < 4 := Int.tmod_lt_of_pos ask (by omega)
        have Hat := Lib.hid hat
        have G0 := Lib.hid g0
        have G2 := Lib.hid g2
        have G3 := Lib.hid g3
        have Hik := Lib.hid hik
        have Hl := Lib.hid hl
        have Hf := Lib.hid hf
        clear hat g0 g1 g2 g3 hik hl hf ok
        have hol2 := hol
        have hD2 := hD
        obtain ⟨d1, d2, d3, d4, d5, d6, d7, d8⟩ := hD2
        go_upto_block 2 with (fail)
        go_cut [9, 10, 12, 13] from 58 to 180 (fun sin sout _ _ wx => RMid bp ba bb m c W (i + 1) sin sout wx)
        case first =>
          have hr : ask.tmod 4 % 4 = 0 ∨ ask.tmod 4 % 4 = 1 ∨ ask.tmod 4 % 4 = 2 ∨ ask.tmod 4 % 4 = 3 := by omega
          rcases hr with hr | hr | hr | hr
          · go_wp2_with fail
            refine (sb_append d (Dom.step hD tot fb fa (300 * i) db da d5 d7 d6 (by omega)) hdd HS.swap).mono ?_
            rintro e w' ⟨rfl, q1, q2⟩
            go_wp2_with fail
            go_meet
            exact ⟨outl, da, db ++ d, fa, fb, _, rfl, rfl, by omega, Dom.step hD _ _ _ _ _ _ (by omega) (by omega) (by rw [List.length_append]; omega) (by omega), q1.swap, HR.trans q2⟩
          · go_wp2_with fail
            refine (sb_append d hD hdd HS).mono ?_
            rintro e w' ⟨rfl, q1, q2⟩
            have j3 := (Hat.out w' q1.kept.kept _).trans G3.out
            go_wp2_with fail
            go_meet
            rw [str_cat]
            exact ⟨outl, da ++ d, db, fa, fb, _, by rw [List.append_assoc], rfl, by rw [List.length_append]; omega, Dom.step hD _ _ _ _ _ _ (by omega) (by rw [List.length_append]; omega) (by omega) (by omega), q1, HR.trans q2⟩
          · by_cases hn : dn < 0
            · go_wp2_with fail
              refine (sb_drain_neg hn HS).mono ?_
              rintro e w' ⟨rfl, q1, q2⟩
              have j2 := (Hat.out w' q1.kept.kept _).trans G2.out
              go_wp2_with fail
              go_meet
              rw [str_cat0]
              exact ⟨outl, da, db, fa, fb, _, rfl, rfl, by omega, Dom.step hD _ _ _ _ _ _ (by omega) (by omega) (by omega) (by omega), q1, HR.trans q2⟩
            · obtain ⟨n, rfl⟩ : ∃ n : Nat, dn = (n : Int) := ⟨dn.toNat, by omega⟩
              obtain ⟨k, hk⟩ : ∃ k, k = min n da.length := ⟨_, rfl⟩
              have hkn : (k : Int) ≤ n := by omega
              have hkd : k ≤ da.length := by omega
              have hkl : (da.take k).length = k := by rw [List.length_take]; omega
              have hda : outl ++ da = (outl ++ da.take k) ++ da.drop k := by rw [List.append_assoc, List.take_append_drop]
              have Hk := Lib.hid hk
              clear hk
              go_wp2_with fail
              refine (sb_drain hD hN Hk.out HS).mono ?_
              rintro e w' ⟨rfl, q1, q2⟩
              have j2 := (Hat.out w' q1.kept.kept _).trans G2.out
              obtain ⟨dk, hdk⟩ : ∃ dk, dk = da.take k := ⟨_, rfl⟩
              rw [← hdk] at hkl hda ⊢
              have hkl2 : (dk.length : Int) ≤ n := by omega
              have hkl3 : outl.length + dk.length ≤ 12300 := by omega
              have Hda := Lib.hid hda
              have Hkl := Lib.hid hkl
              clear hdk hkl hda
              go_wp2_with fail
              go_meet
              rw [str_cat]
              exact ⟨outl ++ dk, da.drop k, db, fa + k, fb, _, by rw [Hda.out], rfl, by rw [List.length_append, List.length_drop]; have := Hkl.out; omega, Dom.step hD _ _ _ _ _ _ (by omega) (by rw [List.length_drop]; omega) (by omega) (by omega), q1, HR.trans q2⟩
          · by_cases hn : dn < 0
            · go_wp2_with fail
              refine (sb_drain_neg hn HS.swap).mono ?_
              rintro e w' ⟨rfl, q1, q2⟩
              go_wp2_with fail
              go_meet
              exact ⟨outl, da, db, fa, fb, _, rfl, rfl, by omega, Dom.step hD _ _ _ _ _ _ (by omega) (by omega) (by omega) (by omega), q1.swap, HR.trans q2⟩
            · obtain ⟨n, rfl⟩ : ∃ n : Nat, dn = (n : Int) := ⟨dn.toNat, by omega⟩
              obtain ⟨k, hk⟩ : ∃ k, k = min n db.length := ⟨_, rfl⟩
              have hkd : k ≤ db.length := by omega
              have Hk := Lib.hid hk
              clear hk
              go_wp2_with fail
              refine (sb_drain (Dom.step hD tot fb fa (300 * i) db da d5 d7 d6 (by omega)) hN Hk.out HS.swap).mono ?_
              rintro e w' ⟨rfl, q1, q2⟩
              go_wp2_with fail
              go_meet
              exact ⟨outl, da, db.drop k, fa, fb + k, _, rfl, rfl, by omega, Dom.step hD _ _ _ _ _ _ (by omega) (by omega) (by rw [List.length_drop]; omega) (by omega), q1.swap, HR.trans q2⟩
        case rest =>
          clear HS HR h0 h2 h3 hD hol hol2 d5 d6 d7 hdd hdd2 hN hm1 hm2 Hat G0 G2 G3
          obtain ⟨outl2, da2, db2, fa2, fb2, tot2, rfl, rfl, hol3, hD3, HS3, HR3⟩ := hcut
          have hD4 := hD3
          obtain ⟨d1, d2, d3, d4, d5, d6, d7, d8⟩ := hD4
          have hst := str_take_list outl2 da2
          go_wp2_with fail
          refine (sb_len hD3 HS3).mono ?_
          rintro e w' ⟨he, n1, rfl⟩
          clear hst
          rw [show (da2.length : Int) = (outl2.length : Int) + (da2.length : Int) - (outl2.length : Int) by omega] at he
          subst he
          go_wp2_with fail
          refine (sb_held (HS3.drewN n1)).mono ?_
          rintro e w' ⟨rfl, rfl⟩
          go_wp2_with fail
          refine (sb_len hD3 (HS3.drewN n1)).mono ?_
          rintro e w' ⟨rfl, n2, rfl⟩
          go_wp2_with fail
          refine (sb_len (Dom.step hD3 tot2 fb2 fa2 (300 * (i + 1)) db2 da2 d5 d7 d6 d8) (HS3.drewN _).swap).mono ?_
          rintro e w' ⟨rfl, n3, rfl⟩
          go_wp2_with fail
          go_roundg (gk - 1)
          case measure => have := Hik.out; omega
          case rel => exact ⟨i + 1, by have := Hik.out; omega, rfl, outl2, da2, db2, fa2, fb2, tot2, rfl, rfl, hol3, hD3, HS3.drewN _, Ran.drewN HR3 _⟩
      · have hil : i = l.length := by omega
        subst hil
        have hD4 := hD
        obtain ⟨d1, d2, d3, d4, d5, d6, d7, d8⟩ := hD4
        have hk : da.length = min 100000 da.length := by omega
        have hl40 := hf.1
        have hsum : outl.length + da.length ≤ 12300 := by omega
        go_wp2_with fail
        refine (sb_drain (n := 100000) hD (by omega) hk HS).mono ?_
        rintro e w1 ⟨rfl, q1, R1⟩
        rw [List.take_length]
        have hadd := run_string_add_sum (P := Try.prog) w1 ⟨outl.toArray⟩ ⟨da.toArray⟩ (by simp [ByteArray.size]; omega)
        rw [str_cat] at hadd
        go_wp2_with fail
        refine (sb_close1 hD q1 (by omega)).mono ?_
        rintro e w2 ⟨rfl, q2, R2⟩
        go_wp2_with fail
        refine (sb_close2 hD q2).mono ?_
        rintro e w3 ⟨rfl, q3, R3⟩
        go_wp2_with fail
        refine (xheld bp 100000 m c _ _ 0 tot _ w3 q3).mono ?_
        rintro e w' ⟨rfl, rfl⟩
        go_wp2_with fail
        refine (xchunks bp 100000 m c _ _ 0 tot _ w3 q3).mono ?_
        rintro e w' ⟨rfl, rfl⟩
        go_wp2_with fail
        refine (xbuffers bp 100000 m c _ _ 0 tot _ w3 q3).mono ?_
        rintro e w' ⟨rfl, rfl⟩
        go_wp2_with fail
        refine (append_closed _ w3 ba (c2_at q3)).mono ?_
        rintro e w' ⟨rfl, rfl⟩
        go_wp2_with fail
        refine (close_closed w3 ba (c2_at q3)).mono ?_
        rintro e w' ⟨rfl, rfl⟩
        go_wp2_with fail
        refine (awake_calls w3 _ q3).mono ?_
        rintro e w4 ⟨rfl, q4, R4⟩
        go_wp2_with fail
        go_ret
        exact ⟨rfl, Ran.whole' ((((HR.trans R1).trans R2).trans R3).trans R4) q4.right.right.right⟩
  · by_cases hf : Few l
    · by_cases c1 : x < 1
      · go_enter Try.func5, Try.ntmps5
        go_wp2_with (first
          | (go_at_call 7; refine (few_yes _ _ _ _ (by exact hl0) hf).mono ?_; rintro e w' ⟨rfl, rfl⟩)
          | (go_at_call 8; refine (awake_calls _ (keep W) (by exact H0)).mono ?_; rintro e w' ⟨rfl, H, R⟩))
        go_ret
        exact ⟨rfl, Ran.whole' (R0.trans R) H⟩
      · by_cases c2 : 40 < x
        · go_enter Try.func5, Try.ntmps5
          go_wp2_with (first
            | (go_at_call 7; refine (few_yes _ _ _ _ (by exact hl0) hf).mono ?_; rintro e w' ⟨rfl, rfl⟩)
            | (go_at_call 8; refine (awake_calls _ (keep W) (by exact H0)).mono ?_; rintro e w' ⟨rfl, H, R⟩))
          go_ret
          exact ⟨rfl, Ran.whole' (R0.trans R) H⟩
        · by_cases c3 : y < 1
          · go_enter Try.func5, Try.ntmps5
            go_wp2_with (first
              | (go_at_call 7; refine (few_yes _ _ _ _ (by exact hl0) hf).mono ?_; rintro e w' ⟨rfl, rfl⟩)
              | (go_at_call 8; refine (awake_calls _ (keep W) (by exact H0)).mono ?_; rintro e w' ⟨rfl, H, R⟩))
            go_ret
            exact ⟨rfl, Ran.whole' (R0.trans R) H⟩
          · have c4 : 40 < y := by have := mt (fun h => (⟨hf, h⟩ : Few l ∧ 1 ≤ x ∧ x ≤ 40 ∧ 1 ≤ y ∧ y ≤ 40)) hok; omega
            go_enter Try.func5, Try.ntmps5
            go_wp2_with (first
              | (go_at_call 7; refine (few_yes _ _ _ _ (by exact hl0) hf).mono ?_; rintro e w' ⟨rfl, rfl⟩)
              | (go_at_call 8; refine (awake_calls _ (keep W) (by exact H0)).mono ?_; rintro e w' ⟨rfl, H, R⟩))
            go_ret
            exact ⟨rfl, Ran.whole' (R0.trans R) H⟩
    · go_enter Try.func5, Try.ntmps5
      go_wp2_with (first
        | (go_at_call 7; refine (few_no _ _ _ _ (by exact hl0) hf).mono ?_; rintro e w' ⟨rfl, rfl⟩)
        | (go_at_call 8; refine (awake_calls _ (keep W) (by exact H0)).mono ?_; rintro e w' ⟨rfl, H, R⟩))
      go_ret
      exact ⟨rfl, Ran.whole' (R0.trans R) H⟩

set_option maxRecDepth 100000 in
theorem lifted (os : Os) (started : os.Started) (H : Type) (enc : TypeId × Value → H) :
    ReturnsInHanded {} Try.checked os 5 .any (Rows.spillRowSpec.pre6 enc Try.prog Try.f5 Rows.spillRowRow.domain false) (Rows.spillRowSpec.post enc Try.prog Try.f5 false true false false) := by
  refine returnsInHanded_of_change (C := Try.checked) own started (by kernel_rfl) Try.func5
    (ChangeSpec.witness6 (enc := enc) (C := Try.checked) false ⟨#[], #[.slice none 0 0, .agg #[.int .i64 0, .int .i64 0]], []⟩ 8 (by kernel_rfl) (by kernel_rfl) (by kernel_rfl) (by kernel_rfl)) ?_
  intro W base args ds gs before hval0 hW hcnd _
  have hval : ∀ (j : Nat) t v, Try.f5.params[j]? = some t → args[j]? = some v → Value.okWide Try.prog W .any base t v := hval0
  have hW' := hW
  obtain ⟨p, q, hA0, hV, rfl, hfz, hnd⟩ := hW
  have hA : DataW.TrodAll enc Try.prog W 0 (fun _ => true) true Try.f5.params.toList args.toList ds p := hA0
  rw [Try.params5] at hA hval
  obtain ⟨v0, vs0, d0, ds0, p0, q0, hargs, rfl, rfl, h0, r0⟩ := trodAll_cons hA
  obtain ⟨v1, vs1, d1, ds1, p1, q1, rfl, rfl, rfl, h1, r1⟩ := trodAll_cons r0
  obtain ⟨rfl, rfl, rfl⟩ := trodAll_nil r1
  obtain rfl : args = #[v0, v1] := by cases args; simp_all
  obtain ⟨rfl, rfl⟩ := trodVars_none hV
  have k0 := h0
  have lt0 : ∀ x ∈ p0, x.block < W.heap.size := by obtain ⟨m, hm⟩ := k0; exact DataW.trod_lt m _ _ _ hm
  obtain ⟨ao0, l0, cap0, rfl, w0⟩ := ops_open (hval 0 22 v0 rfl rfl) h0
  obtain ⟨x1, y1, rfl, rfl, rfl, wx1, wy1⟩ := open_arr2 Try.underlying52 Try.underlying3 (by kernel_rfl) (by kernel_rfl) (hval 1 52 v1 rfl rfl) h1
  clear hA0 hval0
  refine (walk ao0 cap0 l0 x1 y1 W w0 ).mono fun e W' ⟨he, bel⟩ => ?_
  subst he
  exact ⟨_, rfl, _, _, _, [], _, [], hW', trodAll_mk1 (shut_bool Try.underlying4 _), (trodAll_cons_mk (Below.trod laidOut (by kernel_rfl) (of_decide_eq_true (by kernel_rfl)) k0 bel lt0) (trodAll_cons_mk (shut_arr2 Try.underlying52 Try.underlying3 (by kernel_rfl) (by kernel_rfl) wx1 wy1) trodAll_mk0)), rfl, bel.frame _, fun h => by cases h⟩

theorem over : Rows.spillRowRow.holds Try.pinned (OpenSpec.ofChange Rows.spillRowSpec) :=
  OpenClaim.holds_of_wide 5 Try.f5 rfl rfl rfl rfl rfl rfl rfl ⟨rfl, rfl, rfl, rfl, rfl⟩ rfl rfl rfl rfl rfl (by kernel_rfl) Try.func5 (by kernel_rfl)
    (of_decide_eq_true (by kernel_rfl)) (by unfold Func.isWrapper; first | (rw [if_pos (by decide +kernel)]; kernel_rfl) | (rw [if_neg (by decide +kernel)]; exact ⟨rfl, rfl⟩))
    (fun os started H enc _ => lifted os started H enc)

theorem proved : Rows.SpillRowSaid := over
#print axioms proved
end Go.Proofs.Ytgaeafhkepfgjaa.spillRow
